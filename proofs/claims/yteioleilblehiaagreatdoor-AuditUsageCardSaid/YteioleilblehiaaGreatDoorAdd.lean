/- vec.Add and vec.Zero, by contract. -/
import Derived.Test.YteioleilblehiaaGreatDoorSum
import Derived.Test.YteioleilblehiaaGreatDoorOwn
namespace Go.Proofs.YteioleilblehiaaGreatDoor
open Go.RowKit

def LenRel (L : List (List Int)) (i : Value) : Prop := ∃ n : Nat, n ≤ L.length ∧ i = .int .i64 n

/-- The predicate of vec.Add: no vector has another length than the first. -/
theorem add1 (bx : Nat) (u : Value) (xs : List Int) (v : Value) (L : List (List Int)) (w : World) (hu : I64s w u xs) (h : SlRows w v L) (hb : w.cell? ⟨bx, 0, none⟩ = some v) (hl : 0 < L.length) (he : xs.length = (L.getD 0 []).length) :
    Calls Tryz.prog 31 #[u, .pointer (some ⟨bx, 0, none⟩)] w fun e w' => e = .returned (.bool false) ∧ w = w' := by
  obtain ⟨a, cap, rfl, hc⟩ := h
  obtain ⟨b, off, u0, rfl, hcell, cs⟩ := hc 0 hl
  obtain ⟨a0, cap0, rfl, hc0⟩ := cs
  obtain ⟨a1, cap1, rfl, hc1⟩ := hu
  have hq : ((xs.length : Int) != ((L.getD 0 []).length : Int)) = false := by simp [he]
  rw [Nat.add_zero] at hcell
  clear hc hc0 hc1 he
  generalize (L.getD 0 []).length = m at *
  generalize xs.length = n at *
  go_enter Tryz.func31, Tryz.ntmps31
  go_wp2
  go_ret
  exact ⟨rfl, rfl⟩

set_option maxHeartbeats 1000000 in
theorem indexFunc_add (bx : Nat) (v : Value) (L : List (List Int)) (w : World) (h : SlRows w v L) (hb : w.cell? ⟨bx, 0, none⟩ = some v) (hn : L.length ≤ 1000000000) (he : ∀ r, r ∈ L → r.length = (L.getD 0 []).length) :
    Calls Tryz.prog 43 #[v, .func (.func 31) #[] #[.pointer (some ⟨bx, 0, none⟩)]] w fun e w' => e = .returned (.int .i64 (-1)) ∧ w = w' := by
  have HA := Lib.hid (fun u xs (hu : I64s w u xs) (hl : 0 < L.length) (he : xs.length = (L.getD 0 []).length) => add1 bx u xs v L w hu h hb hl he)
  obtain ⟨a, cap, rfl, hc⟩ := h
  have Hc := Lib.hid hc; clear hc
  have He := Lib.hid he; clear he
  clear hb
  go_enter Tryz.func43, Tryz.ntmps43
  go_wp2
  go_loop [8] (LenRel L) (fun i => L.length - (intOf i).toNat)
  case atStart => exact ⟨0, Nat.zero_le _, rfl⟩
  case round =>
    obtain ⟨k, hk, rfl⟩ := hrel
    by_cases hlt : k < L.length
    · obtain ⟨b, off, u, rfl, hcell, cs⟩ := Hc.out k hlt
      have hm : L.getD k [] ∈ L := by rw [List.getD_eq_getElem?_getD, List.getElem?_eq_getElem hlt]; exact List.getElem_mem _
      have hh := Lib.hid (HA.out u _ cs (by omega) (He.out _ hm))
      clear hm cs
      go_wp2_with (go_at_call 31; refine (hh.out).mono ?_; rintro e w' ⟨rfl, rfl⟩)
      go_round
      case rel => exact ⟨k + 1, by omega, by go_num⟩
      case measure => simp [intOf]; omega
    · go_wp2
      go_ret
      exact ⟨rfl, rfl⟩

theorem containsFunc_add (bx : Nat) (v : Value) (L : List (List Int)) (w : World) (h : SlRows w v L) (hb : w.cell? ⟨bx, 0, none⟩ = some v) (hn : L.length ≤ 1000000000) (he : ∀ r, r ∈ L → r.length = (L.getD 0 []).length) :
    Calls Tryz.prog 30 #[v, .func (.func 31) #[] #[.pointer (some ⟨bx, 0, none⟩)]] w fun e w' => e = .returned (.bool false) ∧ w = w' := by
  have HH := Lib.hid (indexFunc_add bx v L w h hb hn he)
  clear h hb he
  go_enter Tryz.func30, Tryz.ntmps30
  go_wp2_with (go_at_call 43; refine (HH.out).mono ?_; rintro e w' ⟨rfl, rfl⟩)
  go_ret
  exact ⟨rfl, rfl⟩

theorem make64 (n : Nat) (hn : n ≤ 1000000000) (w : World) : (Instr.makeSlice 29 (.int .i64 (n : Int)) (.int .i64 (n : Int))).run Tryz.prog w = .ok (.slice (some ⟨w.heap.size, 0, none⟩) n n) (w.alloc (.cells (madeCells #[.int .i64 0] n) 2)) :=
  run_make_row' 29 2 (.int .i64 0) 8 Tryz.underlying29 info64 rfl .i64 .i64 n (by omega) (by omega) w
/-- A new slice with the numbers xs, never nil. -/
def NewRow (w : World) (xs : List Int) (e : Ending) (w' : World) : Prop := ∃ a cap, e = .returned (.slice (some a) xs.length cap) ∧ I64s w' (.slice (some a) xs.length cap) xs ∧ freshSl w.heap.size (.slice (some a) xs.length cap) ∧ okSl w' (.slice (some a) xs.length cap) ∧ Below w.heap.size w w'
theorem newRow_made (w : World) (n : Nat) : NewRow w (List.replicate n 0) (.returned (.slice (some ⟨w.heap.size, 0, none⟩) n n)) (w.alloc (.cells (madeCells #[.int .i64 0] n) 2)) := by
  have h := World.rowIs_made w (.int .i64 0) n 2
  have hs := I64s.of_row (xs := List.replicate n 0) (cap := n) h (by simp) (fun i hi => by simp [List.getD_eq_getElem?_getD, hi])
  rw [List.length_replicate] at hs
  refine ⟨⟨w.heap.size, 0, none⟩, n, by rw [List.length_replicate], by rw [List.length_replicate]; exact hs, fun ad n c e => ?_, fun ad n c e => ?_, bel_alloc (Below.refl _ _) _⟩
  · cases e; exact Nat.le_refl _
  · cases e; exact ⟨by simp, rfl⟩
theorem vec_Zero (d : Int) (n : Nat) (w : World) (hd : max d 0 = n) (hn : n ≤ 1000000000) : Calls Tryz.prog 15 #[.int .i64 d] w (NewRow w (List.replicate n 0)) := by
  have H := Lib.hid (newRow_made w n)
  by_cases h : d < 0
  · obtain rfl : n = 0 := by omega
    have hm : ∀ W, (Instr.makeSlice 29 (.int .i64 0) (.int .i64 0)).run Tryz.prog W = .ok (.slice (some ⟨W.heap.size, 0, none⟩) 0 0) (W.alloc (.cells (madeCells #[.int .i64 0] 0) 2)) := fun W => make64 0 (by omega) W
    clear hd hn
    go_enter Tryz.func15, Tryz.ntmps15
    go_wp2
    go_ret
    exact H.out
  · obtain rfl : d = n := by omega
    clear hd
    have hm := make64 n hn
    go_enter Tryz.func15, Tryz.ntmps15
    go_wp2
    go_ret
    exact H.out
end Go.Proofs.YteioleilblehiaaGreatDoor
