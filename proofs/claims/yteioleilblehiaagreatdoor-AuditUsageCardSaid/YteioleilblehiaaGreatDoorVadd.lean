/- vec.Add, by contract: the sums of the columns, or none where one does not fit. -/
import Derived.Test.YteioleilblehiaaGreatDoorAdd
import Derived.Lib.Hide
namespace Go.Proofs.YteioleilblehiaaGreatDoor
open Go.RowKit

def sumsL (L : List (List Int)) (n : Nat) : List Int := (List.range n).map fun i => sumL (colOf L i)
def addB (L : List (List Int)) (n : Nat) : Bool := (List.range n).all fun i => fitsB (sumL (colOf L i))
/-- What vec.Add leaves: a new slice and true; or nil and false. -/
def AddPost (w : World) (L : List (List Int)) (n : Nat) (e : Ending) (w' : World) : Prop :=
  (addB L n = true ∧ ∃ v, e = .returned (.tuple #[v, .bool true]) ∧ I64s w' v (sumsL L n) ∧ freshSl w.heap.size v ∧ okSl w' v ∧ Below w.heap.size w w') ∨
  (addB L n = false ∧ e = .returned (.tuple #[.slice none 0 0, .bool false]) ∧ Below w.heap.size w w')
def AddRel (w : World) (v : Value) (L : List (List Int)) (n : Nat) (i : Value) (wr : World) : Prop :=
  ∃ k : Nat, k ≤ n ∧ i = .int .i64 k ∧ Below (w.heap.size + 1) (w.alloc (.cells #[v] 37)) wr ∧ wr.rowIs (w.heap.size + 1) 2 n (fun j => .int .i64 (if j < k then wrap64 (sumL (colOf L j)) else 0)) ∧ ∀ j, j < k → fitsB (sumL (colOf L j)) = true

theorem fits_wrap {s : Int} (h : fitsB s = true) : wrap64 s = s := by
  unfold fitsB at h
  simp at h
  unfold wrap64
  omega
theorem addB_no {L : List (List Int)} {n k : Nat} (hk : k < n) (h : fitsB (sumL (colOf L k)) = false) : addB L n = false := by
  unfold addB
  rw [List.all_eq_false]
  exact ⟨k, by simpa using hk, by simp [h]⟩
theorem addB_yes {L : List (List Int)} {n : Nat} (h : ∀ j, j < n → fitsB (sumL (colOf L j)) = true) : addB L n = true := by
  unfold addB
  rw [List.all_eq_true]
  exact fun j hj => h j (by simpa using hj)

set_option maxHeartbeats 4000000 in
set_option maxRecDepth 100000 in
theorem vec_Add (v : Value) (L : List (List Int)) (n : Nat) (w : World) (h : SlRows w v L) (hn : L.length ≤ 1000000000) (h0 : 0 < L.length) (he : ∀ r, r ∈ L → r.length = n) (hnm : n ≤ 1000000000)
    (hb : ∀ r, r ∈ L → ∀ x, x ∈ r → -9223372036854775808 ≤ x ∧ x ≤ 9223372036854775807) :
    Calls Tryz.prog 17 #[v] w (AddPost w L n) := by
  have h00 : (L.getD 0 []).length = n := he _ (by rw [List.getD_eq_getElem?_getD, List.getElem?_eq_getElem h0]; exact List.getElem_mem _)
  have HS := Lib.hid (fun W (hbb : Below w.heap.size w W) (i : Nat) (hi : i < n) => vec_sum v L i W (h.below hbb) hn (fun r hr => by rw [he r hr]; exact hi) (by omega) (fun r hr => hb r hr _ (by
    have : i < r.length := by rw [he r hr]; exact hi
    rw [List.getD_eq_getElem?_getD, List.getElem?_eq_getElem this]; exact List.getElem_mem _)))
  have HC := Lib.hid (containsFunc_add w.heap.size v L (w.alloc (.cells #[v] 37)) (h.below (bel_alloc (Below.refl _ _) _)) (by simp) hn (fun r hr => by rw [he r hr, h00]))
  have hmk := make64 n hnm
  have RM := Lib.hid (World.rowIs_made (w.alloc (.cells #[v] 37)) (.int .i64 0) n 2)
  obtain ⟨a, cap, rfl, hc⟩ := h
  obtain ⟨b, off, u0, rfl, hcell, cs⟩ := hc 0 h0
  obtain ⟨a0, cap0, rfl, hc0⟩ := cs
  rw [Nat.add_zero] at hcell
  rw [h00] at hcell
  clear hc hc0 he hb h00
  have hq : ((L.length : Int) == 0) = false := by rw [beq_eq_false_iff_ne]; omega
  have hlt : b < w.heap.size := cell_lt hcell
  go_enter Tryz.func17, Tryz.ntmps17
  go_wp2_with (go_at_call 30; refine (HC.out).mono ?_; rintro e w' ⟨rfl, rfl⟩)
  go_loopw [23] (AddRel w (.slice (some ⟨b, off, none⟩) L.length cap) L n) (fun i _ => n - (intOf i).toNat)
  case atStart => exact ⟨0, Nat.zero_le _, rfl, (Below.refl _ _).alloc (by simp) _, by simpa using RM.out, fun j h => by omega⟩
  case round =>
    obtain ⟨k, hk, rfl, hbl, hrow, hj⟩ := hrel
    have Hj := Lib.hid hj; clear hj
    have Hbl := Lib.hid hbl
    have Hrow := Lib.hid hrow
    have hbw : Below w.heap.size w wr := (bel_alloc (Below.refl _ _) _).trans (hbl.mono (by omega))
    have Hbw := Lib.hid hbw
    have hbox : wr.cell? ⟨w.heap.size, 0, none⟩ = some (.slice (some ⟨b, off, none⟩) L.length cap) := by
      rw [hbl.cell (by simp)]; rw [World.cell?_alloc_new]; rfl
    by_cases hlt : k < n
    · have hcl := hrow.cell hlt
      have hfr := hrow.frozen k
      rw [if_neg (by omega)] at hcl
      have hs := Lib.hid (HS.out wr hbw k hlt)
      clear hrow hbl hbw
      cases hf : fitsB (sumL (colOf L k))
      · rw [hf] at hs
        go_wp2_with (go_at_call 32; refine (hs.out).mono ?_; rintro e w' ⟨rfl, rfl⟩)
        go_ret2
        exact .inr ⟨addB_no hlt hf, rfl, Hbw.out⟩
      · rw [hf] at hs
        go_wp2_with (go_at_call 32; refine (hs.out).mono ?_; rintro e w' ⟨rfl, rfl⟩)
        go_roundw
        case rel => 
          refine ⟨k + 1, by omega, by go_num, Hbl.out.setCell (by simp) _, (Hrow.out.set k _).congr (fun i hi => ?_), fun j hj => ?_⟩
          · by_cases hik : i = k
            · subst hik; simp
            · rw [if_neg hik]; congr 1
              by_cases h1 : i < k
              · rw [if_pos h1, if_pos (by omega)]
              · rw [if_neg h1, if_neg (by omega)]
          · by_cases hjk : j = k
            · subst hjk; exact hf
            · exact Hj.out j (by omega)
        case measure => simp [intOf]; omega
    · obtain rfl : k = n := by omega
      have hln : (sumsL L k).length = k := by simp [sumsL]
      have hS := I64s.of_row (xs := sumsL L k) (cap := k) Hrow.out hln (fun i hi => by
        rw [if_pos hi, fits_wrap (Hj.out i hi)]
        simp [sumsL, List.getD_eq_getElem?_getD, hi])
      rw [hln] at hS
      have HSS := Lib.hid hS
      have HLt := Lib.hid (hrow.lt)
      clear hS hrow hbl hbw hln
      go_wp2
      go_ret2
      exact .inl ⟨addB_yes Hj.out, _, rfl, HSS.out, fun ad n c e => by cases e; exact Nat.le_succ _, fun ad n c e => by cases e; exact ⟨HLt.out, rfl⟩, Hbw.out⟩
end Go.Proofs.YteioleilblehiaaGreatDoor
