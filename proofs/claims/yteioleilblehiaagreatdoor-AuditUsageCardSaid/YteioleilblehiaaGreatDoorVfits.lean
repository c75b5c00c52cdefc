/- vec.Fits, by contract. -/
import Derived.Test.YteioleilblehiaaGreatDoorAdd
import Derived.Test.YteioleilblehiaaGreatDoorRefVec
namespace Go.Proofs.YteioleilblehiaaGreatDoor
open Go.RowKit

theorem fits1 (x y : Int) (w : World) : Calls Tryz.prog 57 #[.int .i64 x, .int .i64 y] w fun e w' => e = .returned (.tuple #[.int .i64 0, .bool (decide (x ≤ y))]) ∧ w = w' := by
  obtain ⟨b, hb⟩ : ∃ b, decide (x ≤ y) = b := ⟨_, rfl⟩
  rw [hb]
  go_enter Tryz.func57, Tryz.ntmps57
  go_wp2
  go_ret2
  exact ⟨rfl, rfl⟩
theorem fits1q (x y : Int) (b : Bool) (w : World) (hb : decide (x ≤ y) = b) : Calls Tryz.prog 57 #[.int .i64 x, .int .i64 y] w fun e w' => e = .returned (.tuple #[.int .i64 0, .bool b]) ∧ w' = w :=
  (fits1 x y w).mono fun e w' ⟨h1, h2⟩ => ⟨by rw [h1, hb], h2.symm⟩
def BothRel (w : World) (xs ys : List Int) (n : Nat) (i : Value) (wr : World) : Prop :=
  ∃ k : Nat, k ≤ n ∧ i = .int .i64 k ∧ Below w.heap.size w wr ∧ wr.rowIs w.heap.size 2 n (fun _ => .int .i64 0) ∧ ∀ j, j < k → xs.getD j 0 ≤ ys.getD j 0
def BothPost (w : World) (b : Bool) (e : Ending) (w' : World) : Prop := ∃ v, e = .returned (.tuple #[v, .bool b]) ∧ Below w.heap.size w w'

set_option maxHeartbeats 2000000 in
set_option maxRecDepth 100000 in
theorem both_fits (v u : Value) (xs ys : List Int) (w : World) (hs : I64s w v xs) (hu : I64s w u ys) (hn : xs.length ≤ 1000000000) (_hm : ys.length ≤ 1000000000) :
    Calls Tryz.prog 56 #[v, u, .func (.func 57) #[] #[]] w (BothPost w (fitsL xs ys)) := by
  obtain ⟨r, hr⟩ : ∃ r, fitsL xs ys = r := ⟨_, rfl⟩
  rw [hr]
  have Hr := Lib.hid hr; clear hr
  obtain ⟨a, cap, rfl, hc⟩ := hs
  obtain ⟨b, cbp, rfl, hd⟩ := hu
  have Hc := Lib.hid hc; clear hc
  have Hd := Lib.hid hd; clear hd
  by_cases hl : xs.length = ys.length
  · have hl' : ((xs.length : Int) != ys.length) = false := by simp [hl]
    have hmk := make64 xs.length hn
    have RM := Lib.hid (World.rowIs_made w (.int .i64 0) xs.length 2)
    have Hl := Lib.hid hl; clear hl
    go_enter Tryz.func56, Tryz.ntmps56
    go_wp2
    go_loopw [22] (BothRel w xs ys xs.length) (fun i _ => xs.length - (intOf i).toNat)
    case atStart => exact ⟨0, Nat.zero_le _, rfl, bel_alloc (Below.refl _ _) _, RM.out, fun j h => by omega⟩
    case round =>
      obtain ⟨k, hk, rfl, hbl, hrow, hj⟩ := hrel
      have Hj := Lib.hid hj; clear hj
      have Hbl := Lib.hid hbl
      have Hrow := Lib.hid hrow
      by_cases hlt : k < xs.length
      · obtain ⟨b1, o1, rfl, hx⟩ := Hc.out k hlt
        obtain ⟨b2, o2, rfl, hy⟩ := Hd.out k (by have := Hl.out; omega)
        rw [← hbl.cell (cell_lt hx)] at hx
        rw [← hbl.cell (cell_lt hy)] at hy
        obtain ⟨x, ex⟩ : ∃ x, xs.getD k 0 = x := ⟨_, rfl⟩
        obtain ⟨y, ey⟩ : ∃ y, ys.getD k 0 = y := ⟨_, rfl⟩
        rw [ex] at hx
        rw [ey] at hy
        have Hx := Lib.hid ex
        have Hy := Lib.hid ey
        have hky : (k : Int) < ys.length := by have := Hl.out; omega
        have hcl := hrow.cell hlt
        have hfr := hrow.frozen k
        clear ex ey hbl hrow
        cases hb : decide (x ≤ y)
        · have H1 := Lib.hid (fun m => fits1q x y _ (wr.drewN m) hb)
          go_wp2
          go_quiet ((go_at_call 57; exact Calls.quiet_of_same (H1.out _)))
          go_wp2
          go_ret2
          have := fitsL_no (xs := xs) (ys := ys) hlt (by rw [Hx.out, Hy.out]; simpa using hb)
          rw [this] at Hr
          exact ⟨_, by rw [← Hr.out]; rfl, bel_drewN Hbl.out _⟩
        · have H1 := Lib.hid (fun m => fits1q x y _ (wr.drewN m) hb)
          go_wp2
          go_quiet ((go_at_call 57; exact Calls.quiet_of_same (H1.out _)))
          go_wp2
          go_roundw
          case rel =>
            refine ⟨k + 1, by omega, by go_num, (bel_drewN Hbl.out _).setCell (Nat.le_refl _) _, (World.rowIs.set (w := wr.drewN _) Hrow.out k _).congr (fun i hi => by split <;> rfl), fun j hj => ?_⟩
            by_cases e : j = k
            · rw [e, Hx.out, Hy.out]; simpa using hb
            · exact Hj.out j (by omega)
          case measure => simp [intOf]; omega
      · obtain rfl : k = xs.length := by omega
        clear hbl hrow
        go_wp2
        go_ret2
        have : fitsL xs ys = true := by
          unfold fitsL
          exact decide_eq_true ⟨Hl.out, Hj.out⟩
        rw [this] at Hr
        exact ⟨_, by rw [← Hr.out]; rfl, Hbl.out⟩
  · have hl' : ((xs.length : Int) != ys.length) = true := by simp; omega
    have hf : fitsL xs ys = false := by
      unfold fitsL
      rw [decide_eq_false_iff_not]
      exact fun h => hl h.1
    rw [hf] at Hr
    clear hl hf
    go_enter Tryz.func56, Tryz.ntmps56
    go_wp2
    go_ret2
    exact ⟨_, by rw [← Hr.out]; rfl, Below.refl _ _⟩
theorem vec_Fits (v u : Value) (xs ys : List Int) (w : World) (hs : I64s w v xs) (hu : I64s w u ys) (hn : xs.length ≤ 1000000000) (hm : ys.length ≤ 1000000000) :
    Calls Tryz.prog 45 #[v, u] w fun e w' => e = .returned (.bool (fitsL xs ys)) ∧ Below w.heap.size w w' := by
  have H := Lib.hid (both_fits v u xs ys w hs hu hn hm)
  obtain ⟨a, cap, rfl, hc⟩ := hs
  obtain ⟨b, cbp, rfl, hd⟩ := hu
  clear hc hd
  generalize fitsL xs ys = q at *
  go_enter Tryz.func45, Tryz.ntmps45
  go_wp2_with (go_at_call 56; refine (H.out).mono ?_; rintro e w' ⟨v', rfl, hb⟩)
  go_ret
  exact ⟨rfl, hb⟩
end Go.Proofs.YteioleilblehiaaGreatDoor
