/- The reference's Fits, Same, Of, Plus, Value, by contract. -/
import Derived.Test.YteioleilblehiaaGreatDoorOwn
import Derived.Deep.QuietTactic
import Derived.BigQuiet
import Derived.Laws.BitsAllLaws
import Derived.Laws.BitsLemmas
namespace Go.Proofs.YteioleilblehiaaGreatDoor
open Go.RowKit

theorem bel_drewN {B : Nat} {w W : World} (h : Below B w W) (n : Nat) : Below B w (W.drewN n) := ⟨h.os, h.tape, h.output, h.size, h.block⟩

def fitsL (xs ys : List Int) : Bool := decide (xs.length = ys.length ∧ ∀ j, j < xs.length → xs.getD j 0 ≤ ys.getD j 0)
theorem fitsL_no {xs ys : List Int} {k : Nat} (h1 : k < xs.length) (h : ys.getD k 0 < xs.getD k 0) : fitsL xs ys = false := by
  unfold fitsL
  rw [decide_eq_false_iff_not]
  intro ⟨_, h2⟩
  have := h2 k h1
  omega
def FitsRel (w : World) (xs ys : List Int) (i : Value) (wr : World) : Prop :=
  ∃ k : Nat, k ≤ xs.length ∧ k ≤ ys.length ∧ i = .int .i64 k ∧ (∀ j, j < k → xs.getD j 0 ≤ ys.getD j 0) ∧ Below w.heap.size w wr

set_option maxHeartbeats 1000000 in
theorem refFits (v u : Value) (xs ys : List Int) (w : World) (hs : I64s w v xs) (hu : I64s w u ys) (hn : xs.length ≤ 1000000000) (_hm : ys.length ≤ 1000000000) :
    Calls Tryz.prog 18 #[v, u] w fun e w' => e = .returned (.bool (fitsL xs ys)) ∧ Below w.heap.size w w' := by
  obtain ⟨r, hr⟩ : ∃ r, fitsL xs ys = r := ⟨_, rfl⟩
  rw [hr]
  have Hr := Lib.hid hr; clear hr
  obtain ⟨a, cap, rfl, hc⟩ := hs
  obtain ⟨b, cbp, rfl, hd⟩ := hu
  have Hc := Lib.hid hc; clear hc
  have Hd := Lib.hid hd; clear hd
  go_enter Tryz.func18, Tryz.ntmps18
  go_wp2
  go_loopw [5] (FitsRel w xs ys) (fun i _ => xs.length - (intOf i).toNat)
  case atStart => exact ⟨0, Nat.zero_le _, Nat.zero_le _, rfl, fun j h => by omega, Below.refl _ _⟩
  case round =>
    obtain ⟨k, hk1, hk2, rfl, hj, hbl⟩ := hrel
    have Hj := Lib.hid hj; clear hj
    have Hbl := Lib.hid hbl
    by_cases h1 : k < xs.length
    · by_cases h2 : k < ys.length
      · have h2' : decide ((k : Int) < ys.length) = true := by simpa using h2
        obtain ⟨b1, o1, rfl, hx⟩ := Hc.out k h1
        obtain ⟨b2, o2, rfl, hy⟩ := Hd.out k h2
        rw [← hbl.cell (cell_lt hx)] at hx
        rw [← hbl.cell (cell_lt hy)] at hy
        obtain ⟨x, ex⟩ : ∃ x, xs.getD k 0 = x := ⟨_, rfl⟩
        obtain ⟨y, ey⟩ : ∃ y, ys.getD k 0 = y := ⟨_, rfl⟩
        rw [ex] at hx
        rw [ey] at hy
        have Hx := Lib.hid ex
        have Hy := Lib.hid ey
        clear ex ey hbl
        by_cases hxy : y < x
        · have hxy' : decide (y < x) = true := by simpa using hxy
          go_wp2
          go_quiet (fail)
          go_wp2
          go_ret
          have := fitsL_no (xs := xs) (ys := ys) h1 (by rw [Hx.out, Hy.out]; exact hxy)
          exact ⟨ret_b (by rw [← Hr.out, this]), bel_drewN Hbl.out _⟩
        · have hxy' : decide (y < x) = false := by simpa using hxy
          go_wp2
          go_quiet (fail)
          go_wp2
          go_roundw
          case rel =>
            refine ⟨k + 1, by omega, by omega, by go_num, fun j hj => ?_, bel_drewN Hbl.out _⟩
            by_cases e : j = k
            · rw [e, Hx.out, Hy.out]; omega
            · exact Hj.out j (by omega)
          case measure => simp [intOf]; omega
      · have hq : ((xs.length : Int) == ys.length) = false := by rw [beq_eq_false_iff_ne]; omega
        have h2' : decide ((k : Int) < ys.length) = false := by simpa using h2
        clear hbl
        go_wp2
        go_ret
        refine ⟨ret_b ?_, Hbl.out⟩
        rw [← Hr.out]
        unfold fitsL
        symm
        rw [decide_eq_false_iff_not]
        omega
    · obtain rfl : k = xs.length := by omega
      obtain ⟨q, hq⟩ : ∃ q, ((xs.length : Int) == ys.length) = q := ⟨_, rfl⟩
      have Hq := Lib.hid hq
      clear hbl
      go_wp2
      go_ret
      refine ⟨ret_b ?_, Hbl.out⟩
      rw [← Hr.out, ← Hq.out]
      unfold fitsL
      rw [Bool.eq_iff_iff, decide_eq_true_iff, beq_iff_eq]
      constructor
      · intro h; exact ⟨by omega, Hj.out⟩
      · intro h; omega

theorem fits_same (xs ys : List Int) : (fitsL xs ys && fitsL ys xs) = decide (xs = ys) := by
  rw [Bool.eq_iff_iff]
  unfold fitsL
  simp only [Bool.and_eq_true, decide_eq_true_eq]
  constructor
  · rintro ⟨⟨h1, h2⟩, _, h4⟩
    refine List.ext_getElem h1 (fun i a b => ?_)
    have e1 := h2 i a
    have e2 := h4 i b
    rw [List.getD_eq_getElem?_getD, List.getD_eq_getElem?_getD, List.getElem?_eq_getElem a, List.getElem?_eq_getElem b] at e1 e2
    simp at e1 e2
    omega
  · rintro rfl
    exact ⟨⟨rfl, fun _ _ => Int.le_refl _⟩, rfl, fun _ _ => Int.le_refl _⟩
theorem refSame (v u : Value) (xs ys : List Int) (w : World) (hs : I64s w v xs) (hu : I64s w u ys) (hn : xs.length ≤ 1000000000) (hm : ys.length ≤ 1000000000) :
    Calls Tryz.prog 7 #[v, u] w fun e w' => e = .returned (.bool (decide (xs = ys))) ∧ Below w.heap.size w w' := by
  have H1 := Lib.hid (refFits v u xs ys w hs hu hn hm)
  have H2 := Lib.hid (fun W (hb : Below w.heap.size w W) => refFits u v ys xs W (hu.below hb) (hs.below hb) hm hn)
  rw [← fits_same]
  obtain ⟨a, cap, rfl, hc⟩ := hs
  obtain ⟨b, cbp, rfl, hd⟩ := hu
  clear hc hd
  generalize fitsL xs ys = p at *
  generalize fitsL ys xs = q at *
  cases p
  · go_enter Tryz.func7, Tryz.ntmps7
    go_wp2_with (go_at_call 18; refine (H1.out).mono ?_; rintro e w' ⟨rfl, hb⟩)
    go_ret
    exact ⟨rfl, hb⟩
  · go_enter Tryz.func7, Tryz.ntmps7
    go_wp2_with (first
      | (go_at_call 18; refine (H2.out _ hb1).mono ?_; rintro e w2 ⟨rfl, hb2⟩)
      | (go_at_call 18; refine (H1.out).mono ?_; rintro e w1 ⟨rfl, hb1⟩))
    go_ret
    exact ⟨by simp, bel_trans hb1 hb2⟩
end Go.Proofs.YteioleilblehiaaGreatDoor
