/- Slices of int64 as lists; small facts. -/
import Derived.Test.YteioleilblehiaaGreatDoorBlk
import Derived.WalkKit
import Derived.WalkSpells
import Derived.WalkLawsBesides
import Derived.Outline
import Derived.Lib.Hide
import Derived.Deep.LoopGhost
import Derived.Deep.RegionHeld3
namespace Go.Proofs.YteioleilblehiaaGreatDoor
open Go.RowKit

theorem ret_b {a b : Bool} (h : a = b) : Ending.returned (.bool a) = .returned (.bool b) := by rw [h]
theorem ret_i {a b : Int} (h : a = b) : Ending.returned (.int .i64 a) = .returned (.int .i64 b) := by rw [h]

/-- An amount that is not valid. -/
def badN (n : Int) : Bool := decide (n < 0) || decide (1099511627776 < n)
/-- The index of the first amount that is not valid, from i on; -1 if there is none. -/
def badAt : Int → List Int → Int
  | _, [] => -1
  | i, x :: r => if badN x then i else badAt (i + 1) r
def wrongI (xs : List Int) (dims : Int) : Int :=
  if 0 ≤ badAt 0 xs ∨ (xs.length : Int) = dims then badAt 0 xs else max (min dims xs.length) 0

theorem badAt_le (xs : List Int) : ∀ i : Int, 0 ≤ i → badAt i xs = -1 ∨ (i ≤ badAt i xs ∧ badAt i xs < i + xs.length) := by
  induction xs with
  | nil => intro i _; exact .inl rfl
  | cons x r ih =>
    intro i hi
    unfold badAt
    split
    · right; simp; omega
    · rcases ih (i + 1) (by omega) with h | h
      · exact .inl h
      · right; simp; omega
theorem badAt_none {xs : List Int} (h : ∀ x, x ∈ xs → badN x = false) : ∀ i, badAt i xs = -1 := by
  induction xs with
  | nil => intro i; rfl
  | cons x r ih => intro i; unfold badAt; rw [h x (by simp)]; simp; exact ih (fun y hy => h y (by simp [hy])) _
theorem badAt_at {xs : List Int} : ∀ (k : Nat) (i : Int), (∀ j, j < k → badN (xs.getD j 0) = false) → k < xs.length → badN (xs.getD k 0) = true → badAt i xs = i + k := by
  induction xs with
  | nil => intro k i _ h; simp at h
  | cons x r ih =>
    intro k i h1 h2 h3
    unfold badAt
    cases k with
    | zero => simp at h3; rw [h3]; simp
    | succ k =>
      have h0 := h1 0 (by omega)
      simp at h0
      rw [h0]
      simp only [Bool.false_eq_true, if_false]
      rw [ih k (i + 1) (fun j hj => by simpa using h1 (j + 1) (by omega)) (by simpa using h2) (by simpa using h3)]
      omega
theorem badAt_all {xs : List Int} (h : ∀ j, j < xs.length → badN (xs.getD j 0) = false) (i : Int) : badAt i xs = -1 := by
  refine badAt_none (fun x hx => ?_) i
  obtain ⟨j, hj, rfl⟩ := List.mem_iff_getElem.1 hx
  have := h j hj
  simpa [List.getD_eq_getElem?_getD, List.getElem?_eq_getElem hj] using this

end Go.Proofs.YteioleilblehiaaGreatDoor
