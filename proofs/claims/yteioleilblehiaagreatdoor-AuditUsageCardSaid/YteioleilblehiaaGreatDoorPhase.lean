/- phase.Waits, phase.Placed, phase.Holds, by contract. -/
import Derived.Test.YteioleilblehiaaGreatDoorBlk
import Derived.WalkKit
import Derived.WalkSpells
import Derived.WalkLawsBesides
import Derived.Lib.Hide
namespace Go.Proofs.YteioleilblehiaaGreatDoor
open Go.RowKit

def waitsB (n : Int) : Bool := n == 1 || n == 2
def placedB (n : Int) : Bool := n == 2 || n == 3 || n == 4
def holdsB (n : Int) : Bool := n == 3 || n == 4

theorem phase_Waits (n : Int) (w : World) : Calls Tryz.prog 29 #[.int .i64 n] w fun e w' => e = .returned (.bool (waitsB n)) ∧ w = w' := by
  unfold waitsB
  by_cases h1 : n = 1
  · subst h1
    go_enter Tryz.func29, Tryz.ntmps29
    go_wp2
    go_ret
    exact ⟨rfl, rfl⟩
  · have h1' : (n == 1) = false := by simpa using h1
    rw [h1']
    generalize hq : (n == 2) = q
    go_enter Tryz.func29, Tryz.ntmps29
    go_wp2
    go_ret
    exact ⟨by simp, rfl⟩

theorem phase_Placed (n : Int) (w : World) : Calls Tryz.prog 28 #[.int .i64 n] w fun e w' => e = .returned (.bool (placedB n)) ∧ w = w' := by
  unfold placedB
  go_enter Tryz.func28, Tryz.ntmps28
  go_wp2
  all_goals go_ret
  all_goals exact ⟨by simp [*], rfl⟩

theorem phase_Holds (n : Int) (w : World) : Calls Tryz.prog 16 #[.int .i64 n] w fun e w' => e = .returned (.bool (holdsB n)) ∧ w = w' := by
  have HP := Lib.hid (fun W => phase_Placed n W)
  have HW := Lib.hid (fun W => phase_Waits n W)
  have hh : holdsB n = (placedB n && !waitsB n) := by
    unfold holdsB placedB waitsB
    rw [Bool.eq_iff_iff]
    simp
    omega
  rw [hh]
  clear hh
  generalize placedB n = p at *
  generalize waitsB n = q at *
  cases p
  all_goals
    go_enter Tryz.func16, Tryz.ntmps16
    go_wp2_with (first
      | (go_at_call 28; refine (HP.out _).mono ?_; rintro e w' ⟨rfl, rfl⟩)
      | (go_at_call 29; refine (HW.out _).mono ?_; rintro e w' ⟨rfl, rfl⟩))
    go_ret
    exact ⟨by simp, rfl⟩
end Go.Proofs.YteioleilblehiaaGreatDoor
