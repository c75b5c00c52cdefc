/- vec.Wrong and its reference: both give wrongI. -/
import Derived.Test.YteioleilblehiaaGreatDoorSl
namespace Go.Proofs.YteioleilblehiaaGreatDoor
open Go.RowKit


def refWrongRel (xs : List Int) (i : Value) : Prop := ∃ k : Nat, k ≤ xs.length ∧ i = .int .i64 k ∧ ∀ j, j < k → badN (xs.getD j 0) = false
set_option maxHeartbeats 1000000 in
theorem refWrong (v : Value) (xs : List Int) (d : Int) (w : World) (hs : I64s w v xs) (hn : xs.length ≤ 9223372036854775807) :
    Calls Tryz.prog 14 #[v, .int .i64 d] w fun e w' => e = .returned (.int .i64 (wrongI xs d)) ∧ w = w' := by
  have hb := badAt_le xs 0 (by omega)
  generalize hr : wrongI xs d = r
  unfold wrongI at hr
  have Hr := Lib.hid hr; clear hr
  obtain ⟨a, cap, rfl, hc⟩ := hs
  have Hc := Lib.hid hc; clear hc
  have Hb := Lib.hid hb; clear hb
  go_enter Tryz.func14, Tryz.ntmps14
  go_wp2
  go_loop [5] (refWrongRel xs) (fun i => xs.length - (intOf i).toNat)
  case atStart => exact ⟨0, Nat.zero_le _, rfl, fun j h => by omega⟩
  case round =>
    obtain ⟨k, hk, rfl, hj⟩ := hrel
    have Hj := Lib.hid hj; clear hj
    by_cases hlt : k < xs.length
    · obtain ⟨b, off, rfl, hcell⟩ := Hc.out k hlt
      generalize hx : xs.getD k 0 = x at hcell
      have Hx := Lib.hid hx; clear hx
      by_cases h1 : x < 0
      · have h1' : decide (x < 0) = true := by simpa using h1
        go_wp2
        go_ret
        have := badAt_at (xs := xs) k 0 Hj.out hlt (by rw [Hx.out]; simp [badN, h1])
        have hr := Hr.out
        rw [if_pos (.inl (by omega))] at hr
        exact ⟨ret_i (by omega), rfl⟩
      · have h1' : decide (x < 0) = false := by simpa using h1
        by_cases h2 : 1099511627776 < x
        · have h2' : decide (1099511627776 < x) = true := by simpa using h2
          go_wp2
          go_ret
          have := badAt_at (xs := xs) k 0 Hj.out hlt (by rw [Hx.out]; simp [badN, h2])
          have hr := Hr.out
          rw [if_pos (.inl (by omega))] at hr
          exact ⟨ret_i (by omega), rfl⟩
        · have h2' : decide (1099511627776 < x) = false := by simpa using h2
          go_wp2
          go_round
          case rel =>
            refine ⟨k + 1, by omega, by go_num, fun j hj => ?_⟩
            by_cases e : j = k
            · rw [e, Hx.out]; unfold badN; rw [h1', h2']; rfl
            · exact Hj.out j (by omega)
          case measure => simp [intOf]; omega
    · obtain rfl : k = xs.length := by omega
      have hbn := badAt_all Hj.out 0
      have hr := Hr.out
      rw [hbn] at hr
      clear hbn
      have Hr2 := Lib.hid hr; clear hr
      by_cases hd : (xs.length : Int) = d
      · have hd' : ((xs.length : Int) == d) = true := by simpa using hd
        have Hd := Lib.hid hd; clear hd
        go_wp2
        go_ret
        have hr := Hr2.out
        rw [if_pos (.inr Hd.out)] at hr
        exact ⟨ret_i (by omega), rfl⟩
      · have hd' : ((xs.length : Int) == d) = false := by simpa using hd
        go_wp2
        all_goals go_ret
        all_goals (have hr := Hr2.out; rw [if_neg (by omega)] at hr; exact ⟨ret_i (by omega), rfl⟩)
end Go.Proofs.YteioleilblehiaaGreatDoor
