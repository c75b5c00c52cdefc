/- The reference's Few at pods and views, by contract. -/
import Derived.Test.YteioleilblehiaaGreatDoorPods
import Derived.Test.YteioleilblehiaaGreatDoorWrong
import Derived.Test.YteioleilblehiaaGreatDoorRefVec
namespace Go.Proofs.YteioleilblehiaaGreatDoor
open Go.RowKit

def badP (p : PodR) : Bool := decide (p.prio < -1073741824) || decide (1073741824 < p.prio) || decide (20 < (p.req.length : Int))
def few6 (ps : List PodR) : Bool := ps.all (fun p => !badP p) && decide ((ps.length : Int) ≤ 100)
theorem few6_no {ps : List PodR} {k : Nat} (hk : k < ps.length) (h : badP (ps.getD k pod0) = true) : few6 ps = false := by
  unfold few6
  have : (ps.all fun p => !badP p) = false := by
    rw [List.all_eq_false]
    exact ⟨ps.getD k pod0, by rw [List.getD_eq_getElem?_getD, List.getElem?_eq_getElem hk]; exact List.getElem_mem _, by rw [h]; simp⟩
  rw [this, Bool.false_and]
theorem few6_all {ps : List PodR} (h : ∀ j, j < ps.length → badP (ps.getD j pod0) = false) : few6 ps = decide ((ps.length : Int) ≤ 100) := by
  unfold few6
  have : (ps.all fun p => !badP p) = true := by
    rw [List.all_eq_true]
    intro x hx
    obtain ⟨j, hj, rfl⟩ := List.mem_iff_getElem.1 hx
    have := h j hj
    rw [List.getD_eq_getElem?_getD, List.getElem?_eq_getElem hj] at this
    simp at this
    rw [this]; rfl
  rw [this, Bool.true_and]
def Few6Rel (ps : List PodR) (i : Value) : Prop := ∃ k : Nat, k ≤ ps.length ∧ i = .int .i64 k ∧ ∀ j, j < k → badP (ps.getD j pod0) = false

set_option maxHeartbeats 1000000 in
theorem ref6_Few (v : Value) (ps : List PodR) (w : World) (h : Pods w v ps) (hn : ps.length ≤ 9223372036854775807) : Calls Tryz.prog 13 #[v] w fun e w' => e = .returned (.bool (few6 ps)) ∧ w = w' := by
  obtain ⟨r, hr⟩ : ∃ r, few6 ps = r := ⟨_, rfl⟩
  rw [hr]
  have Hr := Lib.hid hr; clear hr
  obtain ⟨a, cap, rfl, hc⟩ := h
  have Hc := Lib.hid hc; clear hc
  go_enter Tryz.func13, Tryz.ntmps13
  go_wp2
  go_loop [3] (Few6Rel ps) (fun i => ps.length - (intOf i).toNat)
  case atStart => exact ⟨0, Nat.zero_le _, rfl, fun j h => by omega⟩
  case round =>
    obtain ⟨k, hk, rfl, hj⟩ := hrel
    have Hj := Lib.hid hj; clear hj
    by_cases hlt : k < ps.length
    · obtain ⟨b, off, rv, rfl, h0, h1, h2, h3, h4, h5, h6, h7, h8, hs⟩ := Hc.out k hlt
      obtain ⟨a1, cap1, rfl, hc1⟩ := hs
      clear hc1
      obtain ⟨p, hp⟩ : ∃ p, ps.getD k pod0 = p := ⟨_, rfl⟩
      rw [hp] at h1 h4
      have Hp := Lib.hid hp
      clear hp h0 h2 h3 h5 h6 h7 h8
      have hbad : badP p = true → few6 ps = false := fun h => few6_no hlt (by rw [Hp.out]; exact h)
      have Hbad := Lib.hid hbad
      clear hbad
      cases e1 : decide (p.prio < -1073741824)
      · cases e2 : decide (1073741824 < p.prio)
        · cases e3 : decide (20 < (p.req.length : Int))
          · go_wp2
            go_round
            case rel =>
              refine ⟨k + 1, by omega, by go_num, fun j hj => ?_⟩
              by_cases e : j = k
              · rw [e, Hp.out]; unfold badP; rw [e1, e2, e3]; rfl
              · exact Hj.out j (by omega)
            case measure => simp [intOf]; omega
          · go_wp2
            go_ret
            exact ⟨ret_b (by rw [← Hr.out, Hbad.out (by unfold badP; rw [e1, e2, e3]; rfl)]), rfl⟩
        · go_wp2
          go_ret
          exact ⟨ret_b (by rw [← Hr.out, Hbad.out (by unfold badP; rw [e1, e2]; rfl)]), rfl⟩
      · go_wp2
        go_ret
        exact ⟨ret_b (by rw [← Hr.out, Hbad.out (by unfold badP; rw [e1]; rfl)]), rfl⟩
    · obtain rfl : k = ps.length := by omega
      obtain ⟨q, hq⟩ : ∃ q, decide ((ps.length : Int) ≤ 100) = q := ⟨_, rfl⟩
      go_wp2
      go_ret
      refine ⟨ret_b ?_, rfl⟩
      rw [← Hr.out, few6_all Hj.out, hq]
end Go.Proofs.YteioleilblehiaaGreatDoor
