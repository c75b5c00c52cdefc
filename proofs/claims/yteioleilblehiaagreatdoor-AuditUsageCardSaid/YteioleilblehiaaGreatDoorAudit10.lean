/- audit.Check, audit.Clean at the two views of awake; audit.Of at no engine. -/
import Derived.Test.YteioleilblehiaaGreatDoorAudit9
namespace Go.Proofs.YteioleilblehiaaGreatDoor
open Go.RowKit

theorem audit_Clean (dims : Int) (a1 a2 a3 a4 : Option Addr) (n1 c1 n2 c2 n3 c3 n4 c4 : Nat) (l : List (Int × Int)) (q : Bool) (w : World) (hq : ((l.length : Int) == 0) = q)
    (h : ∀ W, Below w.heap.size w W → Calls Tryz.prog 9 #[.agg #[.int .i64 dims, .slice a1 n1 c1, .slice a2 n2 c2, .slice a3 n3 c3, .slice a4 n4 c4]] W (CkPost W l)) :
    Calls Tryz.prog 10 #[.agg #[.int .i64 dims, .slice a1 n1 c1, .slice a2 n2 c2, .slice a3 n3 c3, .slice a4 n4 c4]] w fun e w' => e = .returned (.bool q) ∧ Below w.heap.size w w' := by
  have H := Lib.hid h
  clear h
  go_enter Tryz.func10, Tryz.ntmps10
  go_wp2_with (go_at_call 9; refine (H.out _ (bel_alloc (Below.refl _ _) _)).mono ?_; rintro e w1 ⟨v1, rfl, hown, hb⟩; obtain ⟨A1, c1, e1⟩ := own_shape hown; subst e1; clear hown)
  go_ret
  exact ⟨rfl, bel_trans (bel_alloc (Below.refl _ _) _) hb⟩

def pA : PodR := ⟨1, 0, false, 0, [3], 0, 3, 7, -1⟩
def pB : PodR := ⟨2, 0, false, 0, [3], 0, 3, 7, -1⟩
def nA : NodeR := ⟨7, [5]⟩
def vA : ViewR := ⟨1, [nA], [pA, pB], [], []⟩
theorem tA0 : dups ([nA].map NodeR.id) [nA].length ++ dups ([pA, pB].map PodR.id) [pA, pB].length = [] := by decide
theorem tA1 : idsN [nA] (capBad vA) = [7] := by decide
theorem tA2 : idsOf [pA, pB] (phaseBad 1) = [] := by decide
theorem tA3 : idsOf [pA, pB] (placeBad (anyId [nA] [nA].length)) = [] := by decide
theorem tA4 : idsOf [pA, pB] (listBad (cnt [])) ++ outs [pA, pB] [] ([] : List Int).length = [] := by decide
theorem uA : usageL vA 7 = [6] := by decide

theorem check_A (an ap : Option Addr) (cn cp : Nat) (w : World) (hn : Nodes w (.slice an 1 cn) [nA]) (hp : Pods w (.slice ap 2 cp) [pA, pB]) (hN : PhNames w) :
    Calls Tryz.prog 9 #[.agg #[.int .i64 1, .slice an 1 cn, .slice ap 2 cp, .slice none 0 0, .slice none 0 0]] w (CkPost w [(1, 7)]) := by
  have hin : ∀ p, p ∈ [pA, pB] → in64 p.id ∧ in64 p.node ∧ p.req = [3] := by
    intro p hp
    simp at hp
    rcases hp with rfl | rfl
    · exact ⟨⟨by decide, by decide⟩, ⟨by decide, by decide⟩, rfl⟩
    · exact ⟨⟨by decide, by decide⟩, ⟨by decide, by decide⟩, rfl⟩
  have hni : ∀ n, n ∈ [nA] → in64 n.id := by
    intro n hn
    simp at hn
    subst hn
    exact ⟨by decide, by decide⟩
  have h := audit_Check 1 an ap none none 1 cn 2 cp 0 0 0 0 [] [7] [] [] [] w (by decide)
    (fun W hb => by have := audit_twice 1 [nA] [pA, pB] none none 0 0 0 0 _ _ W (hn.below hb) (hp.below hb) (by decide) (by decide) hni (fun p h => (hin p h).1); rw [tA0] at this; exact this)
    (fun W hb => by
      have := audit_capacity 1 [nA] [pA, pB] [] [] _ _ _ _ W (hn.below hb) (hp.below hb) (I64s.nil W) (I64s.nil W) (by decide) (by decide) (by decide) (fun n h => by simp at h; subst h; decide) (fun p h y hy => by rw [(hin p h).2.2] at hy; simp at hy; subst hy; decide) (fun n => by
        show (if addB (rowsOf [pA, pB] n 1) (1 : Int).toNat then sumsL (rowsOf [pA, pB] n 1) (1 : Int).toNat else []).length ≤ 1000000000
        split <;> simp [sumsL])
      rw [show (⟨1, [nA], [pA, pB], [], []⟩ : ViewR) = vA from rfl, tA1] at this
      exact this)
    (fun W hb => by have := audit_phases 1 an none none 1 cn 0 0 0 0 _ [pA, pB] W (hp.below hb) (by decide) (hN.below hb); rw [tA2] at this; exact this)
    (fun W hb => by have := audit_places 1 [nA] none none 0 0 0 0 _ _ [pA, pB] W (hn.below hb) (hp.below hb) (by decide) (by decide) hni (fun p h => (hin p h).2.1); rw [tA3] at this; exact this)
    (fun W hb => by have := audit_lists 1 an none 1 cn 0 [] _ [pA, pB] W (hp.below hb) (I64s.nil W) (by decide) (by decide) (by decide) (by decide) (fun p h => (hin p h).1) (fun a h => by simp at h); rw [tA4] at this; exact this)
  exact h
theorem check_0 (w : World) (hN : PhNames w) :
    Calls Tryz.prog 9 #[.agg #[.int .i64 0, .slice none 0 0, .slice none 0 0, .slice none 0 0, .slice none 0 0]] w (CkPost w []) := by
  have h := audit_Check 0 none none none none 0 0 0 0 0 0 0 0 [] [] [] [] [] w (by decide)
    (fun W hb => audit_twice 0 [] [] none none 0 0 0 0 _ _ W (Nodes.nil W) (Pods.nil W) (by decide) (by decide) (fun n h => by simp at h) (fun p h => by simp at h))
    (fun W hb => audit_capacity 0 [] [] [] [] _ _ _ _ W (Nodes.nil W) (Pods.nil W) (I64s.nil W) (I64s.nil W) (by decide) (by decide) (by decide) (fun n h => by simp at h) (fun p h => by simp at h) (fun n => by
        show (if addB (rowsOf [] n 0) (0 : Int).toNat then sumsL (rowsOf [] n 0) (0 : Int).toNat else []).length ≤ 1000000000
        split <;> simp [sumsL]))
    (fun W hb => audit_phases 0 none none none 0 0 0 0 0 0 _ [] W (Pods.nil W) (by decide) (hN.below hb))
    (fun W hb => audit_places 0 [] none none 0 0 0 0 _ _ [] W (Nodes.nil W) (Pods.nil W) (by decide) (by decide) (fun n h => by simp at h) (fun p h => by simp at h))
    (fun W hb => audit_lists 0 none none 0 0 0 [] _ [] W (Pods.nil W) (I64s.nil W) (by decide) (by decide) (by decide) (by decide) (fun p h => by simp at h) (fun a h => by simp at h))
  exact h
set_option maxRecDepth 100000 in
theorem of_nil (w : World) : Calls Tryz.prog 12 #[.pointer none] w fun e w' => e = .returned (.agg #[.int .i64 0, .slice none 0 0, .slice none 0 0, .slice none 0 0, .slice none 0 0]) ∧ Below w.heap.size w w' := by
  go_enter Tryz.func12, Tryz.ntmps12
  go_wp2
  go_returns
  exact ⟨rfl, bel_alloc (Below.refl _ _) _⟩
end Go.Proofs.YteioleilblehiaaGreatDoor
