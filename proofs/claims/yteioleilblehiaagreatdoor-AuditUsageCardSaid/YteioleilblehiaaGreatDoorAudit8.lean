/- audit.Check at a view without parked pods, by contract. -/
import Derived.Test.YteioleilblehiaaGreatDoorAudit5
import Derived.Test.YteioleilblehiaaGreatDoorAudit7
import Derived.LoopN
import Derived.Laws.EntriesVeiled
import Derived.Handy
namespace Go.Proofs.YteioleilblehiaaGreatDoor
open Go.RowKit

theorem infoP : (Tryz.prog.info? 44).map (fun i => (i.zero, i.size, i.bytes)) = some (some (.agg #[.int .i64 0, .int .i64 0]), 2, 16) := by kernel_rfl
def flatP (l : List (Int × Int)) : List Value := l.flatMap fun p => [.int .i64 p.1, .int .i64 p.2]
theorem flatP_app (a b : List (Int × Int)) : flatP (a ++ b) = flatP a ++ flatP b := by simp [flatP]
/-- append of one problem to a slice of the call's own. -/
theorem app2 (w : World) {ops : Array Oper} {rest : List Oper} {o : Oper} {a : Act} {Q : Exit → Act → World → Prop} (hgd : o.guard = none) (s x : Operand)
    (ho : o.op = .call { callee := .builtin .append, args := #[s, x], argTypes := #[41, 41] })
    (base : Nat) (v : Value) (l : List (Int × Int)) (hs : a.eval s = v) (hown : w.ownsRow base 44 2 v l.length (flatP l)) (g : Nat) (hx : a.eval x = .slice (some ⟨g, 0, none⟩) 1 1) (y z : Int) (hy : w.cell? ⟨g, 0, none⟩ = some (.int .i64 y)) (hz : w.cell? ⟨g, 1, none⟩ = some (.int .i64 z))
    (hn : l.length ≤ 1000000000) (hbase : base ≤ w.heap.size)
    (h : ∀ v' w', w'.ownsRow base 44 2 v' (l ++ [(y, z)]).length (flatP (l ++ [(y, z)])) → w.grownBy w' v.ownBlock → wpList Tryz.prog ops Q rest (a.put o.dst v') w') : wpList Tryz.prog ops Q (o :: rest) a w := by
  obtain ⟨i0, hi, hz0, hz1, hz2⟩ := info_parts infoP
  refine wpList_append_own _ hgd s x 41 ho base 44 i0 _ 2 16 Tryz.underlying41 hi hz0 hz1 hz2 rfl (by decide) v l.length (flatP l) hs hown ⟨g, 0, none⟩ 1 1 [.int .i64 y, .int .i64 z] hx rfl (fun j u hj => ?_) (by simp [Value.oneCell']) (by unfold maxLen; omega) (by omega) hbase (fun v' w' h2 h3 _ => h v' w' ?_ h3)
  · match j, hj with
    | 0, hj => simp at hj; subst hj; exact hy
    | 1, hj => simp at hj; subst hj; exact hz
    | j + 2, hj => simp at hj
  · rw [flatP_app, List.length_append, List.length_singleton]
    exact h2
theorem own_ne {w : World} {b b' : Nat} {e e' : TypeId} {s s' n n' : Nat} {v v' : Value} {xs xs' : List Value} (h : w.ownsRow b e s v n xs) (h' : w.ownsRow b' e' s' v' n' xs') (hne : e ≠ e') : v.ownBlock = none ∨ v.ownBlock ≠ v'.ownBlock := by
  rcases h.2 with ⟨rfl, _⟩ | ⟨g, cap, cur, rfl, _, hg, _⟩
  · exact .inl rfl
  · right
    rcases h'.2 with ⟨rfl, _⟩ | ⟨g', cap', cur', rfl, _, hg', _⟩
    · simp [Value.ownBlock]
    · intro e
      have : g = g' := by simpa [Value.ownBlock] using e
      subst this
      rw [hg] at hg'
      simp at hg'
      exact hne hg'.2
theorem own_blk {w : World} {b : Nat} {e : TypeId} {s n : Nat} {v : Value} {xs : List Value} (h : w.ownsRow b e s v n xs) {g : Nat} {cs : Array Value} {t : TypeId} {fr : Nat × Nat} (hg : w.heap[g]? = some (.cells cs t fr)) (hne : e ≠ t) : some g ≠ v.ownBlock := by
  rcases h.2 with ⟨rfl, _⟩ | ⟨g', cap, cur, rfl, _, hg', _⟩
  · simp [Value.ownBlock]
  · intro e
    have : g = g' := by simpa [Value.ownBlock] using e
    subst this
    rw [hg] at hg'
    simp at hg'
    exact hne hg'.2.1.symm
def tagP (kind : Int) (T : List Int) : List (Int × Int) := T.map fun x => (kind, x)
def InRel (w : World) (B : World → Prop) (g5 : Nat) (kind : Int) (fn : Value) (vT : Value) (T : List Int) (pre : List (Int × Int)) (v : Value) (i : Value) (wr : World) : Prop :=
  ∃ k : Nat, k ≤ T.length ∧ i = .int .i64 k ∧ Below w.heap.size w wr ∧ B wr ∧ wr.heap[g5]? = some (.cells #[.int .i64 kind, fn] 61 (0, 0)) ∧ wr.ownsRow w.heap.size 3 1 vT T.length (T.map (Value.int .i64)) ∧
    wr.ownsRow w.heap.size 44 2 v (pre ++ tagP kind (T.take k)).length (flatP (pre ++ tagP kind (T.take k)))
theorem ints_at {w : World} {base : Nat} {v : Value} {T : List Int} (h : w.ownsRow base 3 1 v T.length (T.map (Value.int .i64))) : I64s w v T := I64s.of_ints h
def partsV : Value := .agg #[.int .i64 5, .func (.func 33) #[] #[], .int .i64 1, .func (.func 34) #[] #[], .int .i64 2, .func (.func 35) #[] #[], .int .i64 3, .func (.func 36) #[] #[], .int .i64 4, .func (.func 37) #[] #[]]
theorem parts_ok (w : World) : Calls Tryz.prog 22 #[] w fun e w' => e = .returned partsV ∧ Below w.heap.size w w' := by
  go_enter Tryz.func22, Tryz.ntmps22
  go_wp2
  go_returns
  exact ⟨rfl, bel_alloc (Below.refl _ _) _⟩
end Go.Proofs.YteioleilblehiaaGreatDoor
