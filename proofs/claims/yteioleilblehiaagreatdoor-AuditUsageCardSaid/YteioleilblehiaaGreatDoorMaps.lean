/- Maps from int to int and from int to bool that a call has made, as functions. -/
import Derived.Test.YteioleilblehiaaGreatDoorOwn
import Derived.Maps.Own
import Derived.Maps.OwnOps
import Derived.Maps.OwnSet
import Derived.Maps.Views
namespace Go.Proofs.YteioleilblehiaaGreatDoor
open Go.RowKit Go.Maps

theorem keyInt : Keyed Tryz.prog 3 := int_keyed Tryz.underlying3
theorem zeroInt (w : World) : (zeroValue 3).run Tryz.prog w = .ok (.int .i64 0) w := by kernel_rfl
theorem zeroBool (w : World) : (zeroValue 4).run Tryz.prog w = .ok (.bool false) w := by kernel_rfl
def in64 (n : Int) : Prop := -9223372036854775808 ≤ n ∧ n ≤ 9223372036854775807
theorem wf_in {n : Int} (h : in64 n) : (Lit.int .i64 n).wf = true := by
  obtain ⟨h1, h2⟩ := h
  exact WalkArith.wf_i64 ⟨by omega, by omega⟩
theorem key_in {n : Int} (h : in64 n) : keyOf Tryz.prog 3 (.int .i64 n) = some (.int .i64 n) := keyOf_int_mk Tryz.underlying3 (wf_in h)
theorem isKeyLit_int (n : Int) : WideAt.IsKeyLit (.int .i64 n) := by simp [WideAt.IsKeyLit]

/-- Block b is a map of at most n entries, in which int k has the value f k. -/
def IMap (w : World) (b n : Nat) (f : Int → Int) : Prop := ∃ D : DataW Unit, w.ownsMap Tryz.prog 3 (plainElem Tryz.prog 3) b n D ∧ ∀ k, D.atKey (.int .i64 k) (.lit (.int .i64 0)) = .lit (.int .i64 (f k))
def BMap (w : World) (b n : Nat) (f : Int → Bool) : Prop := ∃ D : DataW Unit, w.ownsMap Tryz.prog 3 (plainElem Tryz.prog 4) b n D ∧ ∀ k, D.atKey (.int .i64 k) (.lit (.bool false)) = .lit (.bool (f k))
theorem IMap.made (w : World) : IMap (w.alloc (.map #[] 0)) w.heap.size 0 (fun _ => 0) := ⟨.map [], World.ownsMap_made _ _ _ _, fun _ => rfl⟩
theorem BMap.made (w : World) : BMap (w.alloc (.map #[] 0)) w.heap.size 0 (fun _ => false) := ⟨.map [], World.ownsMap_made _ _ _ _, fun _ => rfl⟩
theorem IMap.lt {w : World} {b n : Nat} {f : Int → Int} (h : IMap w b n f) : b < w.heap.size := h.choose_spec.1.lt
theorem BMap.lt {w : World} {b n : Nat} {f : Int → Bool} (h : BMap w b n f) : b < w.heap.size := h.choose_spec.1.lt
theorem IMap.below {w w' : World} {b n : Nat} {f : Int → Int} (h : IMap w b n f) (hb : Below w.heap.size w w') : IMap w' b n f := by
  obtain ⟨D, h1, h2⟩ := h
  exact ⟨D, h1.kept (row := none) ⟨hb.os, hb.tape, hb.output, hb.size, fun i hi _ => hb.block i hi⟩ (by simp), h2⟩
theorem BMap.below {w w' : World} {b n : Nat} {f : Int → Bool} (h : BMap w b n f) (hb : Below w.heap.size w w') : BMap w' b n f := by
  obtain ⟨D, h1, h2⟩ := h
  exact ⟨D, h1.kept (row := none) ⟨hb.os, hb.tape, hb.output, hb.size, fun i hi _ => hb.block i hi⟩ (by simp), h2⟩
theorem IMap.grown {w w' : World} {b n : Nat} {f : Int → Int} {row : Option Nat} (h : IMap w b n f) (hg : w.grownBy w' row) (hne : some b ≠ row) : IMap w' b n f := by
  obtain ⟨D, h1, h2⟩ := h
  exact ⟨D, h1.kept hg hne, h2⟩
theorem BMap.grown {w w' : World} {b n : Nat} {f : Int → Bool} {row : Option Nat} (h : BMap w b n f) (hg : w.grownBy w' row) (hne : some b ≠ row) : BMap w' b n f := by
  obtain ⟨D, h1, h2⟩ := h
  exact ⟨D, h1.kept hg hne, h2⟩
theorem IMap.alloc {w : World} {b n : Nat} {f : Int → Int} (h : IMap w b n f) (o : Obj) : IMap (w.alloc o) b n f := h.below (bel_alloc (Below.refl _ _) _)
theorem BMap.alloc {w : World} {b n : Nat} {f : Int → Bool} (h : BMap w b n f) (o : Obj) : BMap (w.alloc o) b n f := h.below (bel_alloc (Below.refl _ _) _)

/-- m[k] at a map of ints, as an equation on the run. -/
theorem IMap.look {w : World} {b n : Nat} {f : Int → Int} (h : IMap w b n f) (t : TypeId) (ht : Tryz.prog.underlying t = some (.map 3 3)) {k : Int} (hk : in64 k) :
    (Instr.lookup t (.map (some b)) (.int .i64 k) false).run Tryz.prog w = .ok (.int .i64 (f k)) w := by
  obtain ⟨D, h1, h2⟩ := h
  obtain ⟨c, hrun, hat, _⟩ := h1.lookup_int keyInt ht Tryz.underlying3 (zeroInt w) (key_in hk)
  rw [h2 k] at hat
  simp only [DataW.lit.injEq, Lit.int.injEq, true_and] at hat
  rw [hrun, hat]
set_option maxRecDepth 100000 in
theorem plainElem_bool_inv {v : Value} {x : DataW Unit × List MemPlace} (h : plainElem Tryz.prog 4 v = some x) : ∃ c, v = .bool c ∧ x.1 = .lit (.bool c) := by
  unfold plainElem at h
  rw [Tryz.underlying4] at h
  cases v <;> simp at h
  exact ⟨_, rfl, by rw [← h]⟩
theorem BMap.look {w : World} {b n : Nat} {f : Int → Bool} (h : BMap w b n f) (t : TypeId) (ht : Tryz.prog.underlying t = some (.map 3 4)) {k : Int} (hk : in64 k) :
    (Instr.lookup t (.map (some b)) (.int .i64 k) false).run Tryz.prog w = .ok (.bool (f k)) w := by
  obtain ⟨D, h1, h2⟩ := h
  obtain ⟨v, ps, hrun, hv⟩ := h1.lookup keyInt ht (zeroBool w) (plainElem_bool Tryz.underlying4 false) (key_in hk)
  obtain ⟨c, rfl, hc⟩ := plainElem_bool_inv hv
  simp only at hc
  rw [h2 k] at hc
  simp only [DataW.lit.injEq, Lit.bool.injEq] at hc
  rw [hrun, hc]
/-- m[k] = x at a map of ints, at the operation. -/
theorem upd_i (w : World) {ops : Array Oper} {rest : List Oper} {o : Oper} {a : Act} {Q : Exit → Act → World → Prop} (hg : o.guard = none) (m x v : Operand) (t : TypeId) (hop : o.op = Op.mapUpdate t m x v)
    (ht : Tryz.prog.underlying t = some (.map 3 3)) (b n : Nat) (f : Int → Int) (hm : a.eval m = .map (some b)) (hown : IMap w b n f) (hn : n ≤ 1000000000) (k y : Int) (hx : a.eval x = .int .i64 k) (hv : a.eval v = .int .i64 y) (hk : in64 k) (hy : in64 y)
    (hK : ∀ w', IMap w' b (n + 1) (fun j => if j = k then y else f j) → w.grownBy w' (some b) → wpList Tryz.prog ops Q rest (a.put o.dst undef) w') : wpList Tryz.prog ops Q (o :: rest) a w := by
  obtain ⟨D, h1, h2⟩ := hown
  refine wpList_mapUpdate_own w hg m x v t hop 3 3 keyInt ht _ b n D hm h1 (by unfold maxLen; omega) _ _ _ hx hv (key_in hk) _ [] (plainElem_int Tryz.underlying3 (wf_in hy)) (fun w' h3 hg' => hK w' ⟨_, h3, fun j => ?_⟩ hg')
  dsimp only
  by_cases e : j = k
  · subst e
    rw [if_pos rfl, atKey_put_same (h1.isMap) (isKeyLit_int _)]
  · rw [if_neg e, atKey_put_other (by simpa using e), h2]
theorem upd_b (w : World) {ops : Array Oper} {rest : List Oper} {o : Oper} {a : Act} {Q : Exit → Act → World → Prop} (hg : o.guard = none) (m x v : Operand) (t : TypeId) (hop : o.op = Op.mapUpdate t m x v)
    (ht : Tryz.prog.underlying t = some (.map 3 4)) (b n : Nat) (f : Int → Bool) (hm : a.eval m = .map (some b)) (hown : BMap w b n f) (hn : n ≤ 1000000000) (k : Int) (y : Bool) (hx : a.eval x = .int .i64 k) (hv : a.eval v = .bool y) (hk : in64 k)
    (hK : ∀ w', BMap w' b (n + 1) (fun j => if j = k then y else f j) → w.grownBy w' (some b) → wpList Tryz.prog ops Q rest (a.put o.dst undef) w') : wpList Tryz.prog ops Q (o :: rest) a w := by
  obtain ⟨D, h1, h2⟩ := hown
  refine wpList_mapUpdate_own w hg m x v t hop 3 4 keyInt ht _ b n D hm h1 (by unfold maxLen; omega) _ _ _ hx hv (key_in hk) _ [] (plainElem_bool Tryz.underlying4 y) (fun w' h3 hg' => hK w' ⟨_, h3, fun j => ?_⟩ hg')
  dsimp only
  by_cases e : j = k
  · subst e
    rw [if_pos rfl, atKey_put_same (h1.isMap) (isKeyLit_int _)]
  · rw [if_neg e, atKey_put_other (by simpa using e), h2]
end Go.Proofs.YteioleilblehiaaGreatDoor
