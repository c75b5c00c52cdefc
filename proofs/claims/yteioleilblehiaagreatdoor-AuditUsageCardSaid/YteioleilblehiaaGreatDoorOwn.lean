/- Slices of int64 that a call has made: what is fresh, what is there. -/
import Derived.Test.YteioleilblehiaaGreatDoorSl
import Derived.Lib.SliceRun
import Derived.OwnWalk
import Derived.Deep.OwnRows
import Derived.Deep.QuietTactic
import Derived.BigQuiet
namespace Go.Proofs.YteioleilblehiaaGreatDoor
open Go.RowKit

theorem info64 : (Tryz.prog.info? 2).map (fun i => (i.zero, i.size, i.bytes)) = some (some (.int .i64 0), 1, 8) := by kernel_rfl

theorem I64s.of_owns {w : World} {base : Nat} {v : Value} {xs : List Int} (h : w.ownsRow base 2 1 v xs.length (xs.map (Value.int .i64))) : I64s w v xs := by
  obtain ⟨h1, h2⟩ := h
  rcases h2 with ⟨rfl, h0⟩ | ⟨g, cap, cur, rfl, hb, hg, hn, hm, hs, ht⟩
  · have : xs = [] := List.length_eq_zero_iff.1 h0
    subst this
    exact I64s.nil w
  · refine ⟨_, cap, rfl, fun i hi => ⟨g, 0, rfl, ?_⟩⟩
    have e : cur[i]? = some (.int .i64 (xs.getD i 0)) := by
      have := congrArg (fun l => l[i]?) ht
      simp only [List.getElem?_take, List.getElem?_map] at this
      rw [if_pos (by omega)] at this
      rw [← Array.getElem?_toList, this]
      simp [List.getElem?_eq_getElem hi]
    simp [World.cell?, hg, e]

/-- The slice lies from block B on. -/
def freshSl (B : Nat) (v : Value) : Prop := ∀ ad n c, v = .slice (some ad) n c → B ≤ ad.block
/-- The slice lies in blocks that are there. -/
def okSl (w : World) (v : Value) : Prop := ∀ ad n c, v = .slice (some ad) n c → ad.block < w.heap.size ∧ ad.spot = none
theorem okSl.below {B : Nat} {w w' : World} {v : Value} (h : okSl w v) (hb : Below B w w') : okSl w' v := fun ad n c e => ⟨Nat.lt_of_lt_of_le (h ad n c e).1 hb.size, (h ad n c e).2⟩
theorem okSl.none (w : World) (n c : Nat) : okSl w (.slice none n c) := fun ad n c e => by cases e
theorem freshSl.none (B n c : Nat) : freshSl B (.slice none n c) := fun ad n c e => by cases e
theorem freshSl.mono {B C : Nat} {v : Value} (h : freshSl B v) (hc : C ≤ B) : freshSl C v := fun ad n c e => Nat.le_trans hc (h ad n c e)
theorem I64s.setCell {w : World} {v : Value} {xs : List Int} {B : Nat} (h : I64s w v xs) (hf : freshSl B v) {a : Addr} (ha : a.block < B) (u : Value) : I64s (w.setCell a u) v xs := by
  obtain ⟨ad, cap, rfl, hc⟩ := h
  refine ⟨ad, cap, rfl, fun i hi => ?_⟩
  obtain ⟨b, off, rfl, hcell⟩ := hc i hi
  have hB := hf _ _ _ rfl
  exact ⟨b, off, rfl, by rw [World.cell?_of_block (w := w) (Below.heap_setCell w a u b (by intro e; subst e; simp at hB; omega))]; exact hcell⟩
theorem okSl.setCell {w : World} {v : Value} (h : okSl w v) (a : Addr) (u : Value) : okSl (w.setCell a u) v := fun ad n c e => ⟨by simpa [World.setCell] using (h ad n c e).1, (h ad n c e).2⟩
/-- A new slice with the numbers xs. -/
def NewSl (w : World) (xs : List Int) (e : Ending) (w' : World) : Prop := ∃ v', e = .returned v' ∧ I64s w' v' xs ∧ freshSl w.heap.size v' ∧ okSl w' v' ∧ Below w.heap.size w w'
theorem fresh_of_owns {w : World} {base : Nat} {e : TypeId} {size n : Nat} {v : Value} {xs : List Value} (h : w.ownsRow base e size v n xs) : freshSl base v ∧ okSl w v := by
  obtain ⟨_, h2⟩ := h
  rcases h2 with ⟨rfl, _⟩ | ⟨g, cap, cur, rfl, hb, hg, _⟩
  · exact ⟨freshSl.none _ _ _, okSl.none _ _ _⟩
  · exact ⟨fun ad n c e => by cases e; exact hb, fun ad n c e => by cases e; exact ⟨blk_lt hg, rfl⟩⟩
theorem owns_below {w w' : World} {base : Nat} {e : TypeId} {size n : Nat} {v : Value} {xs : List Value} (h : w.ownsRow base e size v n xs) (hb : Below w.heap.size w w') : w'.ownsRow base e size v n xs := by
  have hg : w.grownBy w' none := ⟨hb.os, hb.tape, hb.output, hb.size, fun i hi _ => hb.block i hi⟩
  refine h.kept hg ?_
  cases e : v.ownBlock with
  | none => exact .inl rfl
  | some k => exact .inr (by simp)
/-- append of one element of one cell to a slice of the call's own. -/
theorem app1 {P : Program} (w : World) {ops : Array Oper} {rest : List Oper} {o : Oper} {a : Act} {Q : Exit → Act → World → Prop} (hgd : o.guard = none) (s x : Operand) (t : TypeId)
    (ho : o.op = .call { callee := .builtin .append, args := #[s, x], argTypes := #[t, t] }) (e : TypeId) (z : Value) (bytes : Nat) (ht : P.underlying t = some (.slice e))
    (hinfo : (P.info? e).map (fun i => (i.zero, i.size, i.bytes)) = some (some z, 1, bytes)) (hz : z.cells.size = 1) (hby : bytes ≤ 64)
    (base : Nat) (v : Value) (n : Nat) (xs : List Value) (hs : a.eval s = v) (hown : w.ownsRow base e 1 v n xs) (g : Nat) (hx : a.eval x = .slice (some ⟨g, 0, none⟩) 1 1) (y : Value) (hy : w.cell? ⟨g, 0, none⟩ = some y)
    (h1 : y.oneCell' = true) (hn : n ≤ 1000000000) (hbase : base ≤ w.heap.size)
    (h : ∀ v' w', w'.ownsRow base e 1 v' (n + 1) (xs ++ [y]) → w.grownBy w' v.ownBlock → wpList P ops Q rest (a.put o.dst v') w') : wpList P ops Q (o :: rest) a w := by
  obtain ⟨i0, hi, hz0, hz1, hz2⟩ := info_parts hinfo
  have hmul : (n + 1) * bytes ≤ (n + 1) * 64 := Nat.mul_le_mul_left _ hby
  refine wpList_append_own _ hgd s x t ho base e i0 z 1 bytes ht hi hz0 hz1 hz2 hz (by decide) v n xs hs hown ⟨g, 0, none⟩ 1 1 [y] hx rfl (fun j u hj => ?_) (by simpa using h1) (by unfold maxLen; omega) (by omega) hbase (fun v' w' h2 h3 _ => h v' w' h2 h3)
  rcases j with _ | j
  · simp at hj
    subst hj
    exact hy
  · simp at hj
/-- A row of n cells that a call made, as a slice of numbers. -/
theorem I64s.of_row {w : World} {b : Nat} {t : TypeId} {n : Nat} {f : Nat → Value} {xs : List Int} {cap : Nat} (h : w.rowIs b t n f) (hn : xs.length = n) (hf : ∀ i, i < n → f i = .int .i64 (xs.getD i 0)) : I64s w (.slice (some ⟨b, 0, none⟩) xs.length cap) xs :=
  ⟨_, cap, rfl, fun i hi => ⟨b, 0, rfl, by rw [Nat.zero_add, h.cell (by omega), hf i (by omega)]⟩⟩
end Go.Proofs.YteioleilblehiaaGreatDoor
