/- Small facts on worlds and blocks. -/
import Derived.Test.YteioleilblehiaaGreatDoorProg
import Derived.WalkKit
import Derived.WalkSpells
import Derived.WalkLawsBesides
import Derived.Outline
import Derived.Lib.Hide
import Derived.Sort.Grow
namespace Go.Proofs.YteioleilblehiaaGreatDoor
open Go.RowKit

theorem bel_alloc {w W : World} (h : Below w.heap.size w W) (o : Obj) : Below w.heap.size w (W.alloc o) := h.alloc h.size o
theorem bel_trans {w W W' : World} (h : Below w.heap.size w W) (h' : Below W.heap.size W W') : Below w.heap.size w W' := h.trans (h'.mono h.size)
/- a block that is known whole -/
theorem blk_lt {w : World} {g : Nat} {o : Obj} (h : w.heap[g]? = some o) : g < w.heap.size := by
  rcases Nat.lt_or_ge g w.heap.size with h' | h'
  · exact h'
  · simp [Array.getElem?_eq_none h'] at h
theorem blk_new (w : World) (o : Obj) : (w.alloc o).heap[w.heap.size]? = some o := by
  show (w.heap.push o)[w.heap.size]? = _
  simp
theorem blk_old {w : World} {g : Nat} {o : Obj} (h : w.heap[g]? = some o) (o' : Obj) : (w.alloc o').heap[g]? = some o := by
  rw [Below.heap_alloc _ _ _ (blk_lt h)]; exact h
theorem blk_below {B : Nat} {w w' : World} (hb : Below B w w') {g : Nat} {o : Obj} (h : w.heap[g]? = some o) (hg : g < B) : w'.heap[g]? = some o := by
  rw [hb.block g hg]; exact h
theorem blk_keep {w w' : World} (hb : Below w.heap.size w w') {g : Nat} {o : Obj} (h : w.heap[g]? = some o) : w'.heap[g]? = some o := blk_below hb h (blk_lt h)
theorem blk_cell {w : World} {g : Nat} {cs : Array Value} {ty : TypeId} {fr : Nat × Nat} (h : w.heap[g]? = some (.cells cs ty fr)) (j : Nat) : w.cell? ⟨g, j, none⟩ = cs[j]? := by
  simp [World.cell?, h]
theorem blk_free {w : World} {g : Nat} {cs : Array Value} {ty : TypeId} (h : w.heap[g]? = some (.cells cs ty (0, 0))) (j : Nat) : w.frozen? ⟨g, j, none⟩ = false := by
  simp [World.frozen?, h]
theorem blk6 {w : World} {g : Nat} {a b c d e f : Value} {ty : TypeId} (h : w.heap[g]? = some (.cells #[a, b, c, d, e, f] ty (0, 0))) :
    w.cell? ⟨g, 0, none⟩ = some a ∧ w.cell? ⟨g, 1, none⟩ = some b ∧ w.cell? ⟨g, 2, none⟩ = some c ∧ w.cell? ⟨g, 3, none⟩ = some d ∧ w.cell? ⟨g, 4, none⟩ = some e ∧ w.cell? ⟨g, 5, none⟩ = some f := by
  simp [World.cell?, h]
theorem frz6 {w : World} {g : Nat} {cs : Array Value} {ty : TypeId} (h : w.heap[g]? = some (.cells cs ty (0, 0))) :
    w.frozen? ⟨g, 0, none⟩ = false ∧ w.frozen? ⟨g, 1, none⟩ = false ∧ w.frozen? ⟨g, 2, none⟩ = false ∧ w.frozen? ⟨g, 3, none⟩ = false ∧ w.frozen? ⟨g, 4, none⟩ = false ∧ w.frozen? ⟨g, 5, none⟩ = false := by
  simp [World.frozen?, h]
theorem bel_grow {w : World} (n : Nat) (os : Array Obj) : Below w.heap.size w (Go.Sort.grow (w.drewN n) os) := by
  refine ⟨rfl, rfl, rfl, ?_, fun k hk => ?_⟩
  · show w.heap.size ≤ (w.heap ++ os).size
    simp
  · show (w.heap ++ os)[k]? = w.heap[k]?
    rw [Array.getElem?_append_left hk]
/-- The value v is a slice whose elements are the numbers xs. -/
def I64s (w : World) (v : Value) (xs : List Int) : Prop :=
  ∃ a cap, v = .slice a xs.length cap ∧ ∀ i, i < xs.length → ∃ b off, a = some ⟨b, off, none⟩ ∧ w.cell? ⟨b, off + i, none⟩ = some (.int .i64 (xs.getD i 0))
theorem I64s.nil (w : World) : I64s w (.slice none 0 0) [] := ⟨none, 0, rfl, fun i h => by simp at h⟩
theorem cell_lt {w : World} {a : Addr} {v : Value} (h : w.cell? a = some v) : a.block < w.heap.size := by
  rcases Nat.lt_or_ge a.block w.heap.size with h' | h'
  · exact h'
  · simp [World.cell?, Array.getElem?_eq_none h'] at h
theorem I64s.below {w w' : World} {v : Value} {xs : List Int} (h : I64s w v xs) (hb : Below w.heap.size w w') : I64s w' v xs := by
  obtain ⟨a, cap, rfl, hc⟩ := h
  refine ⟨a, cap, rfl, fun i hi => ?_⟩
  obtain ⟨b, off, rfl, hcell⟩ := hc i hi
  exact ⟨b, off, rfl, by rw [hb.cell (cell_lt hcell)]; exact hcell⟩
theorem I64s.alloc {w : World} {v : Value} {xs : List Int} (h : I64s w v xs) (o : Obj) : I64s (w.alloc o) v xs := h.below ((Below.refl _ w).alloc (Nat.le_refl _) o)
end Go.Proofs.YteioleilblehiaaGreatDoor
