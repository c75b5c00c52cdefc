/- Slices of pods and of nodes as lists. -/
import Derived.Test.YteioleilblehiaaGreatDoorOwn
namespace Go.Proofs.YteioleilblehiaaGreatDoor
open Go.RowKit

structure PodR where
  id : Int
  prio : Int
  pre : Bool
  grace : Int
  req : List Int
  arr : Int
  phase : Int
  node : Int
  dl : Int
def pod0 : PodR := ⟨0, 0, false, 0, [], 0, 0, 0, 0⟩
structure NodeR where
  id : Int
  cap : List Int
def node0 : NodeR := ⟨0, []⟩

/-- The pod p lies at offset o of block b; rv is the value of its request. -/
def PodAt (w : World) (b o : Nat) (rv : Value) (p : PodR) : Prop :=
  w.cell? ⟨b, o, none⟩ = some (.int .i64 p.id) ∧ w.cell? ⟨b, o + 1, none⟩ = some (.int .i64 p.prio) ∧ w.cell? ⟨b, o + 2, none⟩ = some (.bool p.pre) ∧ w.cell? ⟨b, o + 3, none⟩ = some (.int .i64 p.grace) ∧
  w.cell? ⟨b, o + 4, none⟩ = some rv ∧ w.cell? ⟨b, o + 5, none⟩ = some (.int .i64 p.arr) ∧ w.cell? ⟨b, o + 6, none⟩ = some (.int .i64 p.phase) ∧ w.cell? ⟨b, o + 7, none⟩ = some (.int .i64 p.node) ∧
  w.cell? ⟨b, o + 8, none⟩ = some (.int .i64 p.dl) ∧ I64s w rv p.req
theorem PodAt.below {w w' : World} {b o : Nat} {rv : Value} {p : PodR} (h : PodAt w b o rv p) (hb : Below w.heap.size w w') : PodAt w' b o rv p := by
  obtain ⟨h0, h1, h2, h3, h4, h5, h6, h7, h8, hs⟩ := h
  have k : ∀ {j : Nat} {v : Value}, w.cell? ⟨b, j, none⟩ = some v → w'.cell? ⟨b, j, none⟩ = some v := fun h => by rw [hb.cell (cell_lt h)]; exact h
  exact ⟨k h0, k h1, k h2, k h3, k h4, k h5, k h6, k h7, k h8, hs.below hb⟩
def Pods (w : World) (v : Value) (ps : List PodR) : Prop :=
  ∃ a cap, v = .slice a ps.length cap ∧ ∀ i, i < ps.length → ∃ b off rv, a = some ⟨b, off, none⟩ ∧ PodAt w b (off + i * 9) rv (ps.getD i pod0)
theorem Pods.below {w w' : World} {v : Value} {ps : List PodR} (h : Pods w v ps) (hb : Below w.heap.size w w') : Pods w' v ps := by
  obtain ⟨a, cap, rfl, hc⟩ := h
  refine ⟨a, cap, rfl, fun i hi => ?_⟩
  obtain ⟨b, off, rv, rfl, hp⟩ := hc i hi
  exact ⟨b, off, rv, rfl, hp.below hb⟩
theorem Pods.nil (w : World) : Pods w (.slice none 0 0) [] := ⟨none, 0, rfl, fun i h => by simp at h⟩
/-- The node n lies at offset o of block b; cv is the value of its capacity. -/
def NodeAt (w : World) (b o : Nat) (cv : Value) (n : NodeR) : Prop :=
  w.cell? ⟨b, o, none⟩ = some (.int .i64 n.id) ∧ w.cell? ⟨b, o + 1, none⟩ = some cv ∧ I64s w cv n.cap
theorem NodeAt.below {w w' : World} {b o : Nat} {cv : Value} {n : NodeR} (h : NodeAt w b o cv n) (hb : Below w.heap.size w w') : NodeAt w' b o cv n := by
  obtain ⟨h0, h1, hs⟩ := h
  have k : ∀ {j : Nat} {v : Value}, w.cell? ⟨b, j, none⟩ = some v → w'.cell? ⟨b, j, none⟩ = some v := fun h => by rw [hb.cell (cell_lt h)]; exact h
  exact ⟨k h0, k h1, hs.below hb⟩
def Nodes (w : World) (v : Value) (ns : List NodeR) : Prop :=
  ∃ a cap, v = .slice a ns.length cap ∧ ∀ i, i < ns.length → ∃ b off cv, a = some ⟨b, off, none⟩ ∧ NodeAt w b (off + i * 2) cv (ns.getD i node0)
theorem Nodes.below {w w' : World} {v : Value} {ns : List NodeR} (h : Nodes w v ns) (hb : Below w.heap.size w w') : Nodes w' v ns := by
  obtain ⟨a, cap, rfl, hc⟩ := h
  refine ⟨a, cap, rfl, fun i hi => ?_⟩
  obtain ⟨b, off, rv, rfl, hp⟩ := hc i hi
  exact ⟨b, off, rv, rfl, hp.below hb⟩
theorem Nodes.nil (w : World) : Nodes w (.slice none 0 0) [] := ⟨none, 0, rfl, fun i h => by simp at h⟩
end Go.Proofs.YteioleilblehiaaGreatDoor
