/- Slices of slices of int64 as lists of lists; what is fresh and what is there. -/
import Derived.Test.YteioleilblehiaaGreatDoorSl
namespace Go.Proofs.YteioleilblehiaaGreatDoor
open Go.RowKit

/-- The value v is a slice whose elements are slices with the numbers of L. -/
def SlRows (w : World) (v : Value) (L : List (List Int)) : Prop :=
  ∃ a cap, v = .slice a L.length cap ∧ ∀ i, i < L.length → ∃ b off u, a = some ⟨b, off, none⟩ ∧ w.cell? ⟨b, off + i, none⟩ = some u ∧ I64s w u (L.getD i [])
theorem SlRows.below {w w' : World} {v : Value} {L : List (List Int)} (h : SlRows w v L) (hb : Below w.heap.size w w') : SlRows w' v L := by
  obtain ⟨a, cap, rfl, hc⟩ := h
  refine ⟨a, cap, rfl, fun i hi => ?_⟩
  obtain ⟨b, off, u, rfl, hcell, hs⟩ := hc i hi
  exact ⟨b, off, u, rfl, by rw [hb.cell (cell_lt hcell)]; exact hcell, hs.below hb⟩
end Go.Proofs.YteioleilblehiaaGreatDoor
