/- errors.As, errors.Is, errors.Unwrap and package fault's functions at the errors of the program, by contracts. -/
import Derived.Test.YtcdhfelcgcnoiaaDoorErr
namespace Go.Proofs.YtcdhfelcgcnoiaaDoor
open Go.RowKit Go.Extern.Stop Go.Stop Go.Extern

theorem mk29 (p : Addr) (w : World) : (ReflectliteValue.mk 29 p ReflectliteValue.flagAddr).run Tryd.prog w = .ok (.agg #[.pointer (some ⟨6, 29, none⟩), .pointer (some p), .int .u64 (2 + 384)]) w := by kernel_rfl
/-- (Value).Elem at the Value of a pointer. -/
theorem elemV49 (a p : Addr) (W : World) (ha : W.cell? a = some (.pointer (some p))) :
    (ReflectliteValue.method (ReflectliteValue.valueError "reflectlite.Value.Elem" 0) ReflectliteValue.elem #[.agg #[.pointer (some ⟨6, 49, none⟩), .pointer (some a), .int .u64 150]]).run Tryd.prog W
      = .ok (.agg #[.pointer (some ⟨6, 29, none⟩), .pointer (some p), .int .u64 (2 + 384)]) W := by
  rw [rlm]
  simp only [Sem.run_bind, parts49, Result.andThen]
  simp [ReflectliteValue.elem, loadVar, isAgg, underlying, Tryd.underlying49, ha, Result.andThen, elemOf49, mk29]
theorem partsA29 (a : Addr) (w : World) : (ReflectliteValue.parts (.agg #[.pointer (some ⟨6, 29, none⟩), .pointer (some a), .int .u64 (2 + 384)])).run Tryd.prog w = .ok (some (29, a, 2 + 384)) w := by kernel_rfl
theorem partsV29 (a : Addr) (w : World) : (ReflectliteValue.parts (.agg #[.pointer (some ⟨6, 29, none⟩), .pointer (some a), .int .u64 (2 + 128)])).run Tryd.prog w = .ok (some (29, a, 2 + 128)) w := by kernel_rfl
theorem direct29 (w : World) : (Rtype.directlyAssignable 29 29).run Tryd.prog w = .ok true w := by kernel_rfl
theorem mk40 (p : Addr) (w : World) : (ReflectliteValue.mk 40 p ReflectliteValue.flagAddr).run Tryd.prog w = .ok (.agg #[.pointer (some ⟨6, 40, none⟩), .pointer (some p), .int .u64 (25 + 384)]) w := by kernel_rfl
/-- (Value).Elem at the Value of a pointer. -/
theorem elemV42 (a p : Addr) (W : World) (ha : W.cell? a = some (.pointer (some p))) :
    (ReflectliteValue.method (ReflectliteValue.valueError "reflectlite.Value.Elem" 0) ReflectliteValue.elem #[.agg #[.pointer (some ⟨6, 42, none⟩), .pointer (some a), .int .u64 150]]).run Tryd.prog W
      = .ok (.agg #[.pointer (some ⟨6, 40, none⟩), .pointer (some p), .int .u64 (25 + 384)]) W := by
  rw [rlm]
  simp only [Sem.run_bind, parts42, Result.andThen]
  simp [ReflectliteValue.elem, loadVar, isAgg, underlying, Tryd.underlying42, ha, Result.andThen, elemOf42, mk40]
theorem partsA40 (a : Addr) (w : World) : (ReflectliteValue.parts (.agg #[.pointer (some ⟨6, 40, none⟩), .pointer (some a), .int .u64 (25 + 384)])).run Tryd.prog w = .ok (some (40, a, 25 + 384)) w := by kernel_rfl
theorem partsV40 (a : Addr) (w : World) : (ReflectliteValue.parts (.agg #[.pointer (some ⟨6, 40, none⟩), .pointer (some a), .int .u64 (25 + 128)])).run Tryd.prog w = .ok (some (40, a, 25 + 128)) w := by kernel_rfl
theorem direct40 (w : World) : (Rtype.directlyAssignable 40 40).run Tryd.prog w = .ok true w := by kernel_rfl
theorem mk51 (p : Addr) (w : World) : (ReflectliteValue.mk 51 p ReflectliteValue.flagAddr).run Tryd.prog w = .ok (.agg #[.pointer (some ⟨6, 51, none⟩), .pointer (some p), .int .u64 (25 + 384)]) w := by kernel_rfl
/-- (Value).Elem at the Value of a pointer. -/
theorem elemV52 (a p : Addr) (W : World) (ha : W.cell? a = some (.pointer (some p))) :
    (ReflectliteValue.method (ReflectliteValue.valueError "reflectlite.Value.Elem" 0) ReflectliteValue.elem #[.agg #[.pointer (some ⟨6, 52, none⟩), .pointer (some a), .int .u64 150]]).run Tryd.prog W
      = .ok (.agg #[.pointer (some ⟨6, 51, none⟩), .pointer (some p), .int .u64 (25 + 384)]) W := by
  rw [rlm]
  simp only [Sem.run_bind, parts52, Result.andThen]
  simp [ReflectliteValue.elem, loadVar, isAgg, underlying, Tryd.underlying52, ha, Result.andThen, elemOf52, mk51]
theorem partsA51 (a : Addr) (w : World) : (ReflectliteValue.parts (.agg #[.pointer (some ⟨6, 51, none⟩), .pointer (some a), .int .u64 (25 + 384)])).run Tryd.prog w = .ok (some (51, a, 25 + 384)) w := by kernel_rfl
theorem partsV51 (a : Addr) (w : World) : (ReflectliteValue.parts (.agg #[.pointer (some ⟨6, 51, none⟩), .pointer (some a), .int .u64 (25 + 128)])).run Tryd.prog w = .ok (some (51, a, 25 + 128)) w := by kernel_rfl
theorem direct51 (w : World) : (Rtype.directlyAssignable 51 51).run Tryd.prog w = .ok true w := by kernel_rfl
@[go_sem] theorem unv29 (c : Int) (w : World) : (ReflectliteValue.unpack (.iface 29 (.int .i64 c))).run Tryd.prog w
    = .ok (.agg #[.pointer (some ⟨6, 29, none⟩), .pointer (some ⟨w.heap.size, 0, none⟩), .int .u64 130]) (w.alloc (.cells #[.int .i64 c] 29)) := by kernel_rfl
@[go_sem] theorem unv40 (x y : Value) (w : World) : (ReflectliteValue.unpack (.iface 40 (.agg #[x, y]))).run Tryd.prog w
    = .ok (.agg #[.pointer (some ⟨6, 40, none⟩), .pointer (some ⟨w.heap.size, 0, none⟩), .int .u64 153]) (w.alloc (.cells #[x, y] 40)) := by kernel_rfl
@[go_sem] theorem unv51 (x y : Value) (w : World) : (ReflectliteValue.unpack (.iface 51 (.agg #[x, y]))).run Tryd.prog w
    = .ok (.agg #[.pointer (some ⟨6, 51, none⟩), .pointer (some ⟨w.heap.size, 0, none⟩), .int .u64 153]) (w.alloc (.cells #[x, y] 51)) := by kernel_rfl
/-- (Value).Set, one cell. -/
theorem set29 (ta b : Addr) (c : Int) (old : Value) (W : World) (hb : W.cell? b = some (.int .i64 c)) (ht : W.cell? ta = some old) (hf : W.frozen? ta = false) :
    (ReflectliteValue.set #[.agg #[.pointer (some ⟨6, 29, none⟩), .pointer (some ta), .int .u64 386], .agg #[.pointer (some ⟨6, 29, none⟩), .pointer (some b), .int .u64 130]]).run Tryd.prog W
      = .ok (.tuple #[]) (W.setCell ta (.int .i64 c)) := by
  rw [rls]
  have h1 := partsA29 ta W
  have h2 := partsV29 b W
  simp only [Int.reduceAdd] at h1 h2
  simp only [Sem.run_bind, h1, h2, Result.andThen]
  simp [ReflectliteValue.flagAddr, loadVar, isAgg, underlying, Tryd.underlying29, hb, Result.andThen, direct29, storeVar, Value.cells, storeCells, Addr.add]
  rw [run_store Tryd.prog W ta _ _ (by rfl)]
  simp [ht, hf]
/-- (Value).Set, two cells. -/
theorem set40 (g b : Nat) (x y : Value) (old : Array Value) (ty : TypeId) (W : World) (hx : x.oneCell' = true) (hy : y.oneCell' = true) (hb : W.heap[b]? = some (.cells #[x, y] 40 (0, 0))) (ht : W.heap[g]? = some (.cells old ty (0, 0))) (ho : old.size = 2) :
    (ReflectliteValue.set #[.agg #[.pointer (some ⟨6, 40, none⟩), .pointer (some ⟨g, 0, none⟩), .int .u64 409], .agg #[.pointer (some ⟨6, 40, none⟩), .pointer (some ⟨b, 0, none⟩), .int .u64 153]]).run Tryd.prog W
      = .ok (.tuple #[]) (W.setRow g #[x, y]) := by
  rw [rls]
  have h1 := partsA40 ⟨g, 0, none⟩ W
  have h2 := partsV40 ⟨b, 0, none⟩ W
  simp only [Int.reduceAdd] at h1 h2
  have hl := run_loadVar_row (P := Tryd.prog) W b 40 40 #[x, y] (0, 0) _ hb Tryd.underlying40 rfl (by kernel_rfl)
  have hs := run_storeVar_row (P := Tryd.prog) W g ty 40 old #[x, y] ht (by kernel_rfl) ho (by simp [hx, hy])
  simp only [Sem.run_bind, h1, h2, Result.andThen]
  simp [ReflectliteValue.flagAddr, hl, hs, Result.andThen, direct40]
/-- (Value).Set, two cells. -/
theorem set51 (g b : Nat) (x y : Value) (old : Array Value) (ty : TypeId) (W : World) (hx : x.oneCell' = true) (hy : y.oneCell' = true) (hb : W.heap[b]? = some (.cells #[x, y] 51 (0, 0))) (ht : W.heap[g]? = some (.cells old ty (0, 0))) (ho : old.size = 2) :
    (ReflectliteValue.set #[.agg #[.pointer (some ⟨6, 51, none⟩), .pointer (some ⟨g, 0, none⟩), .int .u64 409], .agg #[.pointer (some ⟨6, 51, none⟩), .pointer (some ⟨b, 0, none⟩), .int .u64 153]]).run Tryd.prog W
      = .ok (.tuple #[]) (W.setRow g #[x, y]) := by
  rw [rls]
  have h1 := partsA51 ⟨g, 0, none⟩ W
  have h2 := partsV51 ⟨b, 0, none⟩ W
  simp only [Int.reduceAdd] at h1 h2
  have hl := run_loadVar_row (P := Tryd.prog) W b 51 51 #[x, y] (0, 0) _ hb Tryd.underlying51 rfl (by kernel_rfl)
  have hs := run_storeVar_row (P := Tryd.prog) W g ty 51 old #[x, y] ht (by kernel_rfl) ho (by simp [hx, hy])
  simp only [Sem.run_bind, h1, h2, Result.andThen]
  simp [ReflectliteValue.flagAddr, hl, hs, Result.andThen, direct51]
end Go.Proofs.YtcdhfelcgcnoiaaDoor
