/- errors.As, errors.Is, errors.Unwrap and package fault's Code, At, Place, Harmless, by contracts. -/
import Derived.Test.YtcdhfelcgcnoiaaDoorFault
namespace Go.Proofs.YtcdhfelcgcnoiaaDoor
open Go.RowKit Go.Extern.Stop Go.Stop Go.Extern

/-- The library's variable errors.errorType holds the handle of the type 'error'. -/
def ErrTy (w : World) : Prop := w.cell? ⟨0, 0, none⟩ = some (.iface 74 (.agg #[.pointer (some ⟨6, 27, none⟩)]))
theorem ErrTy.lt {w : World} (h : ErrTy w) : 0 < w.heap.size := by
  rcases Nat.lt_or_ge 0 w.heap.size with h' | h'
  · exact h'
  · simp [ErrTy, World.cell?, Array.getElem?_eq_none h'] at h
theorem ErrTy.below {w w' : World} (h : ErrTy w) (hb : Below w.heap.size w w') : ErrTy w' := by
  unfold ErrTy
  rw [hb.cell h.lt]
  exact h
theorem ErrTy.alloc {w : World} (h : ErrTy w) (o : Obj) : ErrTy (w.alloc o) := h.below ((Below.refl _ w).alloc (Nat.le_refl _) o)

theorem AsHit.ret {w : World} {g : Nat} {c : Array Value} {e : Ending} {w' : World} (h : AsHit w g c e w') : ∃ v, e = .returned (.bool v) := ⟨_, h.1⟩
theorem AsMiss.ret {w : World} {e : Ending} {w' : World} (h : AsMiss w e w') : ∃ v, e = .returned (.bool v) := ⟨_, h.1⟩
theorem AsHit.before {w wa : World} {g : Nat} {c : Array Value} {e : Ending} {w' : World} (h : AsHit wa g c e w') (hb : Below w.heap.size w wa) : AsHit w g c e w' := by
  obtain ⟨h1, w1, h2, h3⟩ := h
  exact ⟨h1, w1, hb.trans (h2.mono hb.size), h3⟩
theorem AsMiss.before {w wa : World} {e : Ending} {w' : World} (h : AsMiss wa e w') (hb : Below w.heap.size w wa) : AsMiss w e w' := ⟨h.1, hb.trans (h.2.mono hb.size)⟩
theorem AsFlt.ret {r : Option (Int × Int)} {w : World} {g : Nat} {e : Ending} {w' : World} (h : AsFlt r w g e w') : ∃ v, e = .returned (.bool v) := by
  cases r with
  | none => exact AsMiss.ret h
  | some p => exact AsHit.ret h
theorem AsFlt.before {r : Option (Int × Int)} {w wa : World} {g : Nat} {e : Ending} {w' : World} (h : AsFlt r wa g e w') (hb : Below w.heap.size w wa) : AsFlt r w g e w' := by
  cases r with
  | none => exact AsMiss.before h hb
  | some p => exact AsHit.before h hb
theorem AsPlc.ret {r : Option (Int × Er)} {w : World} {g : Nat} {e : Ending} {w' : World} (h : AsPlc r w g e w') : ∃ v, e = .returned (.bool v) := by
  cases r with
  | none => exact AsMiss.ret h
  | some p => exact AsHit.ret h
theorem AsPlc.before {r : Option (Int × Er)} {w wa : World} {g : Nat} {e : Ending} {w' : World} (h : AsPlc r wa g e w') (hb : Below w.heap.size w wa) : AsPlc r w g e w' := by
  cases r with
  | none => exact AsMiss.before h hb
  | some p => exact AsHit.before h hb

theorem As_nil (t : Value) (w : World) : Calls Tryd.prog 13 #[.nilIface, t] w fun e w' => e = .returned (.bool false) ∧ w = w' := by
  go_enter Tryd.func13, Tryd.ntmps13
  go_wp2
  go_ret
  exact ⟨rfl, rfl⟩

set_option maxRecDepth 100000 in
set_option maxHeartbeats 400000 in
theorem As29 (x : Er) (g : Nat) (o : Value) (ty : TypeId) (w : World) (he : ErrTy w) (hg : w.heap[g]? = some (.cells #[o] ty (0, 0))) :
    Calls Tryd.prog 13 #[.iface x.t x.v, .iface 49 (.pointer (some ⟨g, 0, none⟩))] w (AsHit w g #[.int .i64 x.cd]) := by
  have hgl := row_lt hg
  have Hg := Lib.hid hg; clear hg
  have hB1 : Below w.heap.size w ((w.alloc (.cells #[.pointer (some ⟨g, 0, none⟩)] 49)).alloc (.cells #[.pointer (some ⟨6, 49, none⟩), .pointer (some ⟨w.heap.size, 0, none⟩), .int .u64 150] 56)) := (((Below.refl _ w).alloc (Nat.le_refl _) _).alloc (by simp) _)
  have fg : ((w.alloc (.cells #[.pointer (some ⟨g, 0, none⟩)] 49)).alloc (.cells #[.pointer (some ⟨6, 49, none⟩), .pointer (some ⟨w.heap.size, 0, none⟩), .int .u64 150] 56)).cell? ⟨0, 0, none⟩ = some (.iface 74 (.agg #[.pointer (some ⟨6, 27, none⟩)])) := he.below hB1
  have fn := isNil49 ⟨w.heap.size, 0, none⟩ ⟨g, 0, none⟩ ((w.alloc (.cells #[.pointer (some ⟨g, 0, none⟩)] 49)).alloc (.cells #[.pointer (some ⟨6, 49, none⟩), .pointer (some ⟨w.heap.size, 0, none⟩), .int .u64 150] 56)) (by simp)
  have Hc := Lib.hid (as_code x (.iface 49 (.pointer (some ⟨g, 0, none⟩))) g w.heap.size o ty _ (row_old (row_new w (.cells #[.pointer (some ⟨g, 0, none⟩)] 49)) (.cells #[.pointer (some ⟨6, 49, none⟩), .pointer (some ⟨w.heap.size, 0, none⟩), .int .u64 150] 56)) (row_old (row_old Hg.out _) _))
  have HB := Lib.hid hB1
  clear hB1 he
  go_enter Tryd.func13, Tryd.ntmps13
  go_wp2_with (go_at_call 24; refine (Hc.out).mono ?_; intro e w' hq; obtain ⟨v, rfl⟩ := hq.ret; have Hq := Lib.hid hq; clear hq)
  go_ret
  exact Hq.out.before HB.out
set_option maxRecDepth 100000 in
set_option maxHeartbeats 400000 in
theorem As40 (x : Er) (g : Nat) (o1 o2 : Value) (ty : TypeId) (w : World) (he : ErrTy w) (hg : w.heap[g]? = some (.cells #[o1, o2] ty (0, 0))) :
    Calls Tryd.prog 13 #[.iface x.t x.v, .iface 42 (.pointer (some ⟨g, 0, none⟩))] w (AsFlt x.flt w g) := by
  have hgl := row_lt hg
  have Hg := Lib.hid hg; clear hg
  have hB1 : Below w.heap.size w ((w.alloc (.cells #[.pointer (some ⟨g, 0, none⟩)] 42)).alloc (.cells #[.pointer (some ⟨6, 42, none⟩), .pointer (some ⟨w.heap.size, 0, none⟩), .int .u64 150] 56)) := (((Below.refl _ w).alloc (Nat.le_refl _) _).alloc (by simp) _)
  have fg : ((w.alloc (.cells #[.pointer (some ⟨g, 0, none⟩)] 42)).alloc (.cells #[.pointer (some ⟨6, 42, none⟩), .pointer (some ⟨w.heap.size, 0, none⟩), .int .u64 150] 56)).cell? ⟨0, 0, none⟩ = some (.iface 74 (.agg #[.pointer (some ⟨6, 27, none⟩)])) := he.below hB1
  have fn := isNil42 ⟨w.heap.size, 0, none⟩ ⟨g, 0, none⟩ ((w.alloc (.cells #[.pointer (some ⟨g, 0, none⟩)] 42)).alloc (.cells #[.pointer (some ⟨6, 42, none⟩), .pointer (some ⟨w.heap.size, 0, none⟩), .int .u64 150] 56)) (by simp)
  have Hc := Lib.hid (as_fault x (.iface 42 (.pointer (some ⟨g, 0, none⟩))) g w.heap.size o1 o2 ty _ (row_old (row_new w (.cells #[.pointer (some ⟨g, 0, none⟩)] 42)) (.cells #[.pointer (some ⟨6, 42, none⟩), .pointer (some ⟨w.heap.size, 0, none⟩), .int .u64 150] 56)) (row_old (row_old Hg.out _) _))
  have HB := Lib.hid hB1
  clear hB1 he
  go_enter Tryd.func13, Tryd.ntmps13
  go_wp2_with (go_at_call 24; refine (Hc.out).mono ?_; intro e w' hq; obtain ⟨v, rfl⟩ := hq.ret; have Hq := Lib.hid hq; clear hq)
  go_ret
  exact Hq.out.before HB.out
set_option maxRecDepth 100000 in
set_option maxHeartbeats 400000 in
theorem As51 (x : Er) (g : Nat) (o1 o2 : Value) (ty : TypeId) (w : World) (he : ErrTy w) (hg : w.heap[g]? = some (.cells #[o1, o2] ty (0, 0))) :
    Calls Tryd.prog 13 #[.iface x.t x.v, .iface 52 (.pointer (some ⟨g, 0, none⟩))] w (AsPlc x.plc w g) := by
  have hgl := row_lt hg
  have Hg := Lib.hid hg; clear hg
  have hB1 : Below w.heap.size w ((w.alloc (.cells #[.pointer (some ⟨g, 0, none⟩)] 52)).alloc (.cells #[.pointer (some ⟨6, 52, none⟩), .pointer (some ⟨w.heap.size, 0, none⟩), .int .u64 150] 56)) := (((Below.refl _ w).alloc (Nat.le_refl _) _).alloc (by simp) _)
  have fg : ((w.alloc (.cells #[.pointer (some ⟨g, 0, none⟩)] 52)).alloc (.cells #[.pointer (some ⟨6, 52, none⟩), .pointer (some ⟨w.heap.size, 0, none⟩), .int .u64 150] 56)).cell? ⟨0, 0, none⟩ = some (.iface 74 (.agg #[.pointer (some ⟨6, 27, none⟩)])) := he.below hB1
  have fn := isNil52 ⟨w.heap.size, 0, none⟩ ⟨g, 0, none⟩ ((w.alloc (.cells #[.pointer (some ⟨g, 0, none⟩)] 52)).alloc (.cells #[.pointer (some ⟨6, 52, none⟩), .pointer (some ⟨w.heap.size, 0, none⟩), .int .u64 150] 56)) (by simp)
  have Hc := Lib.hid (as_placed x (.iface 52 (.pointer (some ⟨g, 0, none⟩))) g w.heap.size o1 o2 ty _ (row_old (row_new w (.cells #[.pointer (some ⟨g, 0, none⟩)] 52)) (.cells #[.pointer (some ⟨6, 52, none⟩), .pointer (some ⟨w.heap.size, 0, none⟩), .int .u64 150] 56)) (row_old (row_old Hg.out _) _))
  have HB := Lib.hid hB1
  clear hB1 he
  go_enter Tryd.func13, Tryd.ntmps13
  go_wp2_with (go_at_call 24; refine (Hc.out).mono ?_; intro e w' hq; obtain ⟨v, rfl⟩ := hq.ret; have Hq := Lib.hid hq; clear hq)
  go_ret
  exact Hq.out.before HB.out
end Go.Proofs.YtcdhfelcgcnoiaaDoor
