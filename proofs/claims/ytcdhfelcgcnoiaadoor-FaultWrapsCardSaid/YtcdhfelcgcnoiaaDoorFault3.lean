/- package fault's Code, At, Place, Harmless; errors.Is, errors.Unwrap at the program's errors, by contracts. -/
import Derived.Test.YtcdhfelcgcnoiaaDoorFault2
namespace Go.Proofs.YtcdhfelcgcnoiaaDoor
open Go.RowKit Go.Extern.Stop Go.Stop Go.Extern

theorem setRow_row {w : World} {g : Nat} {cur : Array Value} {ty : TypeId} (h : w.heap[g]? = some (.cells cur ty (0, 0))) (cs : Array Value) : (w.setRow g cs).heap[g]? = some (.cells cs ty (0, 0)) :=
  setRow_heap w g cur cs ty (0, 0) h
theorem _root_.Go.RowKit.Below.setRow {B : Nat} {a w : World} (h : Below B a w) {g : Nat} (hg : B ≤ g) (cs : Array Value) : Below B a (w.setRow g cs) :=
  h.trans ⟨rfl, rfl, rfl, by simp [World.setRow], fun k hk => by simp only [World.setRow, Array.getElem?_modify]; rw [if_neg (by omega)]⟩
theorem AsHit.row {w : World} {g : Nat} {c : Array Value} {e : Ending} {w' : World} {cur : Array Value} {ty : TypeId} (h : AsHit w g c e w') (hg : w.heap[g]? = some (.cells cur ty (0, 0))) : w'.heap[g]? = some (.cells c ty (0, 0)) := by
  obtain ⟨h1, w1, h2, rfl⟩ := h
  exact setRow_row (row_below h2 hg (row_lt hg)) c
/-- The target is the call's own new row. -/
theorem AsHit.own {w : World} {o : Obj} {c : Array Value} {e : Ending} {w' : World} (h : AsHit (w.alloc o) w.heap.size c e w') : Below w.heap.size w w' := by
  obtain ⟨h1, w1, h2, rfl⟩ := h
  exact (((Below.refl _ w).alloc (Nat.le_refl _) _).trans (h2.mono (by simp))).setRow (Nat.le_refl _) c
theorem AsMiss.own {w : World} {o : Obj} {e : Ending} {w' : World} (h : AsMiss (w.alloc o) e w') : Below w.heap.size w w' :=
  ((Below.refl _ w).alloc (Nat.le_refl _) _).trans (h.2.mono (by simp))

theorem Code_er (x : Er) (w : World) (he : ErrTy w) : Calls Tryd.prog 7 #[.iface x.t x.v] w fun e w' => e = .returned (.tuple #[.int .i64 x.cd, .bool true]) ∧ Below w.heap.size w w' := by
  have Hc := Lib.hid (As29 x w.heap.size (.int .i64 0) 29 _ (he.alloc (.cells #[.int .i64 0] 29)) (row_new w _))
  clear he
  go_enter Tryd.func7, Tryd.ntmps7
  go_wp2_with (go_at_call 13; refine (Hc.out).mono ?_; intro e w' hq; obtain rfl := hq.1; have hcl := (row_cell (hq.row (row_new w _))).1; have Hq := Lib.hid hq; clear hq)
  go_ret2
  exact ⟨rfl, Hq.out.own⟩
theorem Code_nil (w : World) : Calls Tryd.prog 7 #[.nilIface] w fun e w' => e = .returned (.tuple #[.int .i64 0, .bool false]) ∧ Below w.heap.size w w' := by
  go_enter Tryd.func7, Tryd.ntmps7
  go_wp2_with (go_at_call 13; refine (As_nil _ _).mono ?_; rintro e w' ⟨rfl, rfl⟩)
  go_ret2
  exact ⟨rfl, (Below.refl _ w).alloc (Nat.le_refl _) _⟩

def fltAt (x : Er) : Int := match x.flt with | some (_, a) => a | none => 0
def plcK (x : Er) : Int := match x.plc with | some (k, _) => k | none => 0
theorem row_cell2 {w : World} {g : Nat} {a b : Value} {ty : TypeId} {fr : Nat × Nat} (h : w.heap[g]? = some (.cells #[a, b] ty fr)) : w.cell? ⟨g, 0, none⟩ = some a ∧ w.cell? ⟨g, 1, none⟩ = some b := by
  simp [World.cell?, h]
theorem AsFlt.own {x : Er} {w : World} {e : Ending} {w' : World} (h : AsFlt x.flt (w.alloc (.cells #[.int .i64 0, .int .i64 0] 40)) w.heap.size e w') :
    e = .returned (.bool x.flt.isSome) ∧ w'.cell? ⟨w.heap.size, 1, none⟩ = some (.int .i64 (fltAt x)) ∧ Below w.heap.size w w' := by
  unfold fltAt
  cases hx : x.flt with
  | none =>
    rw [hx] at h
    exact ⟨h.1, by rw [h.2.cell (by simp)]; exact (row_cell2 (row_new w _)).2, AsMiss.own h⟩
  | some p =>
    obtain ⟨c, a⟩ := p
    rw [hx] at h
    exact ⟨h.1, (row_cell2 (AsHit.row h (row_new w _))).2, AsHit.own h⟩
theorem AsPlc.own {x : Er} {w : World} {e : Ending} {w' : World} (h : AsPlc x.plc (w.alloc (.cells #[.int .i64 0, .nilIface] 51)) w.heap.size e w') :
    e = .returned (.bool x.plc.isSome) ∧ w'.cell? ⟨w.heap.size, 0, none⟩ = some (.int .i64 (plcK x)) ∧ Below w.heap.size w w' := by
  unfold plcK
  cases hx : x.plc with
  | none =>
    rw [hx] at h
    exact ⟨h.1, by rw [h.2.cell (by simp)]; exact (row_cell2 (row_new w _)).1, AsMiss.own h⟩
  | some p =>
    obtain ⟨c, a⟩ := p
    rw [hx] at h
    exact ⟨h.1, (row_cell2 (AsHit.row h (row_new w _))).1, AsHit.own h⟩
theorem At_er (x : Er) (w : World) (he : ErrTy w) : Calls Tryd.prog 8 #[.iface x.t x.v] w fun e w' => e = .returned (.tuple #[.int .i64 (fltAt x), .bool x.flt.isSome]) ∧ Below w.heap.size w w' := by
  have Hc := Lib.hid (As40 x w.heap.size (.int .i64 0) (.int .i64 0) 40 _ (he.alloc (.cells #[.int .i64 0, .int .i64 0] 40)) (row_new w _))
  clear he
  generalize hv : fltAt x = v
  generalize hb : x.flt.isSome = b
  have Hv := Lib.hid hv; clear hv
  have Hb := Lib.hid hb; clear hb
  go_enter Tryd.func8, Tryd.ntmps8
  go_wp2_with (go_at_call 13; refine (Hc.out).mono ?_; intro e w' hq; obtain ⟨rfl, hcl, hB⟩ := hq.own; clear hq; rw [Hv.out] at hcl; rw [Hb.out])
  go_ret2
  exact ⟨rfl, hB⟩
theorem At_nil (w : World) : Calls Tryd.prog 8 #[.nilIface] w fun e w' => e = .returned (.tuple #[.int .i64 0, .bool false]) ∧ Below w.heap.size w w' := by
  go_enter Tryd.func8, Tryd.ntmps8
  go_wp2_with (go_at_call 13; refine (As_nil _ _).mono ?_; rintro e w' ⟨rfl, rfl⟩)
  go_ret2
  exact ⟨rfl, (Below.refl _ w).alloc (Nat.le_refl _) _⟩
theorem Place_er (x : Er) (w : World) (he : ErrTy w) : Calls Tryd.prog 9 #[.iface x.t x.v] w fun e w' => e = .returned (.tuple #[.int .i64 (plcK x), .bool x.plc.isSome]) ∧ Below w.heap.size w w' := by
  have Hc := Lib.hid (As51 x w.heap.size (.int .i64 0) (.nilIface) 51 _ (he.alloc (.cells #[.int .i64 0, .nilIface] 51)) (row_new w _))
  clear he
  generalize hv : plcK x = v
  generalize hb : x.plc.isSome = b
  have Hv := Lib.hid hv; clear hv
  have Hb := Lib.hid hb; clear hb
  go_enter Tryd.func9, Tryd.ntmps9
  go_wp2_with (go_at_call 13; refine (Hc.out).mono ?_; intro e w' hq; obtain ⟨rfl, hcl, hB⟩ := hq.own; clear hq; rw [Hv.out] at hcl; rw [Hb.out])
  go_ret2
  exact ⟨rfl, hB⟩
theorem Place_nil (w : World) : Calls Tryd.prog 9 #[.nilIface] w fun e w' => e = .returned (.tuple #[.int .i64 0, .bool false]) ∧ Below w.heap.size w w' := by
  go_enter Tryd.func9, Tryd.ntmps9
  go_wp2_with (go_at_call 13; refine (As_nil _ _).mono ?_; rintro e w' ⟨rfl, rfl⟩)
  go_ret2
  exact ⟨rfl, (Below.refl _ w).alloc (Nat.le_refl _) _⟩

@[go_sem] theorem ex70 (args : Array Value) (w : World) : (callFunc 70 args).run Tryd.prog w = (((ReflectliteType.method fun t => do Rtype.noPackHeld "Comparable" t; pure (.bool (← typeInfo t).comparable)) args).run Tryd.prog w).andThen fun v w' => .ok (.value v) w' :=
  run_callFunc_extern (e := ReflectliteType.method fun t => do Rtype.noPackHeld "Comparable" t; pure (.bool (← typeInfo t).comparable)) Tryd.func70 (by kernel_rfl) (by kernel_rfl) (by kernel_rfl) (by kernel_rfl) args w
@[go_sem] theorem co29 (w : World) : (ReflectliteType.method (fun t => do Rtype.noPackHeld "Comparable" t; (fun a : TypeInfo => Value.bool a.comparable) <$> typeInfo t) #[.agg #[.pointer (some ⟨6, 29, none⟩)]]).run Tryd.prog w = .ok (.bool true) w := by kernel_rfl
theorem Is_er (x : Er) (c : Int) (w : World) : Calls Tryd.prog 15 #[.iface x.t x.v, .iface 29 (.int .i64 c)] w fun e w' => e = .returned (.bool (x.cd == c)) ∧ Below w.heap.size w w' := by
  go_enter Tryd.func15, Tryd.ntmps15
  go_wp2_with (go_at_call 26; refine (is_er _ _ _).mono ?_; rintro e w' ⟨rfl, hb⟩)
  go_ret
  exact ⟨rfl, hb⟩
theorem Harmless_nil (w : World) : Calls Tryd.prog 10 #[.nilIface] w fun e w' => e = .returned (.bool false) ∧ Below w.heap.size w w' := by
  go_enter Tryd.func10, Tryd.ntmps10
  go_wp2_with (go_at_call 7; refine (Code_nil _).mono ?_; rintro e w' ⟨rfl, hb⟩)
  go_ret
  exact ⟨rfl, hb⟩
def harm (c : Int) : Bool := c == 5 || c == 6 || c == 7
theorem Harmless_er (x : Er) (w : World) (he : ErrTy w) : Calls Tryd.prog 10 #[.iface x.t x.v] w fun e w' => e = .returned (.bool (harm x.cd)) ∧ Below w.heap.size w w' := by
  have Hc := Lib.hid (Code_er x w he)
  clear he
  go_enter Tryd.func10, Tryd.ntmps10
  go_wp2_with (first | (go_at_call 7; refine (Hc.out).mono ?_; rintro e w' ⟨rfl, hb⟩) | (go_at_call 15; refine (Is_er _ _ _).mono ?_; rintro e w2 ⟨rfl, hb2⟩))
  all_goals go_ret
  all_goals refine ⟨ret_b ?_, by first | exact hb.trans (hb2.mono hb.size) | exact hb⟩
  all_goals (unfold harm; simp [*])
theorem Unwrap_placed (k : Int) (x : Er) (w : World) : Calls Tryd.prog 14 #[.iface (Er.placed k x).t (Er.placed k x).v] w fun e w' => e = .returned (.iface x.t x.v) ∧ Below w.heap.size w w' := by
  rw [Er.t_placed, Er.v_placed]
  go_enter Tryd.func14, Tryd.ntmps14
  go_wp2_with (go_at_call 64; refine (placedUnwrap _ _ _).mono ?_; rintro e w' ⟨rfl, rfl⟩)
  go_ret
  exact ⟨rfl, (Below.refl _ w).alloc (Nat.le_refl _) _⟩
end Go.Proofs.YtcdhfelcgcnoiaaDoor
