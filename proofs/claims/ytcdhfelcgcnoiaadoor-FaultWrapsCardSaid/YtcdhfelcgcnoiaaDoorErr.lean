/- The errors of package fault as values; errors.As, errors.Is, errors.Unwrap at such errors, by contracts. -/
import Derived.Test.YtcdhfelcgcnoiaaDoorProg
import Derived.WalkKit
import Derived.WalkSpells
import Derived.WalkLawsBesides
import Derived.Outline
import Derived.LaidEql
import Derived.Stop.Asserts
import Derived.RowKitTokens
import Derived.Lib.Hide
import Derived.Lib.IfaceEq
import Derived.Deep.LoopGhost
namespace Go.Proofs.YtcdhfelcgcnoiaaDoor
open Go.RowKit Go.Extern.Stop Go.Stop Go.Extern

/-- An error of the program: a code, a fault, or an error placed in an operation. -/
inductive Er where
  | code (c : Int)
  | fault (c a : Int)
  | placed (k : Int) (e : Er)
/-- Its dynamic type. -/
def Er.t : Er → TypeId
  | .code _ => 29
  | .fault _ _ => 40
  | .placed _ _ => 51
/-- Its value. -/
def Er.v : Er → Value
  | .code c => .int .i64 c
  | .fault c a => .agg #[.int .i64 c, .int .i64 a]
  | .placed k e => .agg #[.int .i64 k, .iface e.t e.v]
def Er.depth : Er → Nat
  | .code _ => 0
  | .fault _ _ => 1
  | .placed _ e => e.depth + 1
/-- The code. -/
def Er.cd : Er → Int
  | .code c => c
  | .fault c _ => c
  | .placed _ e => e.cd

theorem in_nil (k : Int) (w : World) : Calls Tryd.prog 12 #[.int .i64 k, .nilIface] w fun e w' => e = .returned .nilIface ∧ w = w' := by
  go_enter Tryd.func12, Tryd.ntmps12
  go_wp2
  go_ret
  exact ⟨rfl, rfl⟩
theorem in_some (k : Int) (t : TypeId) (v : Value) (w : World) : Calls Tryd.prog 12 #[.int .i64 k, .iface t v] w fun e w' => e = .returned (.iface 51 (.agg #[.int .i64 k, .iface t v])) ∧ w = w' := by
  go_enter Tryd.func12, Tryd.ntmps12
  go_wp2
  go_ret
  exact ⟨rfl, rfl⟩
theorem in_er (k : Int) (x : Er) (w : World) : Calls Tryd.prog 12 #[.int .i64 k, .iface x.t x.v] w fun e w' => e = .returned (.iface (Er.placed k x).t (Er.placed k x).v) ∧ w = w' :=
  in_some k x.t x.v w
theorem new_er (c a : Int) (w : World) : Calls Tryd.prog 16 #[.int .i64 c, .int .i64 a] w fun e w' => e = .returned (.iface (Er.fault c a).t (Er.fault c a).v) ∧ w = w' := by
  go_enter Tryd.func16, Tryd.ntmps16
  go_wp2
  go_ret
  exact ⟨rfl, rfl⟩

/- methods -/
theorem faultUnwrap (c a : Int) (w : World) : Calls Tryd.prog 62 #[.agg #[.int .i64 c, .int .i64 a]] w fun e w' => e = .returned (.iface 29 (.int .i64 c)) ∧ w.alloc (.cells #[.int .i64 c, .int .i64 a] 40) = w' := by
  go_enter Tryd.func62, Tryd.ntmps62
  go_wp2
  go_ret
  exact ⟨rfl, rfl⟩
theorem placedUnwrap (k : Int) (x : Er) (w : World) : Calls Tryd.prog 64 #[.agg #[.int .i64 k, .iface x.t x.v]] w fun e w' => e = .returned (.iface x.t x.v) ∧ w.alloc (.cells #[.int .i64 k, .iface x.t x.v] 51) = w' := by
  go_enter Tryd.func64, Tryd.ntmps64
  go_wp2
  go_ret
  exact ⟨rfl, rfl⟩

theorem Er.t_code (c : Int) : (Er.code c).t = 29 := rfl
theorem Er.t_fault (c a : Int) : (Er.fault c a).t = 40 := rfl
theorem Er.t_placed (k : Int) (x : Er) : (Er.placed k x).t = 51 := rfl
theorem Er.v_code (c : Int) : (Er.code c).v = .int .i64 c := rfl
theorem Er.v_fault (c a : Int) : (Er.fault c a).v = .agg #[.int .i64 c, .int .i64 a] := rfl
theorem Er.v_placed (k : Int) (x : Er) : (Er.placed k x).v = .agg #[.int .i64 k, .iface x.t x.v] := rfl
attribute [irreducible] Er.t Er.v

/- '==' between an error and a code -/
@[go_sem] theorem eql_cc (a b : Int) (w : World) : (binOp .eql 27 (.iface 29 (.int .i64 a)) (.iface 29 (.int .i64 b))).run Tryd.prog w = .ok (.bool (a == b)) w :=
  Lib.run_eql_iface_int (ms := _) (k := .i64) (q := .i64) w a b Tryd.underlying27 (by kernel_rfl) Tryd.underlying29
@[go_sem] theorem eql_fc (x y : Value) (w : World) : (binOp .eql 27 (.iface 40 x) (.iface 29 y)).run Tryd.prog w = .ok (.bool false) w :=
  run_eql_iface_types _ _ _ _ Tryd.underlying27 (by decide) w
@[go_sem] theorem eql_pc (x y : Value) (w : World) : (binOp .eql 27 (.iface 51 x) (.iface 29 y)).run Tryd.prog w = .ok (.bool false) w :=
  run_eql_iface_types _ _ _ _ Tryd.underlying27 (by decide) w
/- type assertions -/
@[go_sem] theorem ta_is29 (x : Value) (w : World) : (Instr.typeAssert (.iface 29 x) 27 84 true).run Tryd.prog w = .ok (.tuple #[.nilIface, .bool false]) w :=
  run_typeAssert_lacksB Tryd.underlying84 (by kernel_rfl) (by kernel_rfl) _ _ _
@[go_sem] theorem ta_as29 (x : Value) (w : World) : (Instr.typeAssert (.iface 29 x) 27 78 true).run Tryd.prog w = .ok (.tuple #[.nilIface, .bool false]) w :=
  run_typeAssert_lacksB Tryd.underlying78 (by kernel_rfl) (by kernel_rfl) _ _ _
@[go_sem] theorem ta_uns29 (x : Value) (w : World) : (Instr.typeAssert (.iface 29 x) 27 81 true).run Tryd.prog w = .ok (.tuple #[.nilIface, .bool false]) w :=
  run_typeAssert_lacksB Tryd.underlying81 (by kernel_rfl) (by kernel_rfl) _ _ _
@[go_sem] theorem ta_is40 (x : Value) (w : World) : (Instr.typeAssert (.iface 40 x) 27 84 true).run Tryd.prog w = .ok (.tuple #[.nilIface, .bool false]) w :=
  run_typeAssert_lacksB Tryd.underlying84 (by kernel_rfl) (by kernel_rfl) _ _ _
@[go_sem] theorem ta_as40 (x : Value) (w : World) : (Instr.typeAssert (.iface 40 x) 27 78 true).run Tryd.prog w = .ok (.tuple #[.nilIface, .bool false]) w :=
  run_typeAssert_lacksB Tryd.underlying78 (by kernel_rfl) (by kernel_rfl) _ _ _
@[go_sem] theorem ta_uns40 (x : Value) (w : World) : (Instr.typeAssert (.iface 40 x) 27 81 true).run Tryd.prog w = .ok (.tuple #[.nilIface, .bool false]) w :=
  run_typeAssert_lacksB Tryd.underlying81 (by kernel_rfl) (by kernel_rfl) _ _ _
@[go_sem] theorem ta_is51 (x : Value) (w : World) : (Instr.typeAssert (.iface 51 x) 27 84 true).run Tryd.prog w = .ok (.tuple #[.nilIface, .bool false]) w :=
  run_typeAssert_lacksB Tryd.underlying84 (by kernel_rfl) (by kernel_rfl) _ _ _
@[go_sem] theorem ta_as51 (x : Value) (w : World) : (Instr.typeAssert (.iface 51 x) 27 78 true).run Tryd.prog w = .ok (.tuple #[.nilIface, .bool false]) w :=
  run_typeAssert_lacksB Tryd.underlying78 (by kernel_rfl) (by kernel_rfl) _ _ _
@[go_sem] theorem ta_uns51 (x : Value) (w : World) : (Instr.typeAssert (.iface 51 x) 27 81 true).run Tryd.prog w = .ok (.tuple #[.nilIface, .bool false]) w :=
  run_typeAssert_lacksB Tryd.underlying81 (by kernel_rfl) (by kernel_rfl) _ _ _
@[go_sem] theorem ta_un29 (x : Value) (w : World) : (Instr.typeAssert (.iface 29 x) 27 65 true).run Tryd.prog w = .ok (.tuple #[.nilIface, .bool false]) w :=
  run_typeAssert_lacksB Tryd.underlying65 (by kernel_rfl) (by kernel_rfl) _ _ _
@[go_sem] theorem ta_un40 (x : Value) (w : World) : (Instr.typeAssert (.iface 40 x) 27 65 true).run Tryd.prog w = .ok (.tuple #[.iface 40 x, .bool true]) w :=
  run_typeAssert_hasB Tryd.underlying65 (by kernel_rfl) _ _ _
@[go_sem] theorem me_un40 (x : Value) (w : World) : (Go.method 233 40 x "Unwrap").run Tryd.prog w = .ok (62, x) w := by kernel_rfl
@[go_sem] theorem ta_un51 (x : Value) (w : World) : (Instr.typeAssert (.iface 51 x) 27 65 true).run Tryd.prog w = .ok (.tuple #[.iface 51 x, .bool true]) w :=
  run_typeAssert_hasB Tryd.underlying65 (by kernel_rfl) _ _ _
@[go_sem] theorem me_un51 (x : Value) (w : World) : (Go.method 233 51 x "Unwrap").run Tryd.prog w = .ok (64, x) w := by kernel_rfl

theorem ret_b {a b : Bool} (h : a = b) : Ending.returned (.bool a) = .returned (.bool b) := by rw [h]
def IsRel (x : Er) (w : World) (k : Nat) (p : Value) (wr : World) : Prop := ∃ y : Er, p = .iface y.t y.v ∧ k = y.depth ∧ y.cd = x.cd ∧ Below w.heap.size w wr
set_option maxRecDepth 100000 in
/-- errors.is at a code. -/
theorem is_er (x : Er) (c : Int) (w : World) : Calls Tryd.prog 26 #[.iface x.t x.v, .iface 29 (.int .i64 c), .bool true] w fun e w' => e = .returned (.bool (x.cd == c)) ∧ Below w.heap.size w w' := by
  go_enter Tryd.func26, Tryd.ntmps26
  go_wp2
  go_loopg [0] (x.depth) (IsRel x w)
  case atStart => exact ⟨x, rfl, rfl, rfl, Below.refl _ _⟩
  case round =>
    obtain ⟨y, rfl, hk, hcd, hb⟩ := hrel
    have Hcd := Lib.hid hcd; clear hcd
    have Hk := Lib.hid hk; clear hk
    cases y with
    | code c' =>
      simp only [Er.t_code, Er.v_code]
      go_wp2
      · have ht : (c' == c) = true := by assumption
        go_ret
        exact ⟨ret_b (by rw [← Hcd.out]; exact ht.symm), hb⟩
      · have ht : (c' == c) = false := by assumption
        go_ret
        exact ⟨ret_b (by rw [← Hcd.out]; exact ht.symm), hb⟩
    | fault c' a =>
      simp only [Er.t_fault, Er.v_fault]
      go_wp2_with (go_at_call 62; refine (faultUnwrap _ _ _).mono ?_; rintro e w' ⟨rfl, rfl⟩)
      go_roundg 0
      case rel => exact ⟨.code c', by rw [Er.t_code, Er.v_code], rfl, Hcd.out, hb.alloc hb.size _⟩
      case measure => rw [Hk.out]; simp [Er.depth]
    | placed k y =>
      simp only [Er.t_placed, Er.v_placed]
      go_wp2_with (go_at_call 64; refine (placedUnwrap _ _ _).mono ?_; rintro e w' ⟨rfl, rfl⟩)
      go_roundg (y.depth)
      case rel => exact ⟨y, rfl, rfl, Hcd.out, hb.alloc hb.size _⟩
      case measure => rw [Hk.out]; simp [Er.depth]

/- the entries of internal/reflectlite at the types of errors -/
@[go_sem] theorem ex21 (args : Array Value) (w : World) : (callFunc 21 args).run Tryd.prog w = (((fun args => ReflectliteValue.unpack (args.getD 0 (.tuple #[]))) args).run Tryd.prog w).andThen fun v w' => .ok (.value v) w' :=
  run_callFunc_extern (e := (fun args => ReflectliteValue.unpack (args.getD 0 (.tuple #[])))) Tryd.func21 (by kernel_rfl) (by kernel_rfl) (by kernel_rfl) (by kernel_rfl) args w
@[go_sem] theorem ex22 (args : Array Value) (w : World) : (callFunc 22 args).run Tryd.prog w = (((ReflectliteValue.methodAny (ReflectliteValue.valueError "reflectlite.Value.Type" 0) (fun t _ _ _ => ReflectliteType.toType t)) args).run Tryd.prog w).andThen fun v w' => .ok (.value v) w' :=
  run_callFunc_extern (e := (ReflectliteValue.methodAny (ReflectliteValue.valueError "reflectlite.Value.Type" 0) (fun t _ _ _ => ReflectliteType.toType t))) Tryd.func22 (by kernel_rfl) (by kernel_rfl) (by kernel_rfl) (by kernel_rfl) args w
@[go_sem] theorem ex23 (args : Array Value) (w : World) : (callFunc 23 args).run Tryd.prog w = (((ReflectliteValue.method (ReflectliteValue.valueError "reflectlite.Value.IsNil" 0) ReflectliteValue.isNil) args).run Tryd.prog w).andThen fun v w' => .ok (.value v) w' :=
  run_callFunc_extern (e := (ReflectliteValue.method (ReflectliteValue.valueError "reflectlite.Value.IsNil" 0) ReflectliteValue.isNil)) Tryd.func23 (by kernel_rfl) (by kernel_rfl) (by kernel_rfl) (by kernel_rfl) args w
@[go_sem] theorem ex43 (args : Array Value) (w : World) : (callFunc 43 args).run Tryd.prog w = (((ReflectliteType.abiMethod fun t => do pure (.int .u8 (← Rtype.kind t))) args).run Tryd.prog w).andThen fun v w' => .ok (.value v) w' :=
  run_callFunc_extern (e := (ReflectliteType.abiMethod fun t => do pure (.int .u8 (← Rtype.kind t)))) Tryd.func43 (by kernel_rfl) (by kernel_rfl) (by kernel_rfl) (by kernel_rfl) args w
@[go_sem] theorem ex71 (args : Array Value) (w : World) : (callFunc 71 args).run Tryd.prog w = (((ReflectliteType.method ReflectliteType.elem) args).run Tryd.prog w).andThen fun v w' => .ok (.value v) w' :=
  run_callFunc_extern (e := (ReflectliteType.method ReflectliteType.elem)) Tryd.func71 (by kernel_rfl) (by kernel_rfl) (by kernel_rfl) (by kernel_rfl) args w
@[go_sem] theorem ex72 (args : Array Value) (w : World) : (callFunc 72 args).run Tryd.prog w = (((ReflectliteType.relation "Implements" ReflectliteType.implements_) args).run Tryd.prog w).andThen fun v w' => .ok (.value v) w' :=
  run_callFunc_extern (e := (ReflectliteType.relation "Implements" ReflectliteType.implements_)) Tryd.func72 (by kernel_rfl) (by kernel_rfl) (by kernel_rfl) (by kernel_rfl) args w
@[go_sem] theorem ex25 (args : Array Value) (w : World) : (callFunc 25 args).run Tryd.prog w = ((ReflectliteType.typeOf args).run Tryd.prog w).andThen fun v w' => .ok (.value v) w' :=
  run_callFunc_extern (e := ReflectliteType.typeOf) Tryd.func25 (by kernel_rfl) (by kernel_rfl) (by kernel_rfl) (by kernel_rfl) args w
@[go_sem] theorem ex69 (args : Array Value) (w : World) : (callFunc 69 args).run Tryd.prog w = (((ReflectliteType.relation "AssignableTo" ReflectliteType.assignableTo) args).run Tryd.prog w).andThen fun v w' => .ok (.value v) w' :=
  run_callFunc_extern (e := (ReflectliteType.relation "AssignableTo" ReflectliteType.assignableTo)) Tryd.func69 (by kernel_rfl) (by kernel_rfl) (by kernel_rfl) (by kernel_rfl) args w
@[go_sem] theorem ex27 (args : Array Value) (w : World) : (callFunc 27 args).run Tryd.prog w = (((ReflectliteValue.method (ReflectliteValue.valueError "reflectlite.Value.Elem" 0) ReflectliteValue.elem) args).run Tryd.prog w).andThen fun v w' => .ok (.value v) w' :=
  run_callFunc_extern (e := (ReflectliteValue.method (ReflectliteValue.valueError "reflectlite.Value.Elem" 0) ReflectliteValue.elem)) Tryd.func27 (by kernel_rfl) (by kernel_rfl) (by kernel_rfl) (by kernel_rfl) args w
@[go_sem] theorem ex28 (args : Array Value) (w : World) : (callFunc 28 args).run Tryd.prog w = ((ReflectliteValue.set args).run Tryd.prog w).andThen fun v w' => .ok (.value v) w' :=
  run_callFunc_extern (e := ReflectliteValue.set) Tryd.func28 (by kernel_rfl) (by kernel_rfl) (by kernel_rfl) (by kernel_rfl) args w
theorem rlm (z : Sem Value) (f : TypeId → Addr → Nat → Nat → Sem Value) (v : Value) :
    ReflectliteValue.method z f #[v] = (do match ← ReflectliteValue.parts v with | none => z | some (t, a, fl) => f t a fl (fl % 32)) := rfl
theorem rls (v x : Value) : ReflectliteValue.set #[v, x] = (do
    let (some (dst, a, fl), some (src, b, _)) := (← ReflectliteValue.parts v, ← ReflectliteValue.parts x)
      | unsupported (.noEntry "extern/(internal/reflectlite.Value).Set.zeroValue")
    if fl / ReflectliteValue.flagAddr % 2 == 0 then unsupported (.noEntry "extern/(internal/reflectlite.Value).Set.unaddressable")
    let val ← loadVar src b
    if ← Rtype.directlyAssignable dst src then storeVar dst a val
    else if ← Rtype.implements dst src then
      if (← Rtype.kind src) == 20 then
        match val with
        | .nilIface => unsupported (.noEntry "extern/reflectlite: a nil value of one interface type handed on as a value of another")
        | _ => storeVar dst a val
      else storeVar dst a (.iface src val)
    else panicString ("reflectlite.Set: value of type " ++ (← Rtype.spelt src) ++ " is not assignable to type " ++ (← Rtype.spelt dst))
    pure (.tuple #[])) := rfl
@[go_sem] theorem me_rtKind (h : Value) (w : World) : (Go.method 233 74 (.agg #[h]) "Kind").run Tryd.prog w = .ok (43, h) w := by kernel_rfl
@[go_sem] theorem me_rtElem (h : Value) (w : World) : (Go.method 233 74 (.agg #[h]) "Elem").run Tryd.prog w = .ok (71, .agg #[h]) w := by kernel_rfl
@[go_sem] theorem me_rtImplements (h : Value) (w : World) : (Go.method 233 74 (.agg #[h]) "Implements").run Tryd.prog w = .ok (72, .agg #[h]) w := by kernel_rfl
@[go_sem] theorem me_rtAssignableTo (h : Value) (w : World) : (Go.method 233 74 (.agg #[h]) "AssignableTo").run Tryd.prog w = .ok (69, .agg #[h]) w := by kernel_rfl
@[go_sem] theorem me_rtComparable (h : Value) (w : World) : (Go.method 233 74 (.agg #[h]) "Comparable").run Tryd.prog w = .ok (70, .agg #[h]) w := by kernel_rfl
@[go_sem] theorem un49 (t : Addr) (w : World) : (ReflectliteValue.unpack (.iface 49 (.pointer (some t)))).run Tryd.prog w
    = .ok (.agg #[.pointer (some ⟨6, 49, none⟩), .pointer (some ⟨w.heap.size, 0, none⟩), .int .u64 150]) (w.alloc (.cells #[.pointer (some t)] 49)) := by kernel_rfl
@[go_sem] theorem ty49 (a : Addr) (w : World) : (ReflectliteValue.methodAny (ReflectliteValue.valueError "reflectlite.Value.Type" 0) (fun t _ _ _ => ReflectliteType.toType t) #[.agg #[.pointer (some ⟨6, 49, none⟩), .pointer (some a), .int .u64 150]]).run Tryd.prog w
    = .ok (.iface 74 (.agg #[.pointer (some ⟨6, 49, none⟩)])) w := by kernel_rfl
@[go_sem] theorem ki49 (w : World) : ((ReflectliteType.abiMethod fun t => (fun a : Nat => Value.int IntKind.u8 (a : Int)) <$> Rtype.kind t) #[.pointer (some ⟨6, 49, none⟩)]).run Tryd.prog w = .ok (.int .u8 22) w := by kernel_rfl
@[go_sem] theorem ki29 (w : World) : ((ReflectliteType.abiMethod fun t => (fun a : Nat => Value.int IntKind.u8 (a : Int)) <$> Rtype.kind t) #[.pointer (some ⟨6, 29, none⟩)]).run Tryd.prog w = .ok (.int .u8 2) w := by kernel_rfl
theorem parts49 (a : Addr) (w : World) : (ReflectliteValue.parts (.agg #[.pointer (some ⟨6, 49, none⟩), .pointer (some a), .int .u64 150])).run Tryd.prog w = .ok (some (49, a, 150)) w := by kernel_rfl
/-- (Value).IsNil at the Value of a pointer that is not nil. -/
theorem isNil49 (a p : Addr) (W : World) (ha : W.cell? a = some (.pointer (some p))) :
    (ReflectliteValue.method (ReflectliteValue.valueError "reflectlite.Value.IsNil" 0) ReflectliteValue.isNil #[.agg #[.pointer (some ⟨6, 49, none⟩), .pointer (some a), .int .u64 150]]).run Tryd.prog W = .ok (.bool false) W := by
  rw [rlm]
  simp only [Sem.run_bind, parts49, Result.andThen]
  simp [ReflectliteValue.isNil, loadVar, isAgg, underlying, Tryd.underlying49, ha, Result.andThen]
@[go_sem] theorem el49 (w : World) : (ReflectliteType.method ReflectliteType.elem #[.agg #[.pointer (some ⟨6, 49, none⟩)]]).run Tryd.prog w = .ok (.iface 74 (.agg #[.pointer (some ⟨6, 29, none⟩)])) w := by kernel_rfl
@[go_sem] theorem im29 (w : World) : (ReflectliteType.relation "Implements" ReflectliteType.implements_ #[.agg #[.pointer (some ⟨6, 29, none⟩)], .iface 74 (.agg #[.pointer (some ⟨6, 27, none⟩)])]).run Tryd.prog w = .ok (.bool true) w := by kernel_rfl
@[go_sem] theorem to29 (v : Value) (w : World) : (ReflectliteType.typeOf #[.iface 29 v]).run Tryd.prog w = .ok (.iface 74 (.agg #[.pointer (some ⟨6, 29, none⟩)])) w := by kernel_rfl
theorem elemOf49 (w : World) : (Rtype.elem? 49).run Tryd.prog w = .ok (some 29) w := by kernel_rfl
@[go_sem] theorem un42 (t : Addr) (w : World) : (ReflectliteValue.unpack (.iface 42 (.pointer (some t)))).run Tryd.prog w
    = .ok (.agg #[.pointer (some ⟨6, 42, none⟩), .pointer (some ⟨w.heap.size, 0, none⟩), .int .u64 150]) (w.alloc (.cells #[.pointer (some t)] 42)) := by kernel_rfl
@[go_sem] theorem ty42 (a : Addr) (w : World) : (ReflectliteValue.methodAny (ReflectliteValue.valueError "reflectlite.Value.Type" 0) (fun t _ _ _ => ReflectliteType.toType t) #[.agg #[.pointer (some ⟨6, 42, none⟩), .pointer (some a), .int .u64 150]]).run Tryd.prog w
    = .ok (.iface 74 (.agg #[.pointer (some ⟨6, 42, none⟩)])) w := by kernel_rfl
@[go_sem] theorem ki42 (w : World) : ((ReflectliteType.abiMethod fun t => (fun a : Nat => Value.int IntKind.u8 (a : Int)) <$> Rtype.kind t) #[.pointer (some ⟨6, 42, none⟩)]).run Tryd.prog w = .ok (.int .u8 22) w := by kernel_rfl
@[go_sem] theorem ki40 (w : World) : ((ReflectliteType.abiMethod fun t => (fun a : Nat => Value.int IntKind.u8 (a : Int)) <$> Rtype.kind t) #[.pointer (some ⟨6, 40, none⟩)]).run Tryd.prog w = .ok (.int .u8 25) w := by kernel_rfl
theorem parts42 (a : Addr) (w : World) : (ReflectliteValue.parts (.agg #[.pointer (some ⟨6, 42, none⟩), .pointer (some a), .int .u64 150])).run Tryd.prog w = .ok (some (42, a, 150)) w := by kernel_rfl
/-- (Value).IsNil at the Value of a pointer that is not nil. -/
theorem isNil42 (a p : Addr) (W : World) (ha : W.cell? a = some (.pointer (some p))) :
    (ReflectliteValue.method (ReflectliteValue.valueError "reflectlite.Value.IsNil" 0) ReflectliteValue.isNil #[.agg #[.pointer (some ⟨6, 42, none⟩), .pointer (some a), .int .u64 150]]).run Tryd.prog W = .ok (.bool false) W := by
  rw [rlm]
  simp only [Sem.run_bind, parts42, Result.andThen]
  simp [ReflectliteValue.isNil, loadVar, isAgg, underlying, Tryd.underlying42, ha, Result.andThen]
@[go_sem] theorem el42 (w : World) : (ReflectliteType.method ReflectliteType.elem #[.agg #[.pointer (some ⟨6, 42, none⟩)]]).run Tryd.prog w = .ok (.iface 74 (.agg #[.pointer (some ⟨6, 40, none⟩)])) w := by kernel_rfl
@[go_sem] theorem im40 (w : World) : (ReflectliteType.relation "Implements" ReflectliteType.implements_ #[.agg #[.pointer (some ⟨6, 40, none⟩)], .iface 74 (.agg #[.pointer (some ⟨6, 27, none⟩)])]).run Tryd.prog w = .ok (.bool true) w := by kernel_rfl
@[go_sem] theorem to40 (v : Value) (w : World) : (ReflectliteType.typeOf #[.iface 40 v]).run Tryd.prog w = .ok (.iface 74 (.agg #[.pointer (some ⟨6, 40, none⟩)])) w := by kernel_rfl
theorem elemOf42 (w : World) : (Rtype.elem? 42).run Tryd.prog w = .ok (some 40) w := by kernel_rfl
@[go_sem] theorem un52 (t : Addr) (w : World) : (ReflectliteValue.unpack (.iface 52 (.pointer (some t)))).run Tryd.prog w
    = .ok (.agg #[.pointer (some ⟨6, 52, none⟩), .pointer (some ⟨w.heap.size, 0, none⟩), .int .u64 150]) (w.alloc (.cells #[.pointer (some t)] 52)) := by kernel_rfl
@[go_sem] theorem ty52 (a : Addr) (w : World) : (ReflectliteValue.methodAny (ReflectliteValue.valueError "reflectlite.Value.Type" 0) (fun t _ _ _ => ReflectliteType.toType t) #[.agg #[.pointer (some ⟨6, 52, none⟩), .pointer (some a), .int .u64 150]]).run Tryd.prog w
    = .ok (.iface 74 (.agg #[.pointer (some ⟨6, 52, none⟩)])) w := by kernel_rfl
@[go_sem] theorem ki52 (w : World) : ((ReflectliteType.abiMethod fun t => (fun a : Nat => Value.int IntKind.u8 (a : Int)) <$> Rtype.kind t) #[.pointer (some ⟨6, 52, none⟩)]).run Tryd.prog w = .ok (.int .u8 22) w := by kernel_rfl
@[go_sem] theorem ki51 (w : World) : ((ReflectliteType.abiMethod fun t => (fun a : Nat => Value.int IntKind.u8 (a : Int)) <$> Rtype.kind t) #[.pointer (some ⟨6, 51, none⟩)]).run Tryd.prog w = .ok (.int .u8 25) w := by kernel_rfl
theorem parts52 (a : Addr) (w : World) : (ReflectliteValue.parts (.agg #[.pointer (some ⟨6, 52, none⟩), .pointer (some a), .int .u64 150])).run Tryd.prog w = .ok (some (52, a, 150)) w := by kernel_rfl
/-- (Value).IsNil at the Value of a pointer that is not nil. -/
theorem isNil52 (a p : Addr) (W : World) (ha : W.cell? a = some (.pointer (some p))) :
    (ReflectliteValue.method (ReflectliteValue.valueError "reflectlite.Value.IsNil" 0) ReflectliteValue.isNil #[.agg #[.pointer (some ⟨6, 52, none⟩), .pointer (some a), .int .u64 150]]).run Tryd.prog W = .ok (.bool false) W := by
  rw [rlm]
  simp only [Sem.run_bind, parts52, Result.andThen]
  simp [ReflectliteValue.isNil, loadVar, isAgg, underlying, Tryd.underlying52, ha, Result.andThen]
@[go_sem] theorem el52 (w : World) : (ReflectliteType.method ReflectliteType.elem #[.agg #[.pointer (some ⟨6, 52, none⟩)]]).run Tryd.prog w = .ok (.iface 74 (.agg #[.pointer (some ⟨6, 51, none⟩)])) w := by kernel_rfl
@[go_sem] theorem im51 (w : World) : (ReflectliteType.relation "Implements" ReflectliteType.implements_ #[.agg #[.pointer (some ⟨6, 51, none⟩)], .iface 74 (.agg #[.pointer (some ⟨6, 27, none⟩)])]).run Tryd.prog w = .ok (.bool true) w := by kernel_rfl
@[go_sem] theorem to51 (v : Value) (w : World) : (ReflectliteType.typeOf #[.iface 51 v]).run Tryd.prog w = .ok (.iface 74 (.agg #[.pointer (some ⟨6, 51, none⟩)])) w := by kernel_rfl
theorem elemOf52 (w : World) : (Rtype.elem? 52).run Tryd.prog w = .ok (some 51) w := by kernel_rfl
@[go_sem] theorem aa29_29 (w : World) : (ReflectliteType.relation "AssignableTo" ReflectliteType.assignableTo #[.agg #[.pointer (some ⟨6, 29, none⟩)], .iface 74 (.agg #[.pointer (some ⟨6, 29, none⟩)])]).run Tryd.prog w = .ok (.bool true) w := by kernel_rfl
@[go_sem] theorem aa40_29 (w : World) : (ReflectliteType.relation "AssignableTo" ReflectliteType.assignableTo #[.agg #[.pointer (some ⟨6, 40, none⟩)], .iface 74 (.agg #[.pointer (some ⟨6, 29, none⟩)])]).run Tryd.prog w = .ok (.bool false) w := by kernel_rfl
@[go_sem] theorem aa51_29 (w : World) : (ReflectliteType.relation "AssignableTo" ReflectliteType.assignableTo #[.agg #[.pointer (some ⟨6, 51, none⟩)], .iface 74 (.agg #[.pointer (some ⟨6, 29, none⟩)])]).run Tryd.prog w = .ok (.bool false) w := by kernel_rfl
@[go_sem] theorem aa29_40 (w : World) : (ReflectliteType.relation "AssignableTo" ReflectliteType.assignableTo #[.agg #[.pointer (some ⟨6, 29, none⟩)], .iface 74 (.agg #[.pointer (some ⟨6, 40, none⟩)])]).run Tryd.prog w = .ok (.bool false) w := by kernel_rfl
@[go_sem] theorem aa40_40 (w : World) : (ReflectliteType.relation "AssignableTo" ReflectliteType.assignableTo #[.agg #[.pointer (some ⟨6, 40, none⟩)], .iface 74 (.agg #[.pointer (some ⟨6, 40, none⟩)])]).run Tryd.prog w = .ok (.bool true) w := by kernel_rfl
@[go_sem] theorem aa51_40 (w : World) : (ReflectliteType.relation "AssignableTo" ReflectliteType.assignableTo #[.agg #[.pointer (some ⟨6, 51, none⟩)], .iface 74 (.agg #[.pointer (some ⟨6, 40, none⟩)])]).run Tryd.prog w = .ok (.bool false) w := by kernel_rfl
@[go_sem] theorem aa29_51 (w : World) : (ReflectliteType.relation "AssignableTo" ReflectliteType.assignableTo #[.agg #[.pointer (some ⟨6, 29, none⟩)], .iface 74 (.agg #[.pointer (some ⟨6, 51, none⟩)])]).run Tryd.prog w = .ok (.bool false) w := by kernel_rfl
@[go_sem] theorem aa40_51 (w : World) : (ReflectliteType.relation "AssignableTo" ReflectliteType.assignableTo #[.agg #[.pointer (some ⟨6, 40, none⟩)], .iface 74 (.agg #[.pointer (some ⟨6, 51, none⟩)])]).run Tryd.prog w = .ok (.bool false) w := by kernel_rfl
@[go_sem] theorem aa51_51 (w : World) : (ReflectliteType.relation "AssignableTo" ReflectliteType.assignableTo #[.agg #[.pointer (some ⟨6, 51, none⟩)], .iface 74 (.agg #[.pointer (some ⟨6, 51, none⟩)])]).run Tryd.prog w = .ok (.bool true) w := by kernel_rfl
end Go.Proofs.YtcdhfelcgcnoiaaDoor
