/- errors.As, errors.Is, errors.Unwrap and package fault's functions at the errors of the program, by contracts. -/
import Derived.Test.YtcdhfelcgcnoiaaDoorErrAs
namespace Go.Proofs.YtcdhfelcgcnoiaaDoor
open Go.RowKit Go.Extern.Stop Go.Stop Go.Extern

theorem row_cell {w : World} {g : Nat} {v : Value} {ty : TypeId} (h : w.heap[g]? = some (.cells #[v] ty (0, 0))) : w.cell? ⟨g, 0, none⟩ = some v ∧ w.frozen? ⟨g, 0, none⟩ = false := by
  simp [World.cell?, World.frozen?, h]
theorem row_lt {w : World} {g : Nat} {o : Obj} (h : w.heap[g]? = some o) : g < w.heap.size := by
  rcases Nat.lt_or_ge g w.heap.size with h' | h'
  · exact h'
  · simp [Array.getElem?_eq_none h'] at h

theorem row_cell3 {w : World} {g : Nat} {a b c : Value} {ty : TypeId} {fr : Nat × Nat} (h : w.heap[g]? = some (.cells #[a, b, c] ty fr)) : w.cell? ⟨g, 0, none⟩ = some a ∧ w.cell? ⟨g, 1, none⟩ = some b ∧ w.cell? ⟨g, 2, none⟩ = some c := by
  simp [World.cell?, h]
theorem row_new (w : World) (o : Obj) : (w.alloc o).heap[w.heap.size]? = some o := by
  show (w.heap.push o)[w.heap.size]? = _
  simp
theorem row_old {w : World} {g : Nat} {o : Obj} (h : w.heap[g]? = some o) (o' : Obj) : (w.alloc o').heap[g]? = some o := by
  rw [Below.heap_alloc _ _ _ (row_lt h)]; exact h
theorem row_below {B : Nat} {w w' : World} (hb : Below B w w') {g : Nat} {o : Obj} (h : w.heap[g]? = some o) (hg : g < B) : w'.heap[g]? = some o := by
  rw [hb.block g hg]; exact h

/-- The fault in an error, its code and index. -/
def Er.flt : Er → Option (Int × Int)
  | .code _ => none
  | .fault c a => some (c, a)
  | .placed _ e => e.flt
/-- The place of an error. -/
def Er.plc : Er → Option (Int × Er)
  | .placed k e => some (k, e)
  | _ => none

/-- What errors.As leaves: the target's row set; everything else below as it was. -/
def AsHit (w : World) (g : Nat) (cells : Array Value) (e : Ending) (w' : World) : Prop := e = .returned (.bool true) ∧ ∃ w1, Below w.heap.size w w1 ∧ w' = w1.setRow g cells
def AsMiss (w : World) (e : Ending) (w' : World) : Prop := e = .returned (.bool false) ∧ Below w.heap.size w w'
def AsRel (q : Er → Prop) (w : World) (k : Nat) (p : Value) (wr : World) : Prop := ∃ y : Er, p = .iface y.t y.v ∧ k = y.depth ∧ q y ∧ Below w.heap.size w wr

set_option maxRecDepth 100000 in
theorem as_code (x : Er) (tv : Value) (g b : Nat) (o : Value) (ty : TypeId) (w : World) (hb : w.heap[b]? = some (.cells #[.pointer (some ⟨g, 0, none⟩)] 49 (0, 0))) (hg : w.heap[g]? = some (.cells #[o] ty (0, 0))) :
    Calls Tryd.prog 24 #[.iface x.t x.v, tv, .agg #[.pointer (some ⟨6, 49, none⟩), .pointer (some ⟨b, 0, none⟩), .int .u64 150], .iface 74 (.agg #[.pointer (some ⟨6, 29, none⟩)])] w
      (AsHit w g #[.int .i64 x.cd]) := by
  have hgl := row_lt hg
  have hbl := row_lt hb
  have Hg := Lib.hid hg; clear hg
  have Hb := Lib.hid hb; clear hb
  go_enter Tryd.func24, Tryd.ntmps24
  go_wp2
  go_loopg [0] (x.depth) (AsRel (fun y => y.cd = x.cd) (w.alloc (.cells #[.pointer (some ⟨6, 49, none⟩), .pointer (some ⟨b, 0, none⟩), .int .u64 150] 56)))
  case atStart => exact ⟨x, rfl, rfl, rfl, Below.refl _ _⟩
  case round =>
    obtain ⟨y, rfl, hk, hcd, hB⟩ := hrel
    have Hcd := Lib.hid hcd; clear hcd
    have Hk := Lib.hid hk; clear hk
    cases y with
    | code c' =>
      simp only [Er.t_code, Er.v_code]
      obtain ⟨k0, k1, k2⟩ := row_cell3 (row_below hB (row_new w _) (by simp))
      have hbr := row_below hB (row_old Hb.out _) (by simp; omega)
      have hgr := row_below hB (row_old Hg.out _) (by simp; omega)
      have fe := elemV49 ⟨b, 0, none⟩ ⟨g, 0, none⟩ wr (row_cell hbr).1
      simp only [Int.reduceAdd] at fe
      have fs := set29 ⟨g, 0, none⟩ ⟨wr.heap.size, 0, none⟩ c' o (wr.alloc (.cells #[.int .i64 c'] 29)) (row_cell (row_new wr _)).1 (row_cell (row_old hgr _)).1 (row_cell (row_old hgr _)).2
      have Hgr := Lib.hid (row_old hgr (.cells #[.int .i64 c'] 29))
      clear hbr hgr
      go_wp2
      go_ret
      rw [setCell_eq_setRow _ g 0 #[o] ty (0, 0) _ Hgr.out, show #[o].setIfInBounds 0 (Value.int .i64 c') = #[.int .i64 c'] from rfl, show c' = x.cd from Hcd.out]
      exact ⟨rfl, _, ((Below.refl _ w).alloc (Nat.le_refl _) _).trans ((hB.alloc hB.size _).mono (by simp)), rfl⟩
    | fault c' a =>
      simp only [Er.t_fault, Er.v_fault]
      go_wp2_with (go_at_call 62; refine (faultUnwrap _ _ _).mono ?_; rintro e w' ⟨rfl, rfl⟩)
      go_roundg 0
      case rel => exact ⟨.code c', by rw [Er.t_code, Er.v_code], rfl, Hcd.out, hB.alloc hB.size _⟩
      case measure => rw [Hk.out]; simp [Er.depth]
    | placed k y =>
      simp only [Er.t_placed, Er.v_placed]
      go_wp2_with (go_at_call 64; refine (placedUnwrap _ _ _).mono ?_; rintro e w' ⟨rfl, rfl⟩)
      go_roundg (y.depth)
      case rel => exact ⟨y, rfl, rfl, Hcd.out, hB.alloc hB.size _⟩
      case measure => rw [Hk.out]; simp [Er.depth]

def AsFlt (r : Option (Int × Int)) (w : World) (g : Nat) (e : Ending) (w' : World) : Prop :=
  match r with | some (c, a) => AsHit w g #[.int .i64 c, .int .i64 a] e w' | none => AsMiss w e w'
def AsPlc (r : Option (Int × Er)) (w : World) (g : Nat) (e : Ending) (w' : World) : Prop :=
  match r with | some (k, x) => AsHit w g #[.int .i64 k, .iface x.t x.v] e w' | none => AsMiss w e w'

set_option maxRecDepth 100000 in
theorem as_fault (x : Er) (tv : Value) (g b : Nat) (o1 o2 : Value) (ty : TypeId) (w : World) (hb : w.heap[b]? = some (.cells #[.pointer (some ⟨g, 0, none⟩)] 42 (0, 0))) (hg : w.heap[g]? = some (.cells #[o1, o2] ty (0, 0))) :
    Calls Tryd.prog 24 #[.iface x.t x.v, tv, .agg #[.pointer (some ⟨6, 42, none⟩), .pointer (some ⟨b, 0, none⟩), .int .u64 150], .iface 74 (.agg #[.pointer (some ⟨6, 40, none⟩)])] w
      (AsFlt x.flt w g) := by
  have hgl := row_lt hg
  have hbl := row_lt hb
  have Hg := Lib.hid hg; clear hg
  have Hb := Lib.hid hb; clear hb
  go_enter Tryd.func24, Tryd.ntmps24
  go_wp2
  go_loopg [0] (x.depth) (AsRel (fun y => y.flt = x.flt) (w.alloc (.cells #[.pointer (some ⟨6, 42, none⟩), .pointer (some ⟨b, 0, none⟩), .int .u64 150] 56)))
  case atStart => exact ⟨x, rfl, rfl, rfl, Below.refl _ _⟩
  case round =>
    obtain ⟨y, rfl, hk, hcd, hB⟩ := hrel
    have Hcd := Lib.hid hcd; clear hcd
    have Hk := Lib.hid hk; clear hk
    cases y with
    | code c' =>
      simp only [Er.t_code, Er.v_code]
      go_wp2
      go_ret
      rw [← Hcd.out]
      exact ⟨rfl, ((Below.refl _ w).alloc (Nat.le_refl _) _).trans (hB.mono (by simp))⟩
    | fault c' a =>
      simp only [Er.t_fault, Er.v_fault]
      obtain ⟨k0, k1, k2⟩ := row_cell3 (row_below hB (row_new w _) (by simp))
      have hbr := row_below hB (row_old Hb.out _) (by simp; omega)
      have hgr := row_below hB (row_old Hg.out _) (by simp; omega)
      have fe := elemV42 ⟨b, 0, none⟩ ⟨g, 0, none⟩ wr (row_cell hbr).1
      simp only [Int.reduceAdd] at fe
      have fs := set40 g wr.heap.size (.int .i64 c') (.int .i64 a) #[o1, o2] ty (wr.alloc (.cells #[.int .i64 c', .int .i64 a] 40)) rfl rfl (row_new wr _) (row_old hgr _) rfl
      clear hbr hgr
      go_wp2
      go_ret
      rw [← Hcd.out]
      exact ⟨rfl, _, ((Below.refl _ w).alloc (Nat.le_refl _) _).trans ((hB.alloc hB.size _).mono (by simp)), rfl⟩
    | placed k y =>
      simp only [Er.t_placed, Er.v_placed]
      go_wp2_with (go_at_call 64; refine (placedUnwrap _ _ _).mono ?_; rintro e w' ⟨rfl, rfl⟩)
      go_roundg (y.depth)
      case rel => exact ⟨y, rfl, rfl, Hcd.out, hB.alloc hB.size _⟩
      case measure => rw [Hk.out]; simp [Er.depth]

set_option maxRecDepth 100000 in
theorem as_placed (x : Er) (tv : Value) (g b : Nat) (o1 o2 : Value) (ty : TypeId) (w : World) (hb : w.heap[b]? = some (.cells #[.pointer (some ⟨g, 0, none⟩)] 52 (0, 0))) (hg : w.heap[g]? = some (.cells #[o1, o2] ty (0, 0))) :
    Calls Tryd.prog 24 #[.iface x.t x.v, tv, .agg #[.pointer (some ⟨6, 52, none⟩), .pointer (some ⟨b, 0, none⟩), .int .u64 150], .iface 74 (.agg #[.pointer (some ⟨6, 51, none⟩)])] w
      (AsPlc x.plc w g) := by
  have hgl := row_lt hg
  have hbl := row_lt hb
  have Hg := Lib.hid hg; clear hg
  have Hb := Lib.hid hb; clear hb
  go_enter Tryd.func24, Tryd.ntmps24
  go_wp2
  go_loopg [0] (x.depth) (AsRel (fun y => y.plc = x.plc) (w.alloc (.cells #[.pointer (some ⟨6, 52, none⟩), .pointer (some ⟨b, 0, none⟩), .int .u64 150] 56)))
  case atStart => exact ⟨x, rfl, rfl, rfl, Below.refl _ _⟩
  case round =>
    obtain ⟨y, rfl, hk, hcd, hB⟩ := hrel
    have Hcd := Lib.hid hcd; clear hcd
    have Hk := Lib.hid hk; clear hk
    cases y with
    | code c' =>
      simp only [Er.t_code, Er.v_code]
      go_wp2
      go_ret
      rw [← Hcd.out]
      exact ⟨rfl, ((Below.refl _ w).alloc (Nat.le_refl _) _).trans (hB.mono (by simp))⟩
    | fault c' a =>
      simp only [Er.t_fault, Er.v_fault]
      go_wp2_with (go_at_call 62; refine (faultUnwrap _ _ _).mono ?_; rintro e w' ⟨rfl, rfl⟩)
      go_roundg 0
      case rel => exact ⟨.code c', by rw [Er.t_code, Er.v_code], rfl, Hcd.out, hB.alloc hB.size _⟩
      case measure => rw [Hk.out]; simp [Er.depth]
    | placed k y =>
      simp only [Er.t_placed, Er.v_placed]
      obtain ⟨k0, k1, k2⟩ := row_cell3 (row_below hB (row_new w _) (by simp))
      have hbr := row_below hB (row_old Hb.out _) (by simp; omega)
      have hgr := row_below hB (row_old Hg.out _) (by simp; omega)
      have fe := elemV52 ⟨b, 0, none⟩ ⟨g, 0, none⟩ wr (row_cell hbr).1
      simp only [Int.reduceAdd] at fe
      have fs := set51 g wr.heap.size (.int .i64 k) (.iface y.t y.v) #[o1, o2] ty (wr.alloc (.cells #[.int .i64 k, .iface y.t y.v] 51)) rfl rfl (row_new wr _) (row_old hgr _) rfl
      clear hbr hgr
      go_wp2
      go_ret
      rw [← Hcd.out]
      exact ⟨rfl, _, ((Below.refl _ w).alloc (Nat.le_refl _) _).trans ((hB.alloc hB.size _).mono (by simp)), rfl⟩
end Go.Proofs.YtcdhfelcgcnoiaaDoor
