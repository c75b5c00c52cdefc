/- hammocklaw02.build: the error of a description. -/
import Derived.Test.YtcdhfelcgcnoiaaDoorTxt
namespace Go.Proofs.YtcdhfelcgcnoiaaDoor
open Go.RowKit

/-- The error of the first k places around b. -/
def eAt (b : Er) (ks : List Int) (k : Nat) : Er := (ks.take k).foldl (fun e k => .placed k e) b
theorem eAt_zero (b : Er) (ks : List Int) : eAt b ks 0 = b := by simp [eAt]
theorem eAt_succ (b : Er) (ks : List Int) (k : Nat) (h : k < ks.length) : eAt b ks (k + 1) = .placed (ks.getD k 0) (eAt b ks k) := by
  unfold eAt
  rw [List.take_add_one, List.foldl_append, List.getElem?_eq_getElem h]
  simp [List.getD_eq_getElem?_getD, List.getElem?_eq_getElem h]
theorem eAt_wraps (b : Er) (ks : List Int) : ∀ k, k ≤ ks.length → (eAt b ks k).wraps = b.wraps + k
  | 0, _ => by rw [eAt_zero]; rfl
  | k + 1, h => by rw [eAt_succ b ks k (by omega), Er.wraps, eAt_wraps b ks k (by omega)]; rfl
theorem eAt_ok (b : Er) (ks : List Int) (hb : b.okE) : ∀ k, k ≤ ks.length → (eAt b ks k).okE
  | 0, _ => by rw [eAt_zero]; exact hb
  | k + 1, h => by rw [eAt_succ b ks k (by omega)]; exact eAt_ok b ks hb k (by omega)
theorem eAt_cd (b : Er) (ks : List Int) : ∀ k, k ≤ ks.length → (eAt b ks k).cd = b.cd
  | 0, _ => by rw [eAt_zero]
  | k + 1, h => by rw [eAt_succ b ks k (by omega), Er.cd, eAt_cd b ks k (by omega)]
theorem eAt_flt (b : Er) (ks : List Int) : ∀ k, k ≤ ks.length → (eAt b ks k).flt = b.flt
  | 0, _ => by rw [eAt_zero]
  | k + 1, h => by rw [eAt_succ b ks k (by omega), Er.flt, eAt_flt b ks k (by omega)]
/-- The innermost error. -/
def base (fl : Bool) (c a : Int) : Er := if fl then .fault c a else .code c

theorem blk5 {w : World} {g : Nat} {a b c d e : Value} {ty : TypeId} (h : w.heap[g]? = some (.cells #[a, b, c, d, e] ty (0, 0))) :
    w.cell? ⟨g, 0, none⟩ = some a ∧ w.cell? ⟨g, 1, none⟩ = some b ∧ w.cell? ⟨g, 2, none⟩ = some c ∧ w.cell? ⟨g, 3, none⟩ = some d ∧ w.cell? ⟨g, 4, none⟩ = some e := by
  simp [World.cell?, h]
def BuildRel (B : Er) (ks : List Int) (W : World) (ev iv : Value) (wr : World) : Prop := ∃ k : Nat, k ≤ ks.length ∧ iv = .int .i64 k ∧ ev = .iface (eAt B ks k).t (eAt B ks k).v ∧ wr = W

set_option maxHeartbeats 4000000 in
set_option maxRecDepth 100000 in
theorem build_true (c a : Int) (v : Value) (ks : List Int) (w : World) (hs : I64s w v ks) (hl : ks.length ≤ 1000) :
    Calls Tryd.prog 6 #[.agg #[.bool false, v, .int .i64 c, .int .i64 a, .bool true]] w fun e w' => e = .returned (.iface (eAt (.fault c a) ks ks.length).t (eAt (.fault c a) ks ks.length).v) ∧ Below w.heap.size w w' := by
  obtain ⟨s, cap, rfl, hc⟩ := hs
  have Hc := Lib.hid hc; clear hc
  have HB := Lib.hid (bel_alloc (Below.refl _ w) (.cells #[.bool false, .slice s ks.length cap, .int .i64 c, .int .i64 a, .bool true] 24))
  go_enter Tryd.func6, Tryd.ntmps6
  go_wp2
  go_loopw [3, 4] (BuildRel (.fault c a) ks (w.alloc (.cells #[.bool false, .slice s ks.length cap, .int .i64 c, .int .i64 a, .bool true] 24))) (fun _ i _ => ks.length - (intOf i).toNat)
  case atStart => exact ⟨0, Nat.zero_le _, rfl, by rw [eAt_zero]; first | rw [Er.t_fault, Er.v_fault] | rw [Er.t_code, Er.v_code], rfl⟩
  case round =>
    obtain ⟨k, hk, rfl, rfl, rfl⟩ := hrel
    have HI := Lib.hid (fun W => in_er (ks.getD k 0) (eAt (.fault c a) ks k) W)
    by_cases hlt : k < ks.length
    · obtain ⟨b, off, rfl, h1⟩ := Hc.out k hlt
      have c1 := (HB.out.cell (cell_lt h1)).trans h1
      have He := Lib.hid (eAt_succ (.fault c a) ks k hlt)
      clear h1
      have k0 : (0 : Int) ≤ (k : Int) := by omega
      have k1 : (k : Int) < (ks.length : Int) := by omega
      generalize hx : ks.getD k 0 = x at c1 HI He
      generalize (eAt (.fault c a) ks k).t = et at HI
      generalize (eAt (.fault c a) ks k).v = ev at HI
      clear hx
      go_wp2_with (go_at_call 12; refine (HI.out _).mono ?_; rintro e w' ⟨rfl, rfl⟩)
      go_roundw
      case rel => exact ⟨k + 1, by omega, by go_num, by rw [He.out], rfl⟩
      case measure => simp [intOf]; omega
    · obtain rfl : k = ks.length := by omega
      clear HI
      generalize het : (eAt (.fault c a) ks ks.length).t = et
      generalize hev : (eAt (.fault c a) ks ks.length).v = ev
      have Het := Lib.hid het
      have Hev := Lib.hid hev
      clear het hev
      go_wp2
      go_ret
      exact ⟨by rw [Het.out, Hev.out]; rfl, HB.out⟩
set_option maxHeartbeats 4000000 in
set_option maxRecDepth 100000 in
theorem build_false (c a : Int) (v : Value) (ks : List Int) (w : World) (hs : I64s w v ks) (hl : ks.length ≤ 1000) :
    Calls Tryd.prog 6 #[.agg #[.bool false, v, .int .i64 c, .int .i64 a, .bool false]] w fun e w' => e = .returned (.iface (eAt (.code c) ks ks.length).t (eAt (.code c) ks ks.length).v) ∧ Below w.heap.size w w' := by
  obtain ⟨s, cap, rfl, hc⟩ := hs
  have Hc := Lib.hid hc; clear hc
  have HB := Lib.hid (bel_alloc (Below.refl _ w) (.cells #[.bool false, .slice s ks.length cap, .int .i64 c, .int .i64 a, .bool false] 24))
  go_enter Tryd.func6, Tryd.ntmps6
  go_wp2
  go_loopw [3, 4] (BuildRel (.code c) ks (w.alloc (.cells #[.bool false, .slice s ks.length cap, .int .i64 c, .int .i64 a, .bool false] 24))) (fun _ i _ => ks.length - (intOf i).toNat)
  case atStart => exact ⟨0, Nat.zero_le _, rfl, by rw [eAt_zero]; first | rw [Er.t_fault, Er.v_fault] | rw [Er.t_code, Er.v_code], rfl⟩
  case round =>
    obtain ⟨k, hk, rfl, rfl, rfl⟩ := hrel
    have HI := Lib.hid (fun W => in_er (ks.getD k 0) (eAt (.code c) ks k) W)
    by_cases hlt : k < ks.length
    · obtain ⟨b, off, rfl, h1⟩ := Hc.out k hlt
      have c1 := (HB.out.cell (cell_lt h1)).trans h1
      have He := Lib.hid (eAt_succ (.code c) ks k hlt)
      clear h1
      have k0 : (0 : Int) ≤ (k : Int) := by omega
      have k1 : (k : Int) < (ks.length : Int) := by omega
      generalize hx : ks.getD k 0 = x at c1 HI He
      generalize (eAt (.code c) ks k).t = et at HI
      generalize (eAt (.code c) ks k).v = ev at HI
      clear hx
      go_wp2_with (go_at_call 12; refine (HI.out _).mono ?_; rintro e w' ⟨rfl, rfl⟩)
      go_roundw
      case rel => exact ⟨k + 1, by omega, by go_num, by rw [He.out], rfl⟩
      case measure => simp [intOf]; omega
    · obtain rfl : k = ks.length := by omega
      clear HI
      generalize het : (eAt (.code c) ks ks.length).t = et
      generalize hev : (eAt (.code c) ks ks.length).v = ev
      have Het := Lib.hid het
      have Hev := Lib.hid hev
      clear het hev
      go_wp2
      go_ret
      exact ⟨by rw [Het.out, Hev.out]; rfl, HB.out⟩
theorem build_er (fl : Bool) (c a : Int) (v : Value) (ks : List Int) (w : World) (hs : I64s w v ks) (hl : ks.length ≤ 1000) :
    Calls Tryd.prog 6 #[.agg #[.bool false, v, .int .i64 c, .int .i64 a, .bool fl]] w fun e w' => e = .returned (.iface (eAt (base fl c a) ks ks.length).t (eAt (base fl c a) ks ks.length).v) ∧ Below w.heap.size w w' := by
  cases fl with
  | true => exact build_true c a v ks w hs hl
  | false => exact build_false c a v ks w hs hl
end Go.Proofs.YtcdhfelcgcnoiaaDoor
