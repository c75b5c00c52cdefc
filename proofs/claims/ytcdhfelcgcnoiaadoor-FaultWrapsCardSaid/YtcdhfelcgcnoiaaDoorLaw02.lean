/- hammocklaw02.FaultWraps: true at every description and kind. -/
import Derived.Test.YtcdhfelcgcnoiaaDoorBuild
import Derived.Test.YtcdhfelcgcnoiaaDoorAwake02
namespace Go.Proofs.YtcdhfelcgcnoiaaDoor
open Go.RowKit

/-- errors.As at a new fault. -/
theorem AsOwn_hit (x : Er) (c a : Int) (hf : x.flt = some (c, a)) (W : World) (he : ErrTy W) :
    Calls Tryd.prog 13 #[.iface x.t x.v, .iface 42 (.pointer (some ⟨W.heap.size, 0, none⟩))] (W.alloc (.cells #[.int .i64 0, .int .i64 0] 40)) fun e w' =>
      e = .returned (.bool true) ∧ (w'.cell? ⟨W.heap.size, 0, none⟩ = some (.int .i64 c) ∧ w'.cell? ⟨W.heap.size, 1, none⟩ = some (.int .i64 a)) ∧ Below W.heap.size W w' := by
  have hg := row_new W (.cells #[.int .i64 0, .int .i64 0] 40)
  refine (As40 x W.heap.size _ _ 40 _ (he.alloc _) hg).mono fun e w' h => ?_
  rw [hf] at h
  have h' : AsHit _ _ _ e w' := h
  exact ⟨h'.1, row_cell2 (h'.row hg), h'.own⟩
theorem AsOwn_miss (x : Er) (hf : x.flt = none) (W : World) (he : ErrTy W) :
    Calls Tryd.prog 13 #[.iface x.t x.v, .iface 42 (.pointer (some ⟨W.heap.size, 0, none⟩))] (W.alloc (.cells #[.int .i64 0, .int .i64 0] 40)) fun e w' =>
      e = .returned (.bool false) ∧ Below W.heap.size W w' := by
  have hg := row_new W (.cells #[.int .i64 0, .int .i64 0] 40)
  refine (As40 x W.heap.size _ _ 40 _ (he.alloc _) hg).mono fun e w' h => ?_
  rw [hf] at h
  have h' : AsMiss _ e w' := h
  exact ⟨h'.1, h'.own⟩
theorem flt_placed (k : Int) (x : Er) : (Er.placed k x).flt = x.flt := rfl
theorem cd_placed (k : Int) (x : Er) : (Er.placed k x).cd = x.cd := rfl
theorem flt_true (c a : Int) : (base true c a).flt = some (c, a) := rfl
theorem flt_false (c a : Int) : (base false c a).flt = none := rfl
theorem next_ne (c : Int) (_h0 : -9223372036854775808 ≤ c) (_h1 : c ≤ 9223372036854775807) : (!(c == wrap64 (c + 1))) = true := by
  unfold wrap64
  simp
  omega

set_option maxHeartbeats 8000000 in
set_option maxRecDepth 100000 in
/-- No description, or too many places. -/
theorem law02_quick_true (T : Nat → Nat) (nl fl : Bool) (c a k : Int) (v : Value) (ks : List Int) (w : World) (he : ErrTy w) (hk : KindsAt w) (hn : NamesAt w) (ht : TabAt w T) (hs : I64s w v ks) (hq : nl = true) (hl : decide (20 < (ks.length : Int)) = true) (_hm : ks.length ≤ 9223372036854775807) :
    Calls Tryd.prog 4 #[.agg #[.bool nl, v, .int .i64 c, .int .i64 a, .bool fl], .int .i64 k] w fun e w' => e = .returned (.bool true) ∧ Below w.heap.size w w' := by
  subst hq
  have HA := Lib.hid (fun W (hb : Below w.heap.size w W) => awake02 T W (he.below hb) (hk.below hb) (hn.below hb) (ht.below hb))
  obtain ⟨s, cap, rfl, hc⟩ := hs
  clear hc he hk hn ht
  have FX := Lib.hid (fun W (hb : Below (w.alloc (.cells #[.bool true, .slice s ks.length cap, .int .i64 c, .int .i64 a, .bool fl] 24)).heap.size (w.alloc (.cells #[.bool true, .slice s ks.length cap, .int .i64 c, .int .i64 a, .bool fl] 24)) W) => blk5 (blk_keep hb (blk_new w _)))
  have H0 := Lib.hid (bel_alloc (Below.refl _ w) (.cells #[.bool true, .slice s ks.length cap, .int .i64 c, .int .i64 a, .bool fl] 24))
  have hB := Lib.hid (Below.refl (w.alloc (.cells #[.bool true, .slice s ks.length cap, .int .i64 c, .int .i64 a, .bool fl] 24)).heap.size (w.alloc (.cells #[.bool true, .slice s ks.length cap, .int .i64 c, .int .i64 a, .bool fl] 24)))
  have X : True := trivial
  go_enter Tryd.func4, Tryd.ntmps4
  go_wp2_with (go_at_call 5; refine (HA.out _ (bel_trans H0.out hB.out)).mono ?_; rintro e w' ⟨rfl, hb⟩; replace hB := Lib.hid (bel_trans hB.out hb); clear hb; replace X := FX.out _ hB.out)
  all_goals go_ret
  all_goals exact ⟨rfl, bel_trans H0.out hB.out⟩
set_option maxHeartbeats 8000000 in
set_option maxRecDepth 100000 in
/-- No description, or too many places. -/
theorem law02_quick_false (T : Nat → Nat) (nl fl : Bool) (c a k : Int) (v : Value) (ks : List Int) (w : World) (he : ErrTy w) (hk : KindsAt w) (hn : NamesAt w) (ht : TabAt w T) (hs : I64s w v ks) (hq : nl = true) (hl : decide (20 < (ks.length : Int)) = false) (_hm : ks.length ≤ 9223372036854775807) :
    Calls Tryd.prog 4 #[.agg #[.bool nl, v, .int .i64 c, .int .i64 a, .bool fl], .int .i64 k] w fun e w' => e = .returned (.bool true) ∧ Below w.heap.size w w' := by
  subst hq
  have HA := Lib.hid (fun W (hb : Below w.heap.size w W) => awake02 T W (he.below hb) (hk.below hb) (hn.below hb) (ht.below hb))
  obtain ⟨s, cap, rfl, hc⟩ := hs
  clear hc he hk hn ht
  have FX := Lib.hid (fun W (hb : Below (w.alloc (.cells #[.bool true, .slice s ks.length cap, .int .i64 c, .int .i64 a, .bool fl] 24)).heap.size (w.alloc (.cells #[.bool true, .slice s ks.length cap, .int .i64 c, .int .i64 a, .bool fl] 24)) W) => blk5 (blk_keep hb (blk_new w _)))
  have H0 := Lib.hid (bel_alloc (Below.refl _ w) (.cells #[.bool true, .slice s ks.length cap, .int .i64 c, .int .i64 a, .bool fl] 24))
  have hB := Lib.hid (Below.refl (w.alloc (.cells #[.bool true, .slice s ks.length cap, .int .i64 c, .int .i64 a, .bool fl] 24)).heap.size (w.alloc (.cells #[.bool true, .slice s ks.length cap, .int .i64 c, .int .i64 a, .bool fl] 24)))
  have X : True := trivial
  go_enter Tryd.func4, Tryd.ntmps4
  go_wp2_with (go_at_call 5; refine (HA.out _ (bel_trans H0.out hB.out)).mono ?_; rintro e w' ⟨rfl, hb⟩; replace hB := Lib.hid (bel_trans hB.out hb); clear hb; replace X := FX.out _ hB.out)
  all_goals go_ret
  all_goals exact ⟨rfl, bel_trans H0.out hB.out⟩
set_option maxHeartbeats 8000000 in
set_option maxRecDepth 100000 in
theorem law02_big (T : Nat → Nat) (nl fl : Bool) (c a k : Int) (v : Value) (ks : List Int) (w : World) (he : ErrTy w) (hk : KindsAt w) (hn : NamesAt w) (ht : TabAt w T) (hs : I64s w v ks) (hl : 20 < ks.length) (hm : ks.length ≤ 9223372036854775807) :
    Calls Tryd.prog 4 #[.agg #[.bool nl, v, .int .i64 c, .int .i64 a, .bool fl], .int .i64 k] w fun e w' => e = .returned (.bool true) ∧ Below w.heap.size w w' := by
  have HA := Lib.hid (fun W (hb : Below w.heap.size w W) => awake02 T W (he.below hb) (hk.below hb) (hn.below hb) (ht.below hb))
  obtain ⟨s, cap, rfl, hc⟩ := hs
  clear hc he hk hn ht
  have FX := Lib.hid (fun W (hb : Below (w.alloc (.cells #[.bool nl, .slice s ks.length cap, .int .i64 c, .int .i64 a, .bool fl] 24)).heap.size (w.alloc (.cells #[.bool nl, .slice s ks.length cap, .int .i64 c, .int .i64 a, .bool fl] 24)) W) => blk5 (blk_keep hb (blk_new w _)))
  have H0 := Lib.hid (bel_alloc (Below.refl _ w) (.cells #[.bool nl, .slice s ks.length cap, .int .i64 c, .int .i64 a, .bool fl] 24))
  have hB := Lib.hid (Below.refl (w.alloc (.cells #[.bool nl, .slice s ks.length cap, .int .i64 c, .int .i64 a, .bool fl] 24)).heap.size (w.alloc (.cells #[.bool nl, .slice s ks.length cap, .int .i64 c, .int .i64 a, .bool fl] 24)))
  have X : True := trivial
  go_enter Tryd.func4, Tryd.ntmps4
  go_wp2_with (go_at_call 5; refine (HA.out _ (bel_trans H0.out hB.out)).mono ?_; rintro e w' ⟨rfl, hb⟩; replace hB := Lib.hid (bel_trans hB.out hb); clear hb; replace X := FX.out _ hB.out)
  all_goals go_ret
  all_goals exact ⟨rfl, bel_trans H0.out hB.out⟩
set_option maxHeartbeats 8000000 in
set_option maxRecDepth 100000 in
theorem law02_true_29 (T : Nat → Nat) (c a k : Int) (v : Value) (ks : List Int) (x : Er) (w : World) (he : ErrTy w) (hk : KindsAt w) (hn : NamesAt w) (ht : TabAt w T) (hs : I64s w v ks) (hl : ks.length ≤ 20)
    (hx : x = eAt (base true c a) ks ks.length) (hT : x.t = 29) (hE : x.errF = 46) (h0 : -9223372036854775808 ≤ c) (h1 : c ≤ 9223372036854775807) :
    Calls Tryd.prog 4 #[.agg #[.bool false, v, .int .i64 c, .int .i64 a, .bool true], .int .i64 k] w fun e w' => e = .returned (.bool true) ∧ Below w.heap.size w w' := by
  have hok : x.okE := by rw [hx]; exact eAt_ok _ _ (by unfold base; simp [Er.okE]; omega) _ (Nat.le_refl _)
  have hwr : x.wraps ≤ 1000 := by rw [hx, eAt_wraps _ _ _ (Nat.le_refl _)]; unfold base; simp [Er.wraps]; omega
  have hcd : x.cd = c := by rw [hx, eAt_cd _ _ _ (Nat.le_refl _)]; unfold base; simp [Er.cd]
  have hflt : x.flt = (base true c a).flt := by rw [hx, eAt_flt _ _ _ (Nat.le_refl _)]
  have hsz := x.txt_size T hok
  have HA := Lib.hid (fun W (hb : Below w.heap.size w W) => awake02 T W (he.below hb) (hk.below hb) (hn.below hb) (ht.below hb))
  have HBu := Lib.hid (fun W (hb : Below w.heap.size w W) => by have := build_er true c a v ks W (hs.below hb) (by omega); rw [← hx, hT] at this; exact this)
  have HI := Lib.hid (fun W => by have := in_er k x W; rw [hT, Er.t_placed] at this; exact this)
  have HS := Lib.hid (fun W (hb : Below w.heap.size w W) => by have := AsOwn_hit (.placed k x) c a (by rw [flt_placed, hflt, flt_true]) W (he.below hb); rw [Er.t_placed] at this; exact this)
  have HU := Lib.hid (fun W => by have := Unwrap_placed k x W; rw [hT, Er.t_placed] at this; exact this)
  have HT := Lib.hid (fun W (hb : Below w.heap.size w W) => by have := errTxt T x W hok hwr (hk.below hb) (ht.below hb); rw [hE] at this; exact this)
  have HQ := Lib.hid (fun (c' : Int) W => by have := Is_er (.placed k x) c' W; rw [cd_placed, hcd, Er.t_placed] at this; exact this)
  have hne := Lib.hid (next_ne c h0 h1)
  obtain ⟨s, cap, rfl, hc⟩ := hs
  clear hc he hk hn ht hcd hflt hsz hok hwr h0 h1 hx hT hE
  generalize x.v = xv at *
  generalize (Er.placed k x).v = pv at *
  generalize x.txt T = st at *
  have FX := Lib.hid (fun W (hb : Below (w.alloc (.cells #[.bool false, .slice s ks.length cap, .int .i64 c, .int .i64 a, .bool true] 24)).heap.size (w.alloc (.cells #[.bool false, .slice s ks.length cap, .int .i64 c, .int .i64 a, .bool true] 24)) W) => blk5 (blk_keep hb (blk_new w _)))
  have H0 := Lib.hid (bel_alloc (Below.refl _ w) (.cells #[.bool false, .slice s ks.length cap, .int .i64 c, .int .i64 a, .bool true] 24))
  have hB := Lib.hid (Below.refl (w.alloc (.cells #[.bool false, .slice s ks.length cap, .int .i64 c, .int .i64 a, .bool true] 24)).heap.size (w.alloc (.cells #[.bool false, .slice s ks.length cap, .int .i64 c, .int .i64 a, .bool true] 24)))
  have X : True := trivial
  go_enter Tryd.func4, Tryd.ntmps4
  go_wp2_with (first
    | (go_at_call 5; refine (HA.out _ (bel_trans H0.out hB.out)).mono ?_; rintro e w' ⟨rfl, hb⟩; replace hB := Lib.hid (bel_trans hB.out hb); clear hb; replace X := FX.out _ hB.out)
    | (go_at_call 6; refine (HBu.out _ (bel_trans H0.out hB.out)).mono ?_; rintro e w' ⟨rfl, hb⟩; replace hB := Lib.hid (bel_trans hB.out hb); clear hb; replace X := FX.out _ hB.out)
    | (go_at_call 12; refine (HI.out _).mono ?_; rintro e w' ⟨rfl, rfl⟩))
  go_at_call 13
  refine (HS.out _ (bel_trans H0.out hB.out)).mono ?_
  rintro e w8 ⟨rfl, hy, hb⟩
  replace hB := Lib.hid (bel_trans hB.out hb)
  clear hb
  replace X := FX.out _ hB.out
  have FY := Lib.hid (fun W (hbb : Below w8.heap.size w8 W) => And.intro ((hbb.cell (cell_lt hy.1)).trans hy.1) ((hbb.cell (cell_lt hy.2)).trans hy.2))
  have hB8 := Lib.hid (Below.refl w8.heap.size w8)
  go_wp2_with (first
    | (go_at_call 14; refine (HU.out _).mono ?_; rintro e w9 ⟨rfl, hb⟩; replace hB8 := Lib.hid (bel_trans hB8.out hb); replace hy := FY.out _ hB8.out; replace hB := Lib.hid (bel_trans hB.out hb); clear hb; replace X := FX.out _ hB.out)
    | (go_at_call 46; refine (HT.out _ (bel_trans H0.out hB.out)).mono ?_; rintro e w9 ⟨rfl, hb⟩; replace hB8 := Lib.hid (bel_trans hB8.out hb); replace hy := FY.out _ hB8.out; replace hB := Lib.hid (bel_trans hB.out hb); clear hb; replace X := FX.out _ hB.out)
    | (go_at_call 15; refine (HQ.out _ _).mono ?_; rintro e w9 ⟨rfl, hb⟩; replace hB8 := Lib.hid (bel_trans hB8.out hb); replace hy := FY.out _ hB8.out; replace hB := Lib.hid (bel_trans hB.out hb); clear hb; replace X := FX.out _ hB.out))
  all_goals go_ret
  all_goals exact ⟨(ret_b hne.out : Ending.returned (.bool (!(c == wrap64 (c + 1)))) = .returned (.bool true)), bel_trans H0.out hB.out⟩
set_option maxHeartbeats 8000000 in
set_option maxRecDepth 100000 in
theorem law02_true_40 (T : Nat → Nat) (c a k : Int) (v : Value) (ks : List Int) (x : Er) (w : World) (he : ErrTy w) (hk : KindsAt w) (hn : NamesAt w) (ht : TabAt w T) (hs : I64s w v ks) (hl : ks.length ≤ 20)
    (hx : x = eAt (base true c a) ks ks.length) (hT : x.t = 40) (hE : x.errF = 61) (h0 : -9223372036854775808 ≤ c) (h1 : c ≤ 9223372036854775807) :
    Calls Tryd.prog 4 #[.agg #[.bool false, v, .int .i64 c, .int .i64 a, .bool true], .int .i64 k] w fun e w' => e = .returned (.bool true) ∧ Below w.heap.size w w' := by
  have hok : x.okE := by rw [hx]; exact eAt_ok _ _ (by unfold base; simp [Er.okE]; omega) _ (Nat.le_refl _)
  have hwr : x.wraps ≤ 1000 := by rw [hx, eAt_wraps _ _ _ (Nat.le_refl _)]; unfold base; simp [Er.wraps]; omega
  have hcd : x.cd = c := by rw [hx, eAt_cd _ _ _ (Nat.le_refl _)]; unfold base; simp [Er.cd]
  have hflt : x.flt = (base true c a).flt := by rw [hx, eAt_flt _ _ _ (Nat.le_refl _)]
  have hsz := x.txt_size T hok
  have HA := Lib.hid (fun W (hb : Below w.heap.size w W) => awake02 T W (he.below hb) (hk.below hb) (hn.below hb) (ht.below hb))
  have HBu := Lib.hid (fun W (hb : Below w.heap.size w W) => by have := build_er true c a v ks W (hs.below hb) (by omega); rw [← hx, hT] at this; exact this)
  have HI := Lib.hid (fun W => by have := in_er k x W; rw [hT, Er.t_placed] at this; exact this)
  have HS := Lib.hid (fun W (hb : Below w.heap.size w W) => by have := AsOwn_hit (.placed k x) c a (by rw [flt_placed, hflt, flt_true]) W (he.below hb); rw [Er.t_placed] at this; exact this)
  have HU := Lib.hid (fun W => by have := Unwrap_placed k x W; rw [hT, Er.t_placed] at this; exact this)
  have HT := Lib.hid (fun W (hb : Below w.heap.size w W) => by have := errTxt T x W hok hwr (hk.below hb) (ht.below hb); rw [hE] at this; exact this)
  have HQ := Lib.hid (fun (c' : Int) W => by have := Is_er (.placed k x) c' W; rw [cd_placed, hcd, Er.t_placed] at this; exact this)
  have hne := Lib.hid (next_ne c h0 h1)
  obtain ⟨s, cap, rfl, hc⟩ := hs
  clear hc he hk hn ht hcd hflt hsz hok hwr h0 h1 hx hT hE
  generalize x.v = xv at *
  generalize (Er.placed k x).v = pv at *
  generalize x.txt T = st at *
  have FX := Lib.hid (fun W (hb : Below (w.alloc (.cells #[.bool false, .slice s ks.length cap, .int .i64 c, .int .i64 a, .bool true] 24)).heap.size (w.alloc (.cells #[.bool false, .slice s ks.length cap, .int .i64 c, .int .i64 a, .bool true] 24)) W) => blk5 (blk_keep hb (blk_new w _)))
  have H0 := Lib.hid (bel_alloc (Below.refl _ w) (.cells #[.bool false, .slice s ks.length cap, .int .i64 c, .int .i64 a, .bool true] 24))
  have hB := Lib.hid (Below.refl (w.alloc (.cells #[.bool false, .slice s ks.length cap, .int .i64 c, .int .i64 a, .bool true] 24)).heap.size (w.alloc (.cells #[.bool false, .slice s ks.length cap, .int .i64 c, .int .i64 a, .bool true] 24)))
  have X : True := trivial
  go_enter Tryd.func4, Tryd.ntmps4
  go_wp2_with (first
    | (go_at_call 5; refine (HA.out _ (bel_trans H0.out hB.out)).mono ?_; rintro e w' ⟨rfl, hb⟩; replace hB := Lib.hid (bel_trans hB.out hb); clear hb; replace X := FX.out _ hB.out)
    | (go_at_call 6; refine (HBu.out _ (bel_trans H0.out hB.out)).mono ?_; rintro e w' ⟨rfl, hb⟩; replace hB := Lib.hid (bel_trans hB.out hb); clear hb; replace X := FX.out _ hB.out)
    | (go_at_call 12; refine (HI.out _).mono ?_; rintro e w' ⟨rfl, rfl⟩))
  go_at_call 13
  refine (HS.out _ (bel_trans H0.out hB.out)).mono ?_
  rintro e w8 ⟨rfl, hy, hb⟩
  replace hB := Lib.hid (bel_trans hB.out hb)
  clear hb
  replace X := FX.out _ hB.out
  have FY := Lib.hid (fun W (hbb : Below w8.heap.size w8 W) => And.intro ((hbb.cell (cell_lt hy.1)).trans hy.1) ((hbb.cell (cell_lt hy.2)).trans hy.2))
  have hB8 := Lib.hid (Below.refl w8.heap.size w8)
  go_wp2_with (first
    | (go_at_call 14; refine (HU.out _).mono ?_; rintro e w9 ⟨rfl, hb⟩; replace hB8 := Lib.hid (bel_trans hB8.out hb); replace hy := FY.out _ hB8.out; replace hB := Lib.hid (bel_trans hB.out hb); clear hb; replace X := FX.out _ hB.out)
    | (go_at_call 61; refine (HT.out _ (bel_trans H0.out hB.out)).mono ?_; rintro e w9 ⟨rfl, hb⟩; replace hB8 := Lib.hid (bel_trans hB8.out hb); replace hy := FY.out _ hB8.out; replace hB := Lib.hid (bel_trans hB.out hb); clear hb; replace X := FX.out _ hB.out)
    | (go_at_call 15; refine (HQ.out _ _).mono ?_; rintro e w9 ⟨rfl, hb⟩; replace hB8 := Lib.hid (bel_trans hB8.out hb); replace hy := FY.out _ hB8.out; replace hB := Lib.hid (bel_trans hB.out hb); clear hb; replace X := FX.out _ hB.out))
  all_goals go_ret
  all_goals exact ⟨(ret_b hne.out : Ending.returned (.bool (!(c == wrap64 (c + 1)))) = .returned (.bool true)), bel_trans H0.out hB.out⟩
set_option maxHeartbeats 8000000 in
set_option maxRecDepth 100000 in
theorem law02_true_51 (T : Nat → Nat) (c a k : Int) (v : Value) (ks : List Int) (x : Er) (w : World) (he : ErrTy w) (hk : KindsAt w) (hn : NamesAt w) (ht : TabAt w T) (hs : I64s w v ks) (hl : ks.length ≤ 20)
    (hx : x = eAt (base true c a) ks ks.length) (hT : x.t = 51) (hE : x.errF = 63) (h0 : -9223372036854775808 ≤ c) (h1 : c ≤ 9223372036854775807) :
    Calls Tryd.prog 4 #[.agg #[.bool false, v, .int .i64 c, .int .i64 a, .bool true], .int .i64 k] w fun e w' => e = .returned (.bool true) ∧ Below w.heap.size w w' := by
  have hok : x.okE := by rw [hx]; exact eAt_ok _ _ (by unfold base; simp [Er.okE]; omega) _ (Nat.le_refl _)
  have hwr : x.wraps ≤ 1000 := by rw [hx, eAt_wraps _ _ _ (Nat.le_refl _)]; unfold base; simp [Er.wraps]; omega
  have hcd : x.cd = c := by rw [hx, eAt_cd _ _ _ (Nat.le_refl _)]; unfold base; simp [Er.cd]
  have hflt : x.flt = (base true c a).flt := by rw [hx, eAt_flt _ _ _ (Nat.le_refl _)]
  have hsz := x.txt_size T hok
  have HA := Lib.hid (fun W (hb : Below w.heap.size w W) => awake02 T W (he.below hb) (hk.below hb) (hn.below hb) (ht.below hb))
  have HBu := Lib.hid (fun W (hb : Below w.heap.size w W) => by have := build_er true c a v ks W (hs.below hb) (by omega); rw [← hx, hT] at this; exact this)
  have HI := Lib.hid (fun W => by have := in_er k x W; rw [hT, Er.t_placed] at this; exact this)
  have HS := Lib.hid (fun W (hb : Below w.heap.size w W) => by have := AsOwn_hit (.placed k x) c a (by rw [flt_placed, hflt, flt_true]) W (he.below hb); rw [Er.t_placed] at this; exact this)
  have HU := Lib.hid (fun W => by have := Unwrap_placed k x W; rw [hT, Er.t_placed] at this; exact this)
  have HT := Lib.hid (fun W (hb : Below w.heap.size w W) => by have := errTxt T x W hok hwr (hk.below hb) (ht.below hb); rw [hE] at this; exact this)
  have HQ := Lib.hid (fun (c' : Int) W => by have := Is_er (.placed k x) c' W; rw [cd_placed, hcd, Er.t_placed] at this; exact this)
  have hne := Lib.hid (next_ne c h0 h1)
  obtain ⟨s, cap, rfl, hc⟩ := hs
  clear hc he hk hn ht hcd hflt hsz hok hwr h0 h1 hx hT hE
  generalize x.v = xv at *
  generalize (Er.placed k x).v = pv at *
  generalize x.txt T = st at *
  have FX := Lib.hid (fun W (hb : Below (w.alloc (.cells #[.bool false, .slice s ks.length cap, .int .i64 c, .int .i64 a, .bool true] 24)).heap.size (w.alloc (.cells #[.bool false, .slice s ks.length cap, .int .i64 c, .int .i64 a, .bool true] 24)) W) => blk5 (blk_keep hb (blk_new w _)))
  have H0 := Lib.hid (bel_alloc (Below.refl _ w) (.cells #[.bool false, .slice s ks.length cap, .int .i64 c, .int .i64 a, .bool true] 24))
  have hB := Lib.hid (Below.refl (w.alloc (.cells #[.bool false, .slice s ks.length cap, .int .i64 c, .int .i64 a, .bool true] 24)).heap.size (w.alloc (.cells #[.bool false, .slice s ks.length cap, .int .i64 c, .int .i64 a, .bool true] 24)))
  have X : True := trivial
  go_enter Tryd.func4, Tryd.ntmps4
  go_wp2_with (first
    | (go_at_call 5; refine (HA.out _ (bel_trans H0.out hB.out)).mono ?_; rintro e w' ⟨rfl, hb⟩; replace hB := Lib.hid (bel_trans hB.out hb); clear hb; replace X := FX.out _ hB.out)
    | (go_at_call 6; refine (HBu.out _ (bel_trans H0.out hB.out)).mono ?_; rintro e w' ⟨rfl, hb⟩; replace hB := Lib.hid (bel_trans hB.out hb); clear hb; replace X := FX.out _ hB.out)
    | (go_at_call 12; refine (HI.out _).mono ?_; rintro e w' ⟨rfl, rfl⟩))
  go_at_call 13
  refine (HS.out _ (bel_trans H0.out hB.out)).mono ?_
  rintro e w8 ⟨rfl, hy, hb⟩
  replace hB := Lib.hid (bel_trans hB.out hb)
  clear hb
  replace X := FX.out _ hB.out
  have FY := Lib.hid (fun W (hbb : Below w8.heap.size w8 W) => And.intro ((hbb.cell (cell_lt hy.1)).trans hy.1) ((hbb.cell (cell_lt hy.2)).trans hy.2))
  have hB8 := Lib.hid (Below.refl w8.heap.size w8)
  go_wp2_with (first
    | (go_at_call 14; refine (HU.out _).mono ?_; rintro e w9 ⟨rfl, hb⟩; replace hB8 := Lib.hid (bel_trans hB8.out hb); replace hy := FY.out _ hB8.out; replace hB := Lib.hid (bel_trans hB.out hb); clear hb; replace X := FX.out _ hB.out)
    | (go_at_call 63; refine (HT.out _ (bel_trans H0.out hB.out)).mono ?_; rintro e w9 ⟨rfl, hb⟩; replace hB8 := Lib.hid (bel_trans hB8.out hb); replace hy := FY.out _ hB8.out; replace hB := Lib.hid (bel_trans hB.out hb); clear hb; replace X := FX.out _ hB.out)
    | (go_at_call 15; refine (HQ.out _ _).mono ?_; rintro e w9 ⟨rfl, hb⟩; replace hB8 := Lib.hid (bel_trans hB8.out hb); replace hy := FY.out _ hB8.out; replace hB := Lib.hid (bel_trans hB.out hb); clear hb; replace X := FX.out _ hB.out))
  all_goals go_ret
  all_goals exact ⟨(ret_b hne.out : Ending.returned (.bool (!(c == wrap64 (c + 1)))) = .returned (.bool true)), bel_trans H0.out hB.out⟩
set_option maxHeartbeats 8000000 in
set_option maxRecDepth 100000 in
theorem law02_false_29 (T : Nat → Nat) (c a k : Int) (v : Value) (ks : List Int) (x : Er) (w : World) (he : ErrTy w) (hk : KindsAt w) (hn : NamesAt w) (ht : TabAt w T) (hs : I64s w v ks) (hl : ks.length ≤ 20)
    (hx : x = eAt (base false c a) ks ks.length) (hT : x.t = 29) (hE : x.errF = 46) (h0 : -9223372036854775808 ≤ c) (h1 : c ≤ 9223372036854775807) :
    Calls Tryd.prog 4 #[.agg #[.bool false, v, .int .i64 c, .int .i64 a, .bool false], .int .i64 k] w fun e w' => e = .returned (.bool true) ∧ Below w.heap.size w w' := by
  have hok : x.okE := by rw [hx]; exact eAt_ok _ _ (by unfold base; simp [Er.okE]; omega) _ (Nat.le_refl _)
  have hwr : x.wraps ≤ 1000 := by rw [hx, eAt_wraps _ _ _ (Nat.le_refl _)]; unfold base; simp [Er.wraps]; omega
  have hcd : x.cd = c := by rw [hx, eAt_cd _ _ _ (Nat.le_refl _)]; unfold base; simp [Er.cd]
  have hflt : x.flt = (base false c a).flt := by rw [hx, eAt_flt _ _ _ (Nat.le_refl _)]
  have hsz := x.txt_size T hok
  have HA := Lib.hid (fun W (hb : Below w.heap.size w W) => awake02 T W (he.below hb) (hk.below hb) (hn.below hb) (ht.below hb))
  have HBu := Lib.hid (fun W (hb : Below w.heap.size w W) => by have := build_er false c a v ks W (hs.below hb) (by omega); rw [← hx, hT] at this; exact this)
  have HI := Lib.hid (fun W => by have := in_er k x W; rw [hT, Er.t_placed] at this; exact this)
  have HS := Lib.hid (fun W (hb : Below w.heap.size w W) => by have := AsOwn_miss (.placed k x) (by rw [flt_placed, hflt, flt_false]) W (he.below hb); rw [Er.t_placed] at this; exact this)
  have HU := Lib.hid (fun W => by have := Unwrap_placed k x W; rw [hT, Er.t_placed] at this; exact this)
  have HT := Lib.hid (fun W (hb : Below w.heap.size w W) => by have := errTxt T x W hok hwr (hk.below hb) (ht.below hb); rw [hE] at this; exact this)
  have HQ := Lib.hid (fun (c' : Int) W => by have := Is_er (.placed k x) c' W; rw [cd_placed, hcd, Er.t_placed] at this; exact this)
  have hne := Lib.hid (next_ne c h0 h1)
  obtain ⟨s, cap, rfl, hc⟩ := hs
  clear hc he hk hn ht hcd hflt hsz hok hwr h0 h1 hx hT hE
  generalize x.v = xv at *
  generalize (Er.placed k x).v = pv at *
  generalize x.txt T = st at *
  have FX := Lib.hid (fun W (hb : Below (w.alloc (.cells #[.bool false, .slice s ks.length cap, .int .i64 c, .int .i64 a, .bool false] 24)).heap.size (w.alloc (.cells #[.bool false, .slice s ks.length cap, .int .i64 c, .int .i64 a, .bool false] 24)) W) => blk5 (blk_keep hb (blk_new w _)))
  have H0 := Lib.hid (bel_alloc (Below.refl _ w) (.cells #[.bool false, .slice s ks.length cap, .int .i64 c, .int .i64 a, .bool false] 24))
  have hB := Lib.hid (Below.refl (w.alloc (.cells #[.bool false, .slice s ks.length cap, .int .i64 c, .int .i64 a, .bool false] 24)).heap.size (w.alloc (.cells #[.bool false, .slice s ks.length cap, .int .i64 c, .int .i64 a, .bool false] 24)))
  have X : True := trivial
  go_enter Tryd.func4, Tryd.ntmps4
  go_wp2_with (first
    | (go_at_call 5; refine (HA.out _ (bel_trans H0.out hB.out)).mono ?_; rintro e w' ⟨rfl, hb⟩; replace hB := Lib.hid (bel_trans hB.out hb); clear hb; replace X := FX.out _ hB.out)
    | (go_at_call 6; refine (HBu.out _ (bel_trans H0.out hB.out)).mono ?_; rintro e w' ⟨rfl, hb⟩; replace hB := Lib.hid (bel_trans hB.out hb); clear hb; replace X := FX.out _ hB.out)
    | (go_at_call 12; refine (HI.out _).mono ?_; rintro e w' ⟨rfl, rfl⟩))
  go_at_call 13
  refine (HS.out _ (bel_trans H0.out hB.out)).mono ?_
  rintro e w8 ⟨rfl, hb⟩
  replace hB := Lib.hid (bel_trans hB.out hb)
  clear hb
  replace X := FX.out _ hB.out
  go_wp2_with (first
    | (go_at_call 14; refine (HU.out _).mono ?_; rintro e w9 ⟨rfl, hb⟩; replace hB := Lib.hid (bel_trans hB.out hb); clear hb; replace X := FX.out _ hB.out)
    | (go_at_call 46; refine (HT.out _ (bel_trans H0.out hB.out)).mono ?_; rintro e w9 ⟨rfl, hb⟩; replace hB := Lib.hid (bel_trans hB.out hb); clear hb; replace X := FX.out _ hB.out)
    | (go_at_call 15; refine (HQ.out _ _).mono ?_; rintro e w9 ⟨rfl, hb⟩; replace hB := Lib.hid (bel_trans hB.out hb); clear hb; replace X := FX.out _ hB.out))
  all_goals go_ret
  all_goals exact ⟨(ret_b hne.out : Ending.returned (.bool (!(c == wrap64 (c + 1)))) = .returned (.bool true)), bel_trans H0.out hB.out⟩
set_option maxHeartbeats 8000000 in
set_option maxRecDepth 100000 in
theorem law02_false_40 (T : Nat → Nat) (c a k : Int) (v : Value) (ks : List Int) (x : Er) (w : World) (he : ErrTy w) (hk : KindsAt w) (hn : NamesAt w) (ht : TabAt w T) (hs : I64s w v ks) (hl : ks.length ≤ 20)
    (hx : x = eAt (base false c a) ks ks.length) (hT : x.t = 40) (hE : x.errF = 61) (h0 : -9223372036854775808 ≤ c) (h1 : c ≤ 9223372036854775807) :
    Calls Tryd.prog 4 #[.agg #[.bool false, v, .int .i64 c, .int .i64 a, .bool false], .int .i64 k] w fun e w' => e = .returned (.bool true) ∧ Below w.heap.size w w' := by
  have hok : x.okE := by rw [hx]; exact eAt_ok _ _ (by unfold base; simp [Er.okE]; omega) _ (Nat.le_refl _)
  have hwr : x.wraps ≤ 1000 := by rw [hx, eAt_wraps _ _ _ (Nat.le_refl _)]; unfold base; simp [Er.wraps]; omega
  have hcd : x.cd = c := by rw [hx, eAt_cd _ _ _ (Nat.le_refl _)]; unfold base; simp [Er.cd]
  have hflt : x.flt = (base false c a).flt := by rw [hx, eAt_flt _ _ _ (Nat.le_refl _)]
  have hsz := x.txt_size T hok
  have HA := Lib.hid (fun W (hb : Below w.heap.size w W) => awake02 T W (he.below hb) (hk.below hb) (hn.below hb) (ht.below hb))
  have HBu := Lib.hid (fun W (hb : Below w.heap.size w W) => by have := build_er false c a v ks W (hs.below hb) (by omega); rw [← hx, hT] at this; exact this)
  have HI := Lib.hid (fun W => by have := in_er k x W; rw [hT, Er.t_placed] at this; exact this)
  have HS := Lib.hid (fun W (hb : Below w.heap.size w W) => by have := AsOwn_miss (.placed k x) (by rw [flt_placed, hflt, flt_false]) W (he.below hb); rw [Er.t_placed] at this; exact this)
  have HU := Lib.hid (fun W => by have := Unwrap_placed k x W; rw [hT, Er.t_placed] at this; exact this)
  have HT := Lib.hid (fun W (hb : Below w.heap.size w W) => by have := errTxt T x W hok hwr (hk.below hb) (ht.below hb); rw [hE] at this; exact this)
  have HQ := Lib.hid (fun (c' : Int) W => by have := Is_er (.placed k x) c' W; rw [cd_placed, hcd, Er.t_placed] at this; exact this)
  have hne := Lib.hid (next_ne c h0 h1)
  obtain ⟨s, cap, rfl, hc⟩ := hs
  clear hc he hk hn ht hcd hflt hsz hok hwr h0 h1 hx hT hE
  generalize x.v = xv at *
  generalize (Er.placed k x).v = pv at *
  generalize x.txt T = st at *
  have FX := Lib.hid (fun W (hb : Below (w.alloc (.cells #[.bool false, .slice s ks.length cap, .int .i64 c, .int .i64 a, .bool false] 24)).heap.size (w.alloc (.cells #[.bool false, .slice s ks.length cap, .int .i64 c, .int .i64 a, .bool false] 24)) W) => blk5 (blk_keep hb (blk_new w _)))
  have H0 := Lib.hid (bel_alloc (Below.refl _ w) (.cells #[.bool false, .slice s ks.length cap, .int .i64 c, .int .i64 a, .bool false] 24))
  have hB := Lib.hid (Below.refl (w.alloc (.cells #[.bool false, .slice s ks.length cap, .int .i64 c, .int .i64 a, .bool false] 24)).heap.size (w.alloc (.cells #[.bool false, .slice s ks.length cap, .int .i64 c, .int .i64 a, .bool false] 24)))
  have X : True := trivial
  go_enter Tryd.func4, Tryd.ntmps4
  go_wp2_with (first
    | (go_at_call 5; refine (HA.out _ (bel_trans H0.out hB.out)).mono ?_; rintro e w' ⟨rfl, hb⟩; replace hB := Lib.hid (bel_trans hB.out hb); clear hb; replace X := FX.out _ hB.out)
    | (go_at_call 6; refine (HBu.out _ (bel_trans H0.out hB.out)).mono ?_; rintro e w' ⟨rfl, hb⟩; replace hB := Lib.hid (bel_trans hB.out hb); clear hb; replace X := FX.out _ hB.out)
    | (go_at_call 12; refine (HI.out _).mono ?_; rintro e w' ⟨rfl, rfl⟩))
  go_at_call 13
  refine (HS.out _ (bel_trans H0.out hB.out)).mono ?_
  rintro e w8 ⟨rfl, hb⟩
  replace hB := Lib.hid (bel_trans hB.out hb)
  clear hb
  replace X := FX.out _ hB.out
  go_wp2_with (first
    | (go_at_call 14; refine (HU.out _).mono ?_; rintro e w9 ⟨rfl, hb⟩; replace hB := Lib.hid (bel_trans hB.out hb); clear hb; replace X := FX.out _ hB.out)
    | (go_at_call 61; refine (HT.out _ (bel_trans H0.out hB.out)).mono ?_; rintro e w9 ⟨rfl, hb⟩; replace hB := Lib.hid (bel_trans hB.out hb); clear hb; replace X := FX.out _ hB.out)
    | (go_at_call 15; refine (HQ.out _ _).mono ?_; rintro e w9 ⟨rfl, hb⟩; replace hB := Lib.hid (bel_trans hB.out hb); clear hb; replace X := FX.out _ hB.out))
  all_goals go_ret
  all_goals exact ⟨(ret_b hne.out : Ending.returned (.bool (!(c == wrap64 (c + 1)))) = .returned (.bool true)), bel_trans H0.out hB.out⟩
set_option maxHeartbeats 8000000 in
set_option maxRecDepth 100000 in
theorem law02_false_51 (T : Nat → Nat) (c a k : Int) (v : Value) (ks : List Int) (x : Er) (w : World) (he : ErrTy w) (hk : KindsAt w) (hn : NamesAt w) (ht : TabAt w T) (hs : I64s w v ks) (hl : ks.length ≤ 20)
    (hx : x = eAt (base false c a) ks ks.length) (hT : x.t = 51) (hE : x.errF = 63) (h0 : -9223372036854775808 ≤ c) (h1 : c ≤ 9223372036854775807) :
    Calls Tryd.prog 4 #[.agg #[.bool false, v, .int .i64 c, .int .i64 a, .bool false], .int .i64 k] w fun e w' => e = .returned (.bool true) ∧ Below w.heap.size w w' := by
  have hok : x.okE := by rw [hx]; exact eAt_ok _ _ (by unfold base; simp [Er.okE]; omega) _ (Nat.le_refl _)
  have hwr : x.wraps ≤ 1000 := by rw [hx, eAt_wraps _ _ _ (Nat.le_refl _)]; unfold base; simp [Er.wraps]; omega
  have hcd : x.cd = c := by rw [hx, eAt_cd _ _ _ (Nat.le_refl _)]; unfold base; simp [Er.cd]
  have hflt : x.flt = (base false c a).flt := by rw [hx, eAt_flt _ _ _ (Nat.le_refl _)]
  have hsz := x.txt_size T hok
  have HA := Lib.hid (fun W (hb : Below w.heap.size w W) => awake02 T W (he.below hb) (hk.below hb) (hn.below hb) (ht.below hb))
  have HBu := Lib.hid (fun W (hb : Below w.heap.size w W) => by have := build_er false c a v ks W (hs.below hb) (by omega); rw [← hx, hT] at this; exact this)
  have HI := Lib.hid (fun W => by have := in_er k x W; rw [hT, Er.t_placed] at this; exact this)
  have HS := Lib.hid (fun W (hb : Below w.heap.size w W) => by have := AsOwn_miss (.placed k x) (by rw [flt_placed, hflt, flt_false]) W (he.below hb); rw [Er.t_placed] at this; exact this)
  have HU := Lib.hid (fun W => by have := Unwrap_placed k x W; rw [hT, Er.t_placed] at this; exact this)
  have HT := Lib.hid (fun W (hb : Below w.heap.size w W) => by have := errTxt T x W hok hwr (hk.below hb) (ht.below hb); rw [hE] at this; exact this)
  have HQ := Lib.hid (fun (c' : Int) W => by have := Is_er (.placed k x) c' W; rw [cd_placed, hcd, Er.t_placed] at this; exact this)
  have hne := Lib.hid (next_ne c h0 h1)
  obtain ⟨s, cap, rfl, hc⟩ := hs
  clear hc he hk hn ht hcd hflt hsz hok hwr h0 h1 hx hT hE
  generalize x.v = xv at *
  generalize (Er.placed k x).v = pv at *
  generalize x.txt T = st at *
  have FX := Lib.hid (fun W (hb : Below (w.alloc (.cells #[.bool false, .slice s ks.length cap, .int .i64 c, .int .i64 a, .bool false] 24)).heap.size (w.alloc (.cells #[.bool false, .slice s ks.length cap, .int .i64 c, .int .i64 a, .bool false] 24)) W) => blk5 (blk_keep hb (blk_new w _)))
  have H0 := Lib.hid (bel_alloc (Below.refl _ w) (.cells #[.bool false, .slice s ks.length cap, .int .i64 c, .int .i64 a, .bool false] 24))
  have hB := Lib.hid (Below.refl (w.alloc (.cells #[.bool false, .slice s ks.length cap, .int .i64 c, .int .i64 a, .bool false] 24)).heap.size (w.alloc (.cells #[.bool false, .slice s ks.length cap, .int .i64 c, .int .i64 a, .bool false] 24)))
  have X : True := trivial
  go_enter Tryd.func4, Tryd.ntmps4
  go_wp2_with (first
    | (go_at_call 5; refine (HA.out _ (bel_trans H0.out hB.out)).mono ?_; rintro e w' ⟨rfl, hb⟩; replace hB := Lib.hid (bel_trans hB.out hb); clear hb; replace X := FX.out _ hB.out)
    | (go_at_call 6; refine (HBu.out _ (bel_trans H0.out hB.out)).mono ?_; rintro e w' ⟨rfl, hb⟩; replace hB := Lib.hid (bel_trans hB.out hb); clear hb; replace X := FX.out _ hB.out)
    | (go_at_call 12; refine (HI.out _).mono ?_; rintro e w' ⟨rfl, rfl⟩))
  go_at_call 13
  refine (HS.out _ (bel_trans H0.out hB.out)).mono ?_
  rintro e w8 ⟨rfl, hb⟩
  replace hB := Lib.hid (bel_trans hB.out hb)
  clear hb
  replace X := FX.out _ hB.out
  go_wp2_with (first
    | (go_at_call 14; refine (HU.out _).mono ?_; rintro e w9 ⟨rfl, hb⟩; replace hB := Lib.hid (bel_trans hB.out hb); clear hb; replace X := FX.out _ hB.out)
    | (go_at_call 63; refine (HT.out _ (bel_trans H0.out hB.out)).mono ?_; rintro e w9 ⟨rfl, hb⟩; replace hB := Lib.hid (bel_trans hB.out hb); clear hb; replace X := FX.out _ hB.out)
    | (go_at_call 15; refine (HQ.out _ _).mono ?_; rintro e w9 ⟨rfl, hb⟩; replace hB := Lib.hid (bel_trans hB.out hb); clear hb; replace X := FX.out _ hB.out))
  all_goals go_ret
  all_goals exact ⟨(ret_b hne.out : Ending.returned (.bool (!(c == wrap64 (c + 1)))) = .returned (.bool true)), bel_trans H0.out hB.out⟩

/-- The law, at every description and kind. -/
theorem law02_FaultWraps (T : Nat → Nat) (nl fl : Bool) (c a k : Int) (v : Value) (ks : List Int) (w : World) (he : ErrTy w) (hk : KindsAt w) (hn : NamesAt w) (ht : TabAt w T) (hs : I64s w v ks) (hm : ks.length ≤ 9223372036854775807)
    (h0 : -9223372036854775808 ≤ c) (h1 : c ≤ 9223372036854775807) :
    Calls Tryd.prog 4 #[.agg #[.bool nl, v, .int .i64 c, .int .i64 a, .bool fl], .int .i64 k] w fun e w' => e = .returned (.bool true) ∧ Below w.heap.size w w' := by
  by_cases hl : ks.length ≤ 20
  · cases nl with
    | true => exact law02_quick_false T true fl c a k v ks w he hk hn ht hs rfl (by simp; omega) hm
    | false =>
      obtain ⟨x, hx⟩ : ∃ x, x = eAt (base fl c a) ks ks.length := ⟨_, rfl⟩
      cases fl with
      | true =>
        cases x with
        | code c' => exact law02_true_29 T c a k v ks _ w he hk hn ht hs hl hx (Er.t_code c') rfl h0 h1
        | fault c' a' => exact law02_true_40 T c a k v ks _ w he hk hn ht hs hl hx (Er.t_fault c' a') rfl h0 h1
        | placed k' y => exact law02_true_51 T c a k v ks _ w he hk hn ht hs hl hx (Er.t_placed k' y) rfl h0 h1
      | false =>
        cases x with
        | code c' => exact law02_false_29 T c a k v ks _ w he hk hn ht hs hl hx (Er.t_code c') rfl h0 h1
        | fault c' a' => exact law02_false_40 T c a k v ks _ w he hk hn ht hs hl hx (Er.t_fault c' a') rfl h0 h1
        | placed k' y => exact law02_false_51 T c a k v ks _ w he hk hn ht hs hl hx (Er.t_placed k' y) rfl h0 h1
  · exact law02_big T nl fl c a k v ks w he hk hn ht hs (by omega) hm
end Go.Proofs.YtcdhfelcgcnoiaaDoor
