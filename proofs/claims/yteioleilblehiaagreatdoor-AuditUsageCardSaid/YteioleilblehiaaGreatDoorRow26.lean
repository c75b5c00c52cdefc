/- The row of AuditUsage: for every start in which phase.names and audit.names hold what the program lays, the law returns true and its arguments read as before. -/
import Derived.Test.YteioleilblehiaaGreatDoorFrm
import Derived.Test.YteioleilblehiaaGreatDoorOpen26
import Derived.Test.YteioleilblehiaaGreatDoorAwake26
import Derived.Test.YteioleilblehiaaGreatDoorLaw26
import Derived.Test.YteioleilblehiaaGreatDoorSmall26
import Derived.OpenShut
import Derived.Carry
import Derived.ChangeSame
import Derived.ChangeVars
import Derived.JoinedOf
import Derived.RowKit
import Derived.RowKitTokens
import Derived.Handed
namespace Go.Proofs.YteioleilblehiaaGreatDoor
open Go.ChangeShapes Go.WideShapes Go.ChangeAt Go.RowKit

theorem own : ownKnob Tryz.prog.godebug = none := by kernel_rfl
theorem laidOut : laidOutB Tryz.prog = true := by kernel_rfl
theorem gn_ph : Tryz.prog.globalNamed "hammock/phase.names" = some 1 := by kernel_rfl
theorem gn_au : Tryz.prog.globalNamed "hammock/audit.names" = some 0 := by kernel_rfl
noncomputable abbrev laidList : List (String × DataW Unit) := [("hammock/phase.names", Rows.laid_hammock_phase_names), ("hammock/audit.names", Rows.laid_hammock_audit_names)]
theorem start_of_laid {W : World} (h : laidMetH Tryz.prog laidList W) : PhNames W ∧ AuNames W := by
  have h' : laidMet Tryz.prog [("hammock/phase.names", Rows.laid_hammock_phase_names), ("hammock/audit.names", Rows.laid_hammock_audit_names)] W := h
  refine ⟨?_, ?_⟩
  · obtain ⟨ps, ⟨g', t', cs, fuel, p, q, hg', ht', hvar, hd, _, _⟩, _⟩ := h'
    obtain rfl := Option.some.inj (gn_ph.symm.trans hg')
    have hty : (Tryz.prog.globals[1]?).map (·.type) = some 64 := by kernel_rfl
    obtain rfl := Option.some.inj (hty.symm.trans ht')
    have ec := cells_of_strs (zs := [[], [112, 101, 110, 100, 105, 110, 103], [110, 111, 109, 105, 110, 97, 116, 101, 100], [98, 111, 117, 110, 100], [116, 101, 114, 109, 105, 110, 97, 116, 105, 110, 103], [103, 111, 110, 101]]) Tryz.underlying64 Tryz.underlying9 (by kernel_rfl) (by kernel_rfl) hd
    obtain ⟨ty, fr, hh⟩ := heap_of_var gn_ph hvar
    have e2 := congrArg List.toArray ec
    rw [Array.toArray_toList] at e2
    rw [e2] at hh
    exact ⟨ty, fr, hh⟩
  · obtain ⟨ps, ⟨_, _, _, _, _, _, _, _, _, _, ⟨g', t', cs, fuel, p, q, hg', ht', hvar, hd, _, _⟩, _⟩, _⟩ := h'
    obtain rfl := Option.some.inj (gn_au.symm.trans hg')
    have hty : (Tryz.prog.globals[0]?).map (·.type) = some 64 := by kernel_rfl
    obtain rfl := Option.some.inj (hty.symm.trans ht')
    have ec := cells_of_strs (zs := [[], [99, 97, 112, 97, 99, 105, 116, 121], [112, 104, 97, 115, 101], [112, 108, 97, 99, 101], [108, 105, 115, 116, 115], [116, 119, 105, 99, 101]]) Tryz.underlying64 Tryz.underlying9 (by kernel_rfl) (by kernel_rfl) hd
    obtain ⟨ty, fr, hh⟩ := heap_of_var gn_au hvar
    have e2 := congrArg List.toArray ec
    rw [Array.toArray_toList] at e2
    rw [e2] at hh
    exact ⟨ty, fr, hh⟩

set_option maxRecDepth 100000 in
theorem view_open {H : Type} {enc : TypeId × Value → H} {W : World} {base : Nat} {sp : Nat → Bool} {held : Bool} {v0 : Value} {d : DataW H} {p : List MemPlace}
    (hv : Value.okWide Tryz.prog W .any base 26 v0) (h : DataW.Trod enc Tryz.prog W 0 sp held 26 v0 d p) :
    ∃ dims nv av kv A c ns ps acs ks, v0 = .agg #[.int .i64 dims, nv, .slice A ps.length c, av, kv] ∧ in64 dims ∧ Nodes W nv ns ∧ Pods W (.slice A ps.length c) ps ∧ I64s W av acs ∧ I64s W kv ks ∧ ps.length ≤ c ∧
      ns.length ≤ 9223372036854775807 ∧ ps.length ≤ 9223372036854775807 ∧ acs.length ≤ 9223372036854775807 ∧ ks.length ≤ 9223372036854775807 ∧ (∀ n, n ∈ ns → n.cap.length ≤ 9223372036854775807) ∧ ∀ p, p ∈ ps → PodIn p := by
  unfold Value.okWide at hv
  rw [Tryz.underlying26] at hv
  obtain ⟨cs, rfl, hsz, _⟩ := hv
  obtain ⟨fuel, h⟩ := h
  have h' : DataW.trod enc Tryz.prog W 0 sp held fuel 26 cs.toList = some (d, p) := h
  obtain ⟨xs, n, rfl, _, hl, hxl, hf⟩ := DataW.trod_struct Tryz.underlying26 h'
  rw [k_view] at hsz hl
  have hxl' : xs.length = 5 := hxl
  have e0 : DataW.trod enc Tryz.prog W 0 sp held n 3 ((cs.toList.drop 0).take (Tryz.prog.cellsOf 3)) = xs[0]? := hf 0 _ rfl
  rw [k_int] at e0
  have e1 : DataW.trod enc Tryz.prog W 0 sp held n 22 ((cs.toList.drop 1).take (Tryz.prog.cellsOf 22)) = xs[1]? := hf 1 _ rfl
  rw [k_nodes] at e1
  have e2 : DataW.trod enc Tryz.prog W 0 sp held n 23 ((cs.toList.drop 2).take (Tryz.prog.cellsOf 23)) = xs[2]? := hf 2 _ rfl
  rw [k_pods] at e2
  have e3 : DataW.trod enc Tryz.prog W 0 sp held n 24 ((cs.toList.drop 3).take (Tryz.prog.cellsOf 24)) = xs[3]? := hf 3 _ rfl
  rw [k_sli] at e3
  have e4 : DataW.trod enc Tryz.prog W 0 sp held n 24 ((cs.toList.drop 4).take (Tryz.prog.cellsOf 24)) = xs[4]? := hf 4 _ rfl
  rw [k_sli] at e4
  obtain ⟨dims, f0, hdi⟩ := fld_int e0 (by omega)
  rw [List.getElem?_eq_getElem (by omega)] at e1 e2
  obtain ⟨nv, ns, w1, hn, hnl, hnc⟩ := nodes_open e1
  obtain ⟨A, c, ps, w2, hp, hpc, hpl, hpi⟩ := pods_open e2
  obtain ⟨av, acs, f3, ha, hal, _, _⟩ := fld_ints Tryz.underlying24 Tryz.underlying3 k_int e3 (by omega)
  obtain ⟨kv, ks, f4, hk, hkl, _, _⟩ := fld_ints Tryz.underlying24 Tryz.underlying3 k_int e4 (by omega)
  have f1 := at_of_drop w1
  have f2 := at_of_drop w2
  refine ⟨dims, nv, av, kv, A, c, ns, ps, acs, ks, ?_, hdi, hn, hp, ha, hk, hpc, hnl, hpl, hal, hkl, hnc, hpi⟩
  congr 1
  apply Array.ext'
  apply List.ext_getElem?
  intro i
  match i with
  | 0 => exact f0
  | 1 => exact f1
  | 2 => exact f2
  | 3 => exact f3
  | 4 => exact f4
  | i + 5 => rw [List.getElem?_eq_none (by omega), List.getElem?_eq_none (by simp)]

/-- The law, at every view. -/
theorem law26_AuditUsage (dims : Int) (nv av kv : Value) (A : Option Addr) (c : Nat) (ns : List NodeR) (ps : List PodR) (acs ks : List Int) (q node : Int) (w : World) (hN : PhNames w) (hA : AuNames w) (hn : Nodes w nv ns) (hp : Pods w (.slice A ps.length c) ps) (ha : I64s w av acs) (hk : I64s w kv ks) (hpc : ps.length ≤ c)
    (hnl : ns.length ≤ 9223372036854775807) (hpl : ps.length ≤ 9223372036854775807) (hal : acs.length ≤ 9223372036854775807) (hkl : ks.length ≤ 9223372036854775807) (hnc : ∀ n, n ∈ ns → n.cap.length ≤ 9223372036854775807) (hpi : ∀ p, p ∈ ps → PodIn p) (hq0 : 0 ≤ q) (hq1 : q ≤ 255) :
    Calls Tryz.prog 3 #[.agg #[.int .i64 dims, nv, .slice A ps.length c, av, kv], .int .u8 q, .int .i64 node] w fun e w' => e = .returned (.bool true) ∧ Below w.heap.size w w' := by
  have HA := fun W (hb : Below w.heap.size w W) => awake26 W (hN.below hb) (hA.below hb)
  have HF := fun W (hb : Below w.heap.size w W) => ref26_Few _ ⟨dims, ns, ps, acs, ks⟩ W ⟨_, _, _, _, rfl, hn.below hb, hp.below hb, ha.below hb, hk.below hb⟩ hpl hnl hal hkl (fun p h => (hpi p h).2.2.1) hnc
  cases ef : few26 ⟨dims, ns, ps, acs, ks⟩ with
  | false => exact law26_small ⟨dims, ns, ps, acs, ks⟩ _ q node w ⟨_, _, _, _, rfl, hn, hp, ha, hk⟩ (.inl ef) HA HF
  | true =>
    by_cases hl : 0 < ps.length
    · have hs := small_of_few ef
      obtain ⟨b, off, rfl⟩ : ∃ b off, A = some ⟨b, off, none⟩ := by
        obtain ⟨a', c', e', g⟩ := hp
        obtain ⟨b, off, rv, e2, _⟩ := g 0 hl
        cases e'
        exact ⟨b, off, e2⟩
      exact law26_big dims ns ps acs ks nv av kv b off c q node w hn hp ha hk hpc hl hs.pods ef (by have : dims ≤ 20 := hs.dims; omega) (fun p h y hy => by have := (hpi p h).2.2.2 y hy; exact this) hq0 hq1 HA (fun W hb => by have := HF W hb; rw [ef] at this; exact this)
    · exact law26_small ⟨dims, ns, ps, acs, ks⟩ _ q node w ⟨_, _, _, _, rfl, hn, hp, ha, hk⟩ (.inr (List.length_eq_zero_iff.1 (show ps.length = 0 by omega))) HA HF

/-- A world that meets the condition. -/
noncomputable def laidWorld (os : Os) : World :=
  let w0 := World.holding Tryz.prog os ⟨#[], #[], []⟩
  { w0 with heap := (w0.heap.modify 1 fun
      | .cells _ t frozen => .cells #[.string ⟨#[]⟩, .string ⟨#[112, 101, 110, 100, 105, 110, 103]⟩, .string ⟨#[110, 111, 109, 105, 110, 97, 116, 101, 100]⟩, .string ⟨#[98, 111, 117, 110, 100]⟩, .string ⟨#[116, 101, 114, 109, 105, 110, 97, 116, 105, 110, 103]⟩, .string ⟨#[103, 111, 110, 101]⟩] t frozen
      | o => o).modify 0 fun
      | .cells _ t frozen => .cells #[.string ⟨#[]⟩, .string ⟨#[99, 97, 112, 97, 99, 105, 116, 121]⟩, .string ⟨#[112, 104, 97, 115, 101]⟩, .string ⟨#[112, 108, 97, 99, 101]⟩, .string ⟨#[108, 105, 115, 116, 115]⟩, .string ⟨#[116, 119, 105, 99, 101]⟩] t frozen
      | o => o }
theorem laidWorld_met (os : Os) (args : Array Value) : laidMetH Tryz.prog laidList ((laidWorld os).forCall (fun _ _ => 0) ⟨#[], args, []⟩).memory :=
  laidMetH_of_parts (laidMet_of_run' 9 (by kernel_rfl) (by kernel_rfl)) (by kernel_rfl)

set_option maxRecDepth 100000 in
theorem law_lifted (os : Os) (started : os.Started) (H : Type) (enc : TypeId × Value → H) :
    ReturnsInHanded {} Tryz.checked os 3 .any (fun w args => (Rows.auditUsageSpec.pre enc Tryz.prog Tryz.f3 [] false w args ∧ laidMetH Tryz.prog laidList w) ∧ sizedMet enc Tryz.prog Tryz.f3 (OpenSpec.ofChange Rows.auditUsageSpec) false w args)
      (Rows.auditUsageSpec.post enc Tryz.prog Tryz.f3 false true false false) := by
  refine wrap_shaped (C := Tryz.checked) (X := fun w _ => laidMetH Tryz.prog laidList w) (fun _ _ _ hh h => h.of_heap hh) own started (by kernel_rfl) Tryz.func3
    (ChangeSpec.witness_at (enc := enc) (C := Tryz.checked) (os := os) (X := fun w _ => laidMetH Tryz.prog laidList w) false (laidWorld os) #[.agg #[.int .i64 0, .slice none 0 0, .slice none 0 0, .slice none 0 0, .slice none 0 0], .int .u8 0, .int .i64 0] 8 rfl (by kernel_rfl) (by kernel_rfl) (by kernel_rfl) (by kernel_rfl) (by kernel_rfl) (laidWorld_met os _)) ?_
  intro W base args ds gs before hval0 hW _ _ hL _
  have hval : ∀ (j : Nat) t v, Tryz.f3.params[j]? = some t → args[j]? = some v → Value.okWide Tryz.prog W .any base t v := hval0
  have hW' := hW
  obtain ⟨p, q, hA0, hV0, rfl, hfz, hnd⟩ := hW
  have hA : DataW.TrodAll enc Tryz.prog W 0 (fun _ => true) true Tryz.f3.params.toList args.toList ds p := hA0
  have hV : DataW.TrodVars enc Tryz.prog W (fun _ => true) [] gs q := hV0
  rw [Tryz.params3] at hA hval
  obtain ⟨v0, v1, v2, d0, d1, d2, p0, p1, p2, rfl, rfl, rfl, h0, h1, h2⟩ := trodAll_three hA
  obtain ⟨rfl, rfl⟩ : gs = [] ∧ q = [] := by
    cases gs with
    | nil => exact ⟨rfl, hV⟩
    | cons g r => exact absurd hV (by intro h; cases h)
  have hlt0 : ∀ x ∈ p0, x.block < W.heap.size := fun x hx => hW'.lt x (by simp [hx])
  obtain ⟨dims, nv, av, kv, A, c, ns, ps, acs, ks, rfl, _, hn, hp, ha, hk, hpc, hnl, hpl, hal, hkl, hnc, hpi⟩ := view_open (hval 0 _ v0 rfl rfl) h0
  obtain ⟨k1, rfl, rfl, rfl, hwk1⟩ := open_int Tryz.underlying5 (hval 1 _ v1 rfl rfl) h1
  obtain ⟨k2, rfl, rfl, rfl, hwk2⟩ := open_int Tryz.underlying3 (hval 2 _ v2 rfl rfl) h2
  obtain ⟨hPh, hAu⟩ := start_of_laid hL
  have hb := bounds_u8 hwk1
  have e1 : Rows.auditUsageSpec.fn H ([d0, .lit (.int .u8 k1), .lit (.int .i64 k2)] ++ []) = { results := [.lit (.bool true)], args := [d0, .lit (.int .u8 k1), .lit (.int .i64 k2)] } := by simp [Rows.auditUsageSpec]
  refine (law26_AuditUsage dims nv av kv A c ns ps acs ks k1 k2 W hPh hAu hn hp ha hk hpc hnl hpl hal hkl hnc hpi hb.1 hb.2).mono fun e W' ⟨he', hb'⟩ => ?_
  subst he'
  refine ⟨_, rfl, _, [], _, [], p0 ++ ([] ++ []), [], hW', ?_, ?_, ?_, hb'.frame _, fun h => by cases h⟩
  · rw [e1]; exact trodAll_mk1 (shut_bool Tryz.underlying4 true)
  · rw [e1]; exact trodAll_mk3 (Below.trod laidOut (by kernel_rfl) (of_decide_eq_true (by kernel_rfl)) h0 hb' hlt0) (shut_int Tryz.underlying5 hwk1) (shut_int Tryz.underlying3 hwk2)
  · rw [e1]; rfl

theorem auditUsage_row : Rows.AuditUsageSaid :=
  OpenClaim.holds_of_wide 3 Tryz.f3 rfl rfl rfl rfl rfl rfl rfl ⟨rfl, rfl, rfl, rfl, rfl⟩ rfl rfl rfl rfl rfl (by kernel_rfl) Tryz.func3 (by kernel_rfl)
    (of_decide_eq_true (by kernel_rfl)) (by unfold Func.isWrapper; rw [if_neg (of_decide_eq_false (by kernel_rfl))]; exact ⟨rfl, rfl⟩)
    (fun os started H enc _ => law_lifted os started H enc)
end Go.Proofs.YteioleilblehiaaGreatDoor
