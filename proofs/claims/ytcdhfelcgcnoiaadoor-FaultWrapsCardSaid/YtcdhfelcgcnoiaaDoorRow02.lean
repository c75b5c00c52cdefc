/- The row of FaultWraps: for every start in which the three listed variables hold what the program lays, the law returns true and its arguments read as before. -/
import Derived.Test.YtcdhfelcgcnoiaaDoorFrame
import Derived.OpenShut
import Derived.Carry
import Derived.ChangeSame
import Derived.ChangeVars
import Derived.JoinedOf
import Derived.RowKit
import Derived.RowKitTokens
import Derived.Handed
namespace Go.Proofs.YtcdhfelcgcnoiaaDoor
open Go.ChangeShapes Go.WideShapes Go.ChangeAt Go.RowKit

theorem own : ownKnob Tryd.prog.godebug = none := by kernel_rfl
theorem laidOut : laidOutB Tryd.prog = true := by kernel_rfl

/-- A slice of ints that reads, as a list. -/
theorem i64s_of_trod {H : Type} {enc : TypeId × Value → H} {W : World} {base : Nat} {sp : Nat → Bool} {held : Bool} {t e : TypeId} {fuel : Nat} {cs : List Value} {x : DataW H × List MemPlace}
    (ht : Tryd.prog.underlying t = some (.slice e)) (he : Tryd.prog.underlying e = some (.int .i64)) (hc : Tryd.prog.cellsOf e = 1) (h : DataW.trod enc Tryd.prog W base sp held fuel t cs = some x) :
    ∃ v xs, cs = [v] ∧ I64s W v xs ∧ xs.length ≤ 9223372036854775807 := by
  rcases open_ints ht he hc h with ⟨rfl, _⟩ | ⟨a, len, cap, zs, rfl, _, hl, hm, hz, _, hcell, _⟩
  · exact ⟨_, [], rfl, I64s.nil W, by simp⟩
  · have hlen : len ≤ zs.length := by rw [hz]; split <;> omega
    have hmax : maxLen = 9223372036854775807 := by decide
    refine ⟨_, zs.take len, rfl, ⟨some a, cap, by rw [List.length_take, Nat.min_eq_left hlen], fun i hi => ?_⟩, by rw [List.length_take]; omega⟩
    rw [List.length_take, Nat.min_eq_left hlen] at hi
    have h1 := hcell i (by omega)
    obtain ⟨b, off, spot⟩ := a
    have hspot : spot = none := by simpa [Addr.add] using World.cell?_spot (hcell 0 (by omega))
    subst hspot
    refine ⟨b, off, rfl, ?_⟩
    rw [← Lib.add_plain, h1]
    simp [List.getD_eq_getElem?_getD, hi]

set_option maxRecDepth 100000 in
theorem open_arg {H : Type} {enc : TypeId × Value → H} {W : World} {base : Nat} {sp : Nat → Bool} {held : Bool} {v0 : Value} {d : DataW H} {p : List MemPlace}
    (hv : Value.okWide Tryd.prog W .any base 24 v0) (h : DataW.Trod enc Tryd.prog W 0 sp held 24 v0 d p) :
    ∃ nl v xs c a fl, v0 = .agg #[.bool nl, v, .int .i64 c, .int .i64 a, .bool fl] ∧ I64s W v xs ∧ xs.length ≤ 9223372036854775807 ∧ -9223372036854775808 ≤ c ∧ c ≤ 9223372036854775807 := by
  unfold Value.okWide at hv
  rw [Tryd.underlying24] at hv
  obtain ⟨cs, rfl, hsz, _⟩ := hv
  obtain ⟨fuel, h⟩ := h
  have h' : DataW.trod enc Tryd.prog W 0 sp held fuel 24 cs.toList = some (d, p) := h
  obtain ⟨xs, n, rfl, _, hl, hxl, hf⟩ := DataW.trod_struct Tryd.underlying24 h'
  have hc5 : Tryd.prog.cellsOf 24 = 5 := by kernel_rfl
  rw [hc5] at hsz hl
  have e0 : DataW.trod enc Tryd.prog W 0 sp held n 4 ((cs.toList.drop 0).take (Tryd.prog.cellsOf 4)) = xs[0]? := hf 0 _ rfl
  have e1 : DataW.trod enc Tryd.prog W 0 sp held n 22 ((cs.toList.drop 1).take (Tryd.prog.cellsOf 22)) = xs[1]? := hf 1 _ rfl
  have e2 : DataW.trod enc Tryd.prog W 0 sp held n 3 ((cs.toList.drop 2).take (Tryd.prog.cellsOf 3)) = xs[2]? := hf 2 _ rfl
  have e3 : DataW.trod enc Tryd.prog W 0 sp held n 3 ((cs.toList.drop 3).take (Tryd.prog.cellsOf 3)) = xs[3]? := hf 3 _ rfl
  have e4 : DataW.trod enc Tryd.prog W 0 sp held n 4 ((cs.toList.drop 4).take (Tryd.prog.cellsOf 4)) = xs[4]? := hf 4 _ rfl
  have k1 : Tryd.prog.cellsOf 4 = 1 := by kernel_rfl
  have k2 : Tryd.prog.cellsOf 22 = 1 := by kernel_rfl
  have k3 : Tryd.prog.cellsOf 3 = 1 := by kernel_rfl
  rw [k1] at e0 e4
  rw [k2] at e1
  rw [k3] at e2 e3
  have hx : ∀ i, i < 5 → ∃ y, xs[i]? = some y := fun i hi => ⟨xs[i]'(by rw [hxl]; exact hi), by simp⟩
  obtain ⟨y0, z0⟩ := hx 0 (by omega)
  obtain ⟨y1, z1⟩ := hx 1 (by omega)
  obtain ⟨y2, z2⟩ := hx 2 (by omega)
  obtain ⟨y3, z3⟩ := hx 3 (by omega)
  obtain ⟨y4, z4⟩ := hx 4 (by omega)
  rw [z0] at e0; rw [z1] at e1; rw [z2] at e2; rw [z3] at e3; rw [z4] at e4
  obtain ⟨b0, w0, _⟩ := DataW.trod_bool Tryd.underlying4 e0
  obtain ⟨v1, ks, w1, hs, hks⟩ := i64s_of_trod Tryd.underlying22 Tryd.underlying3 k3 e1
  obtain ⟨n2, w2, _, wf2⟩ := DataW.trod_int Tryd.underlying3 e2
  obtain ⟨n3, w3, _, _⟩ := DataW.trod_int Tryd.underlying3 e3
  obtain ⟨b4, w4, _⟩ := DataW.trod_bool Tryd.underlying4 e4
  have hb := bounds_i64 wf2
  refine ⟨b0, v1, ks, n2, n3, b4, ?_, hs, hks, hb.1, hb.2⟩
  congr 1
  apply Array.ext'
  apply List.ext_getElem?
  intro i
  have q : ∀ j u, (cs.toList.drop j).take 1 = [u] → cs.toList[j]? = some u := fun j u hq => by
    have := congrArg (·[0]?) hq
    simpa [List.getElem?_take, List.getElem?_drop] using this
  match i with
  | 0 => exact q 0 _ w0
  | 1 => exact q 1 _ w1
  | 2 => exact q 2 _ w2
  | 3 => exact q 3 _ w3
  | 4 => exact q 4 _ w4
  | i + 5 => rw [List.getElem?_eq_none (by omega), List.getElem?_eq_none (by simp)]

noncomputable abbrev laidList : List (String × DataW Unit) := [("errors.errorType", Rows.laid_errors_errorType), ("hammock/fault.names", Rows.laid_hammock_fault_names), ("hammock/fault.kinds", Rows.laid_hammock_fault_kinds)]

/-- A world that meets the condition: the settled one, the three variables laid. -/
noncomputable def laidWorld (os : Os) : World :=
  let w0 := World.holding Tryd.prog os ⟨#[], #[], []⟩
  { w0 with heap := ((w0.heap.modify 0 fun
      | .cells _ t frozen => .cells #[.iface 74 (.agg #[.pointer (some ⟨6, 27, none⟩)])] t frozen
      | o => o).modify 1 fun
      | .cells _ t frozen => .cells #[.string ⟨#[]⟩, .string ⟨#[107, 105, 110, 100]⟩, .string ⟨#[105, 100]⟩, .string ⟨#[97, 109, 111, 117, 110, 116]⟩, .string ⟨#[110, 117, 109, 98, 101, 114]⟩, .string ⟨#[117, 110, 107, 110, 111, 119, 110]⟩, .string ⟨#[100, 117, 112, 108, 105, 99, 97, 116, 101]⟩, .string ⟨#[102, 117, 108, 108]⟩, .string ⟨#[112, 104, 97, 115, 101]⟩, .string ⟨#[115, 121, 110, 116, 97, 120]⟩, .string ⟨#[111, 118, 101, 114, 102, 108, 111, 119]⟩] t frozen
      | o => o).modify 2 fun
      | .cells _ t frozen => .cells #[.string ⟨#[]⟩, .string ⟨#[99, 108, 97, 115, 115]⟩, .string ⟨#[110, 111, 100, 101]⟩, .string ⟨#[100, 114, 111, 112]⟩, .string ⟨#[112, 111, 100]⟩, .string ⟨#[100, 101, 108, 101, 116, 101]⟩, .string ⟨#[116, 105, 99, 107]⟩, .string ⟨#[99, 121, 99, 108, 101]⟩] t frozen
      | o => o }
theorem laidWorld_met (os : Os) (args : Array Value) : laidMetH Tryd.prog laidList ((laidWorld os).forCall (fun _ _ => 0) ⟨#[], args, []⟩).memory :=
  laidMetH_of_parts (laidMet_of_run' 9 (by kernel_rfl) (by kernel_rfl)) (by kernel_rfl)

set_option maxRecDepth 100000 in
theorem law_lifted (os : Os) (started : os.Started) (H : Type) (enc : TypeId × Value → H) :
    ReturnsInHanded {} Tryd.checked os 4 .any (fun w args => (Rows.faultWrapsSpec.pre enc Tryd.prog Tryd.f4 [] false w args ∧ laidMetH Tryd.prog laidList w) ∧ sizedMet enc Tryd.prog Tryd.f4 (OpenSpec.ofChange Rows.faultWrapsSpec) false w args)
      (Rows.faultWrapsSpec.post enc Tryd.prog Tryd.f4 false true false false) := by
  refine wrap_shaped (C := Tryd.checked) (X := fun w _ => laidMetH Tryd.prog laidList w) (fun _ _ _ hh h => h.of_heap hh) own started (by kernel_rfl) Tryd.func4
    (ChangeSpec.witness_at (enc := enc) (C := Tryd.checked) (os := os) (X := fun w _ => laidMetH Tryd.prog laidList w) false (laidWorld os) #[.agg #[.bool false, .slice none 0 0, .int .i64 0, .int .i64 0, .bool false], .int .i64 0] 8 rfl (by kernel_rfl) (by kernel_rfl) (by kernel_rfl) (by kernel_rfl) (by kernel_rfl) (laidWorld_met os _)) ?_
  intro W base args ds gs before hval0 hW _ _ hL hsh
  have hval : ∀ (j : Nat) t v, Tryd.f4.params[j]? = some t → args[j]? = some v → Value.okWide Tryd.prog W .any base t v := hval0
  have hW' := hW
  obtain ⟨p, q, hA0, hV0, rfl, hfz, hnd⟩ := hW
  have hA : DataW.TrodAll enc Tryd.prog W 0 (fun _ => true) true Tryd.f4.params.toList args.toList ds p := hA0
  have hV : DataW.TrodVars enc Tryd.prog W (fun _ => true) [] gs q := hV0
  rw [Tryd.params4] at hA hval
  obtain ⟨v0, v1, d0, d1, p0, p1, rfl, rfl, rfl, h0, h1⟩ := trodAll_two hA
  obtain ⟨rfl, rfl⟩ : gs = [] ∧ q = [] := by
    cases gs with
    | nil => exact ⟨rfl, hV⟩
    | cons g r => exact absurd hV (by intro h; cases h)
  have hlt0 : ∀ x ∈ p0, x.block < W.heap.size := fun x hx => hW'.lt x (by simp [hx])
  obtain ⟨nl, v, xs, c, a, fl, rfl, hs, hm, hc0, hc1⟩ := open_arg (hval 0 _ v0 rfl rfl) h0
  obtain ⟨k, rfl, rfl, rfl, hwk⟩ := open_int Tryd.underlying3 (hval 1 _ v1 rfl rfl) h1
  obtain ⟨he, hn, hk⟩ := start_of_laid hL
  obtain ⟨T, ht⟩ := tab_of_shape hsh
  have e1 : Rows.faultWrapsSpec.fn H ([d0, .lit (.int .i64 k)] ++ []) = { results := [.lit (.bool true)], args := [d0, .lit (.int .i64 k)] } := by simp [Rows.faultWrapsSpec]
  refine (law02_FaultWraps T nl fl c a k v xs W he hk hn ht hs hm hc0 hc1).mono fun e W' ⟨he', hb⟩ => ?_
  subst he'
  refine ⟨_, rfl, _, [], _, [], p0 ++ [], [], hW', ?_, ?_, ?_, hb.frame _, fun h => by cases h⟩
  · rw [e1]; exact trodAll_mk1 (shut_bool Tryd.underlying4 true)
  · rw [e1]; exact trodAll_mk2 (Below.trod laidOut (by kernel_rfl) (of_decide_eq_true (by kernel_rfl)) h0 hb hlt0) (shut_int Tryd.underlying3 hwk)
  · rw [e1]; rfl

theorem faultWraps_row : Rows.FaultWrapsSaid :=
  OpenClaim.holds_of_wide 4 Tryd.f4 rfl rfl rfl rfl rfl rfl rfl ⟨rfl, rfl, rfl, rfl, rfl⟩ rfl rfl rfl rfl rfl (by kernel_rfl) Tryd.func4 (by kernel_rfl)
    (of_decide_eq_true (by kernel_rfl)) (by unfold Func.isWrapper; rw [if_neg (of_decide_eq_false (by kernel_rfl))]; exact ⟨rfl, rfl⟩)
    (fun os started H enc _ => law_lifted os started H enc)
end Go.Proofs.YtcdhfelcgcnoiaaDoor
