/- From a row's conditions to the walks' facts: the laid tables, the handle, the table of powers of ten; the wrap that keeps the world's shape. -/
import Derived.Test.YtcdhfelcgcnoiaaDoorRows
import Derived.Test.YtcdhfelcgcnoiaaDoorLaw02
import Derived.ProofKit
import Derived.LaidLaws
import Derived.LaidHandle
import Derived.Lib.LaidTab
import Derived.HandedShaped
import Derived.Stop.Joined
namespace Go.Proofs.YtcdhfelcgcnoiaaDoor
open Go.ChangeShapes Go.WideShapes Go.ChangeAt Go.RowKit

theorem wrap_shaped {H : Type} {enc : TypeId × Value → H} {a : Assume} {C : Checked} {os : Os} {f : FuncId} {fn : Func} {s : ChangeSpec} {conds : List PathCond} {apart fresh handsOn again : Bool} {X : World → Array Value → Prop}
    (hX : ∀ (w w' : World) (args : Array Value), w.heap = w'.heap → X w args → X w' args)
    (own : ownKnob C.prog.godebug = none) (started : os.Started) (noInit : C.prog.inits.idxOf? f = none) (hfn : C.prog.funcs[f]? = some fn)
    (witness : ∃ (w : World) (tape : Tape) (i : Input), w.os = os ∧ (w.forCall tape i).Shaped C.prog ∧ i.vars = [] ∧ Input.okWide C.prog (w.forCall tape i) .any w.heap.size f i ∧
      ((s.pre enc C.prog fn conds apart (w.forCall tape i).memory i.args ∧ X (w.forCall tape i).memory i.args) ∧ sizedMet enc C.prog fn (OpenSpec.ofChange s) apart (w.forCall tape i).memory i.args) ∧ a.holds C.prog (lone (Frame.enter C.prog f i.args .normal) [] (w.forCall tape i)))
    (contract : ∀ (W : World) (base : Nat) (args : Array Value) (ds gs : List (DataW H)) (before : List MemPlace),
      (∀ (j : Nat) t v, fn.params[j]? = some t → args[j]? = some v → Value.okWide C.prog W .any base t v) →
      DataW.Whole enc C.prog fn.params.toList s.vars apart W args.toList ds gs before →
      conds.all (PathCond.test C.prog ⟨fn.params.toList, ds, s.plain.varTypes C.prog, gs⟩) = true →
      (DataW.weightsEach C.prog (fn.params.toList ++ s.plain.varTypes C.prog) (ds ++ gs)).all (· ≤ reachBytes) = true → X W args → W.ShapedOpen C.prog →
      Calls C.prog f args W fun e W' => ∃ v, e = .returned v ∧ s.post enc C.prog fn apart fresh handsOn again W args v W') :
    ReturnsInHanded a C os f .any (fun w args => (s.pre enc C.prog fn conds apart w args ∧ X w args) ∧ sizedMet enc C.prog fn (OpenSpec.ofChange s) apart w args) (s.post enc C.prog fn apart fresh handsOn again) := by
  refine returnsInHanded_of_calls own started noInit witness ?_
  intro w tape i _ hsh _ hok hpre _
  obtain ⟨_, _, _, fn', hfn', _, _, _, _, hval⟩ := hok
  have e : fn' = fn := Option.some.inj (hfn'.symm.trans hfn)
  subst e
  obtain ⟨⟨⟨ds, gs, before, hw, hc⟩, hx⟩, hz⟩ := hpre
  have hw' := DataW.Whole.of_heap (w' := w.forCall tape i) (by rfl) hw
  refine (contract (w.forCall tape i) w.heap.size i.args ds gs before hval hw' hc (hz.weights hw) (hX _ _ _ (by rfl) hx) hsh).mono fun e W' ⟨v, he, hp⟩ => ?_
  subst he
  exact ChangeSpec.post_blind hp

/-- An array of strings that reads as the table holds the table's strings. -/
theorem cells_of_strs {H : Type} {enc : TypeId × Value → H} {P : Program} {w : World} {base : Nat} {sp : Nat → Bool} {held : Bool} {fuel : Nat} {t e : TypeId} {n : Nat} {cs : List Value} {zs : List (List UInt8)} {p : List MemPlace}
    (ht : P.underlying t = some (.array n e)) (he : P.underlying e = some .string) (hce : P.cellsOf e = 1) (hct : P.cellsOf t = n)
    (h : DataW.trod enc P w base sp held fuel t cs = some (.agg (zs.map fun z => .lit (.string z)), p)) : cs = zs.map fun z => Value.string ⟨z.toArray⟩ := by
  cases fuel with
  | zero => simp [DataW.trod] at h
  | succ fuel =>
    simp only [DataW.trod, ht, hce, hct, Nat.mul_one] at h
    split at h
    · rename_i hl
      obtain ⟨xs, hm, hx⟩ := Option.map_eq_some_iff.1 h
      have hxs : xs.map (·.1) = zs.map fun z => (DataW.lit (.string z) : DataW H) := by
        have := congrArg Prod.fst hx
        simpa using this
      have hxl : xs.length = n := by simpa using Lib.mapM_length hm
      have hzl : zs.length = n := by
        have := congrArg List.length hxs
        simp at this
        omega
      apply List.ext_getElem?
      intro i
      by_cases hi : i < n
      · obtain ⟨b, hb, hf⟩ := Lib.mapM_at hm i i (by simp [hi])
        obtain ⟨s, hc, hz, _⟩ := DataW.trod_string he hf
        have h1 : cs[i]? = some (.string s) := by
          have := congrArg (·[0]?) hc
          simpa [List.getElem?_take, List.getElem?_drop] using this
        have h2 : (xs.map (·.1))[i]? = some b.1 := by simp [hb]
        rw [hxs, hz] at h2
        simp only [List.getElem?_map, Option.map_eq_some_iff, DataW.lit.injEq, Lit.string.injEq] at h2
        obtain ⟨z', hz', e⟩ := h2
        rw [h1, List.getElem?_map, hz', Option.map_some, e]
      · rw [List.getElem?_eq_none (by omega), List.getElem?_eq_none (by simp; omega)]
    · cases h

theorem gn_et : Tryd.prog.globalNamed "errors.errorType" = some 0 := by kernel_rfl
theorem gn_rt : (Tryd.prog.cutTypes.find? (·.1 == "internal/reflectlite.rtype")).map (·.2) = some 74 := by kernel_rfl
theorem gn_row : ((List.range Tryd.prog.types.size).filter fun t => Tryd.prog.rowNamed t [101, 114, 114, 111, 114]) = [27] := by kernel_rfl
theorem gn_names : Tryd.prog.globalNamed "hammock/fault.names" = some 1 := by kernel_rfl
theorem gn_kinds : Tryd.prog.globalNamed "hammock/fault.kinds" = some 2 := by kernel_rfl
theorem heap_of_var {P : Program} {W : World} {name : String} {g : Nat} {cs : Array Value} (hg : P.globalNamed name = some g) (h : W.var? P name = some cs) : ∃ ty fr, W.heap[g]? = some (.cells cs ty fr) := by
  unfold World.var? at h
  rw [hg, Option.bind_some] at h
  split at h
  · rename_i hh
    cases h
    exact ⟨_, _, hh⟩
  · cases h
theorem start_of_laid {W : World} (h : laidMetH Tryd.prog [("errors.errorType", Rows.laid_errors_errorType), ("hammock/fault.names", Rows.laid_hammock_fault_names), ("hammock/fault.kinds", Rows.laid_hammock_fault_kinds)] W) : ErrTy W ∧ NamesAt W ∧ KindsAt W := by
  have h' : laidMet Tryd.prog [("hammock/fault.names", Rows.laid_hammock_fault_names), ("hammock/fault.kinds", Rows.laid_hammock_fault_kinds)] W ∧ handlesMet Tryd.prog [("errors.errorType", Rows.laid_errors_errorType)] W := h
  refine ⟨?_, ?_, ?_⟩
  · obtain ⟨name, u, ty, e1, e2, e3, e4, e5⟩ := h'.2 _ (List.mem_singleton.2 rfl)
    have en : name = [101, 114, 114, 111, 114] := (Option.some.inj e1).symm
    subst en
    obtain rfl := Option.some.inj (gn_rt.symm.trans e2)
    have hm : ty ∈ (List.range Tryd.prog.types.size).filter fun t => Tryd.prog.rowNamed t [101, 114, 114, 111, 114] := List.mem_filter.2 ⟨List.mem_range.2 e3, e4⟩
    rw [gn_row] at hm
    obtain rfl := List.mem_singleton.1 hm
    have hh : typeHandle Tryd.prog 27 = .pointer (some ⟨6, 27, none⟩) := by kernel_rfl
    rw [hh] at e5
    have := World.var?_cell gn_et e5 0
    unfold ErrTy
    simpa using this
  · obtain ⟨ps, ⟨g', t', cs, fuel, p, q, hg', ht', hvar, hd, _, _⟩, _⟩ := h'.1
    obtain rfl := Option.some.inj (gn_names.symm.trans hg')
    have hty : (Tryd.prog.globals[1]?).map (·.type) = some 70 := by kernel_rfl
    obtain rfl := Option.some.inj (hty.symm.trans ht')
    have ec := cells_of_strs (zs := [[], [107, 105, 110, 100], [105, 100], [97, 109, 111, 117, 110, 116], [110, 117, 109, 98, 101, 114], [117, 110, 107, 110, 111, 119, 110], [100, 117, 112, 108, 105, 99, 97, 116, 101], [102, 117, 108, 108], [112, 104, 97, 115, 101], [115, 121, 110, 116, 97, 120], [111, 118, 101, 114, 102, 108, 111, 119]]) Tryd.underlying70 Tryd.underlying9 (by kernel_rfl) (by kernel_rfl) hd
    obtain ⟨ty, fr, hh⟩ := heap_of_var gn_names hvar
    have e2 := congrArg List.toArray ec
    rw [Array.toArray_toList] at e2
    rw [e2] at hh
    exact ⟨ty, fr, hh⟩
  · obtain ⟨ps, ⟨_, _, _, _, _, _, _, _, _, _, ⟨g', t', cs, fuel, p, q, hg', ht', hvar, hd, _, _⟩, _⟩, _⟩ := h'.1
    obtain rfl := Option.some.inj (gn_kinds.symm.trans hg')
    have hty : (Tryd.prog.globals[2]?).map (·.type) = some 71 := by kernel_rfl
    obtain rfl := Option.some.inj (hty.symm.trans ht')
    have ec := cells_of_strs (zs := [[], [99, 108, 97, 115, 115], [110, 111, 100, 101], [100, 114, 111, 112], [112, 111, 100], [100, 101, 108, 101, 116, 101], [116, 105, 99, 107], [99, 121, 99, 108, 101]]) Tryd.underlying71 Tryd.underlying9 (by kernel_rfl) (by kernel_rfl) hd
    obtain ⟨ty, fr, hh⟩ := heap_of_var gn_kinds hvar
    have e2 := congrArg List.toArray ec
    rw [Array.toArray_toList] at e2
    rw [e2] at hh
    exact ⟨ty, fr, hh⟩

theorem u64_of_ok {P : Program} {W : World} {u : TypeId} {v : Value} (hu : P.underlying u = some (.int .u64)) (h : Cell.ok P W .any 0 u v) : ∃ n : Nat, v = .int .u64 n ∧ n < 18446744073709551616 := by
  unfold Cell.ok at h
  rw [hu] at h
  cases v <;> simp at h
  case int k n =>
    obtain ⟨rfl, h⟩ := h
    have e1 : IntKind.u64.min = 0 := by decide
    have e2 : IntKind.u64.max = 18446744073709551615 := by decide
    unfold IntKind.has at h
    rw [e1, e2] at h
    exact ⟨n.toNat, by rw [show ((n.toNat : Nat) : Int) = n by omega], by omega⟩
set_option maxRecDepth 100000 in
theorem tab_of_shape {W : World} (h : W.ShapedOpen Tryd.prog) : ∃ T, TabAt W T := by
  have hz : ((begin Tryd.prog (fun _ _ => 0) default).world.heap[3]?).bind Obj.row? = some (Array.replicate 20 (.int .u64 0), 111) := by kernel_rfl
  obtain ⟨cs, hh, hs, hr⟩ := h.1 3 _ _ (of_decide_eq_true (by kernel_rfl)) hz
  obtain ⟨ts, hts, _, hall⟩ := hr (by kernel_rfl)
  have hct : Tryd.prog.cellTypes Tryd.prog.depth 111 = some (List.replicate 20 103) := by kernel_rfl
  rw [hct] at hts
  cases hts
  have hk : ∀ i : Nat, ∃ n : Nat, i < 20 → cs[i]? = some (.int .u64 n) ∧ n < 18446744073709551616 := by
    intro i
    by_cases hi : i < 20
    · have h1 : i < cs.size := by rw [hs, Array.size_replicate]; exact hi
      obtain ⟨u, hu', hok⟩ := hall i cs[i] (by simp [h1])
      rw [List.length_replicate, Nat.mod_eq_of_lt hi, List.getElem?_replicate, if_pos hi] at hu'
      obtain rfl := Option.some.inj hu'
      obtain ⟨n, hv, hn⟩ := u64_of_ok Tryd.underlying103 hok
      exact ⟨n, fun _ => ⟨by rw [← hv]; simp [h1], hn⟩⟩
    · exact ⟨0, fun h => absurd h hi⟩
  obtain ⟨T, hT⟩ := Classical.axiomOfChoice hk
  exact ⟨T, cs, _, _, hh, hT⟩
end Go.Proofs.YtcdhfelcgcnoiaaDoor
