/- A view that comes in, opened: nodes, pods, active, parked. -/
import Derived.Test.YteioleilblehiaaGreatDoorFew26
import Derived.Test.YteioleilblehiaaGreatDoorMaps
import Derived.Deep.Slices
import Derived.OpenShut
import Derived.ChangeSame
import Derived.WideShapes
namespace Go.Proofs.YteioleilblehiaaGreatDoor
open Go.ChangeShapes Go.WideShapes Go.ChangeAt Go.RowKit Go.Deep

section
variable {H : Type} {enc : TypeId × Value → H} {W : World} {sp : Nat → Bool} {held : Bool} {n : Nat} {cs : List Value} {xs : List (DataW H × List MemPlace)} {j : Nat}
theorem at_of_drop {u : Value} (h : (cs.drop j).take 1 = [u]) : cs[j]? = some u := by
  have := congrArg (·[0]?) h
  simpa [List.getElem?_take, List.getElem?_drop] using this
theorem fld_int (h : DataW.trod enc Tryz.prog W 0 sp held n 3 ((cs.drop j).take 1) = xs[j]?) (hl : j < xs.length) : ∃ m, cs[j]? = some (.int .i64 m) ∧ in64 m := by
  rw [List.getElem?_eq_getElem hl] at h
  obtain ⟨m, e, _, wf⟩ := DataW.trod_int Tryz.underlying3 h
  exact ⟨m, at_of_drop e, bounds_i64 wf⟩
theorem fld_bool (h : DataW.trod enc Tryz.prog W 0 sp held n 4 ((cs.drop j).take 1) = xs[j]?) (hl : j < xs.length) : ∃ m, cs[j]? = some (.bool m) := by
  rw [List.getElem?_eq_getElem hl] at h
  obtain ⟨m, e, _⟩ := DataW.trod_bool Tryz.underlying4 h
  exact ⟨m, at_of_drop e⟩
/-- A slice of ints that reads, as a list. -/
theorem ints_open {t e : TypeId} {fuel : Nat} {x : DataW H × List MemPlace} (ht : Tryz.prog.underlying t = some (.slice e)) (he : Tryz.prog.underlying e = some (.int .i64)) (hc : Tryz.prog.cellsOf e = 1) (h : DataW.trod enc Tryz.prog W 0 sp held fuel t cs = some x) :
    ∃ v ys, cs = [v] ∧ I64s W v ys ∧ ys.length ≤ 9223372036854775807 ∧ (∀ y, y ∈ ys → in64 y) ∧ ∃ A c, v = .slice A ys.length c ∧ ys.length ≤ c := by
  rcases open_ints ht he hc h with ⟨rfl, _⟩ | ⟨a, len, cap, zs, rfl, _, hl, hm, hz, _, hcell, hwf⟩
  · exact ⟨_, [], rfl, I64s.nil W, by simp, fun y h => by simp at h, _, 0, rfl, Nat.le_refl _⟩
  · have hlen : len ≤ zs.length := by rw [hz]; split <;> omega
    have hmax : maxLen = 9223372036854775807 := by decide
    have htl : (zs.take len).length = len := by rw [List.length_take, Nat.min_eq_left hlen]
    refine ⟨_, zs.take len, rfl, ⟨some a, cap, by rw [htl], fun i hi => ?_⟩, by rw [htl]; omega, fun y hy => bounds_i64 (hwf y (List.mem_of_mem_take hy)), _, cap, by rw [htl], by rw [htl]; exact hl⟩
    rw [htl] at hi
    have h1 := hcell i (by omega)
    obtain ⟨b, off, spot⟩ := a
    have hspot : spot = none := by simpa [Addr.add] using World.cell?_spot (hcell 0 (by omega))
    subst hspot
    refine ⟨b, off, rfl, ?_⟩
    rw [← WideShapes.add_plain, h1]
    simp [List.getD_eq_getElem?_getD, hi]
theorem fld_ints {t e : TypeId} (ht : Tryz.prog.underlying t = some (.slice e)) (he : Tryz.prog.underlying e = some (.int .i64)) (hc : Tryz.prog.cellsOf e = 1) (h : DataW.trod enc Tryz.prog W 0 sp held n t ((cs.drop j).take 1) = xs[j]?) (hl : j < xs.length) :
    ∃ v ys, cs[j]? = some v ∧ I64s W v ys ∧ ys.length ≤ 9223372036854775807 ∧ (∀ y, y ∈ ys → in64 y) ∧ ∃ A c, v = .slice A ys.length c ∧ ys.length ≤ c := by
  rw [List.getElem?_eq_getElem hl] at h
  obtain ⟨v, ys, e, rest⟩ := ints_open ht he hc h
  exact ⟨v, ys, at_of_drop e, rest⟩
end
theorem k_int : Tryz.prog.cellsOf 3 = 1 := by kernel_rfl
theorem k_i64 : Tryz.prog.cellsOf 2 = 1 := by kernel_rfl
theorem k_bool : Tryz.prog.cellsOf 4 = 1 := by kernel_rfl
theorem k_sl : Tryz.prog.cellsOf 29 = 1 := by kernel_rfl
theorem k_sli : Tryz.prog.cellsOf 24 = 1 := by kernel_rfl
theorem k_pods : Tryz.prog.cellsOf 23 = 1 := by kernel_rfl
theorem k_nodes : Tryz.prog.cellsOf 22 = 1 := by kernel_rfl
theorem k_pod : Tryz.prog.cellsOf 31 = 9 := by kernel_rfl
theorem k_node : Tryz.prog.cellsOf 40 = 2 := by kernel_rfl
theorem k_view : Tryz.prog.cellsOf 26 = 5 := by kernel_rfl
/-- What a pod that came in has. -/
def PodIn (p : PodR) : Prop := in64 p.id ∧ in64 p.node ∧ p.req.length ≤ 9223372036854775807 ∧ ∀ y, y ∈ p.req → in64 y
set_option maxRecDepth 100000 in
theorem pod_open {H : Type} {enc : TypeId × Value → H} {W : World} {sp : Nat → Bool} {held : Bool} {fuel : Nat} {cs : List Value} {x : DataW H × List MemPlace} (h : DataW.trod enc Tryz.prog W 0 sp held fuel 31 cs = some x) :
    ∃ (p : PodR) (rv : Value), PodIn p ∧ I64s W rv p.req ∧ cs[0]? = some (.int .i64 p.id) ∧ cs[1]? = some (.int .i64 p.prio) ∧ cs[2]? = some (.bool p.pre) ∧ cs[3]? = some (.int .i64 p.grace) ∧ cs[4]? = some rv ∧ cs[5]? = some (.int .i64 p.arr) ∧ cs[6]? = some (.int .i64 p.phase) ∧ cs[7]? = some (.int .i64 p.node) ∧ cs[8]? = some (.int .i64 p.dl) := by
  obtain ⟨xs, n, _, _, _, hxl, hf⟩ := DataW.trod_struct Tryz.underlying31 h
  have hxl' : xs.length = 9 := hxl
  have e0 : DataW.trod enc Tryz.prog W 0 sp held n 3 ((cs.drop 0).take (Tryz.prog.cellsOf 3)) = xs[0]? := hf 0 _ rfl
  rw [k_int] at e0
  have e1 : DataW.trod enc Tryz.prog W 0 sp held n 3 ((cs.drop 1).take (Tryz.prog.cellsOf 3)) = xs[1]? := hf 1 _ rfl
  rw [k_int] at e1
  have e2 : DataW.trod enc Tryz.prog W 0 sp held n 4 ((cs.drop 2).take (Tryz.prog.cellsOf 4)) = xs[2]? := hf 2 _ rfl
  rw [k_bool] at e2
  have e3 : DataW.trod enc Tryz.prog W 0 sp held n 3 ((cs.drop 3).take (Tryz.prog.cellsOf 3)) = xs[3]? := hf 3 _ rfl
  rw [k_int] at e3
  have e4 : DataW.trod enc Tryz.prog W 0 sp held n 29 ((cs.drop 4).take (Tryz.prog.cellsOf 29)) = xs[4]? := hf 4 _ rfl
  rw [k_sl] at e4
  have e5 : DataW.trod enc Tryz.prog W 0 sp held n 3 ((cs.drop 5).take (Tryz.prog.cellsOf 3)) = xs[5]? := hf 5 _ rfl
  rw [k_int] at e5
  have e6 : DataW.trod enc Tryz.prog W 0 sp held n 3 ((cs.drop 6).take (Tryz.prog.cellsOf 3)) = xs[6]? := hf 6 _ rfl
  rw [k_int] at e6
  have e7 : DataW.trod enc Tryz.prog W 0 sp held n 3 ((cs.drop 7).take (Tryz.prog.cellsOf 3)) = xs[7]? := hf 7 _ rfl
  rw [k_int] at e7
  have e8 : DataW.trod enc Tryz.prog W 0 sp held n 3 ((cs.drop 8).take (Tryz.prog.cellsOf 3)) = xs[8]? := hf 8 _ rfl
  rw [k_int] at e8
  obtain ⟨m0, f0, b0⟩ := fld_int e0 (by omega)
  obtain ⟨m1, f1, b1⟩ := fld_int e1 (by omega)
  obtain ⟨m2, f2⟩ := fld_bool e2 (by omega)
  obtain ⟨m3, f3, b3⟩ := fld_int e3 (by omega)
  obtain ⟨v4, ys, f4, hI, hyl, hyr, _⟩ := fld_ints Tryz.underlying29 Tryz.underlying2 k_i64 e4 (by omega)
  obtain ⟨m5, f5, b5⟩ := fld_int e5 (by omega)
  obtain ⟨m6, f6, b6⟩ := fld_int e6 (by omega)
  obtain ⟨m7, f7, b7⟩ := fld_int e7 (by omega)
  obtain ⟨m8, f8, b8⟩ := fld_int e8 (by omega)
  exact ⟨⟨m0, m1, m2, m3, ys, m5, m6, m7, m8⟩, v4, ⟨b0, b7, hyl, hyr⟩, hI, f0, f1, f2, f3, f4, f5, f6, f7, f8⟩
set_option maxRecDepth 100000 in
theorem node_open {H : Type} {enc : TypeId × Value → H} {W : World} {sp : Nat → Bool} {held : Bool} {fuel : Nat} {cs : List Value} {x : DataW H × List MemPlace} (h : DataW.trod enc Tryz.prog W 0 sp held fuel 40 cs = some x) :
    ∃ (p : NodeR) (rv : Value), p.cap.length ≤ 9223372036854775807 ∧ I64s W rv p.cap ∧ cs[0]? = some (.int .i64 p.id) ∧ cs[1]? = some rv := by
  obtain ⟨xs, n, _, _, _, hxl, hf⟩ := DataW.trod_struct Tryz.underlying40 h
  have hxl' : xs.length = 2 := hxl
  have e0 : DataW.trod enc Tryz.prog W 0 sp held n 3 ((cs.drop 0).take (Tryz.prog.cellsOf 3)) = xs[0]? := hf 0 _ rfl
  rw [k_int] at e0
  have e1 : DataW.trod enc Tryz.prog W 0 sp held n 29 ((cs.drop 1).take (Tryz.prog.cellsOf 29)) = xs[1]? := hf 1 _ rfl
  rw [k_sl] at e1
  obtain ⟨m0, f0, _⟩ := fld_int e0 (by omega)
  obtain ⟨v1, ys, f1, hI, hyl, _, _⟩ := fld_ints Tryz.underlying29 Tryz.underlying2 k_i64 e1 (by omega)
  exact ⟨⟨m0, ys⟩, v1, hyl, hI, f0, f1⟩
theorem pods_open {H : Type} {enc : TypeId × Value → H} {W : World} {sp : Nat → Bool} {held : Bool} {fuel : Nat} {cs : List Value} {x : DataW H × List MemPlace} (h : DataW.trod enc Tryz.prog W 0 sp held fuel 23 cs = some x) :
    ∃ A c ps, cs = [.slice A ps.length c] ∧ Pods W (.slice A ps.length c) ps ∧ ps.length ≤ c ∧ ps.length ≤ 9223372036854775807 ∧ ∀ p, p ∈ ps → PodIn p := by
  rcases open_slice Tryz.underlying23 h with ⟨rfl, _⟩ | ⟨a, len, cap, m, n, D, Pl, rfl, _, hl, hm, hmm, _, hi⟩
  · exact ⟨none, 0, [], rfl, Pods.nil W, Nat.le_refl _, by simp, fun p h => by simp at h⟩
  · have hmax : maxLen = 9223372036854775807 := by decide
    have hlm : len ≤ m := by rw [hmm]; split <;> omega
    have hc : ∀ i : Nat, ∃ p : PodR, ∃ rv : Value, i < len → PodIn p ∧ I64s W rv p.req ∧ ∀ j, j < 9 → W.cell? (a.add (i * 9 + j)) = some (match j with | 0 => .int .i64 p.id | 1 => .int .i64 p.prio | 2 => .bool p.pre | 3 => .int .i64 p.grace | 4 => rv | 5 => .int .i64 p.arr | 6 => .int .i64 p.phase | 7 => .int .i64 p.node | _ => .int .i64 p.dl) := by
      intro i
      by_cases hil : i < len
      · obtain ⟨cs', hcs, htr⟩ := hi i (by omega)
        obtain ⟨p, rv, hp, hI, f0, f1, f2, f3, f4, f5, f6, f7, f8⟩ := pod_open htr
        rw [k_pod] at hcs
        obtain ⟨_, _, hat⟩ := World.cells?_some hcs
        refine ⟨p, rv, fun _ => ⟨hp, hI, fun j hj => ?_⟩⟩
        have := hat j hj
        rw [Deep.add_add] at this
        rw [this]
        match j, hj with
        | 0, _ => exact f0
        | 1, _ => exact f1
        | 2, _ => exact f2
        | 3, _ => exact f3
        | 4, _ => exact f4
        | 5, _ => exact f5
        | 6, _ => exact f6
        | 7, _ => exact f7
        | 8, _ => exact f8
      · exact ⟨pod0, .nilIface, fun h => absurd h hil⟩
    obtain ⟨pf, hpf⟩ := Classical.axiomOfChoice hc
    obtain ⟨rf, hrf⟩ := Classical.axiomOfChoice hpf
    have hll : ((List.range len).map pf).length = len := by simp
    refine ⟨some a, cap, (List.range len).map pf, by rw [hll], ⟨some a, cap, by rw [hll], fun i hil => ?_⟩, by rw [hll]; exact hl, by rw [hll]; omega, fun p hp => ?_⟩
    · rw [hll] at hil
      obtain ⟨hp, hI, hat⟩ := hrf i hil
      have hg : ((List.range len).map pf).getD i pod0 = pf i := by simp [List.getD_eq_getElem?_getD, hil]
      rw [hg]
      obtain ⟨b, off, spot⟩ := a
      have hsp0 := (hrf 0 (by omega)).2.2 0 (by omega)
      have hspot : spot = none := by simpa [Addr.add] using World.cell?_spot hsp0
      subst hspot
      simp only [WideShapes.add_plain, ← Nat.add_assoc] at hat
      exact ⟨b, off, rf i, rfl, hat 0 (by omega), hat 1 (by omega), hat 2 (by omega), hat 3 (by omega), hat 4 (by omega), hat 5 (by omega), hat 6 (by omega), hat 7 (by omega), hat 8 (by omega), hI⟩
    · obtain ⟨i, hi2, rfl⟩ := List.mem_map.1 hp
      exact (hrf i (by simpa using hi2)).1
theorem nodes_open {H : Type} {enc : TypeId × Value → H} {W : World} {sp : Nat → Bool} {held : Bool} {fuel : Nat} {cs : List Value} {x : DataW H × List MemPlace} (h : DataW.trod enc Tryz.prog W 0 sp held fuel 22 cs = some x) :
    ∃ v ns, cs = [v] ∧ Nodes W v ns ∧ ns.length ≤ 9223372036854775807 ∧ ∀ p, p ∈ ns → p.cap.length ≤ 9223372036854775807 := by
  rcases open_slice Tryz.underlying22 h with ⟨rfl, _⟩ | ⟨a, len, cap, m, n, D, Pl, rfl, _, hl, hm, hmm, _, hi⟩
  · exact ⟨_, [], rfl, Nodes.nil W, by simp, fun p h => by simp at h⟩
  · have hmax : maxLen = 9223372036854775807 := by decide
    have hlm : len ≤ m := by rw [hmm]; split <;> omega
    have hc : ∀ i : Nat, ∃ p : NodeR, ∃ rv : Value, i < len → p.cap.length ≤ 9223372036854775807 ∧ I64s W rv p.cap ∧ W.cell? (a.add (i * 2 + 0)) = some (.int .i64 p.id) ∧ W.cell? (a.add (i * 2 + 1)) = some rv := by
      intro i
      by_cases hil : i < len
      · obtain ⟨cs', hcs, htr⟩ := hi i (by omega)
        obtain ⟨p, rv, hp, hI, f0, f1⟩ := node_open htr
        rw [k_node] at hcs
        obtain ⟨_, _, hat⟩ := World.cells?_some hcs
        refine ⟨p, rv, fun _ => ⟨hp, hI, ?_, ?_⟩⟩
        · have := hat 0 (by omega)
          rw [Deep.add_add] at this
          rw [this, f0]
        · have := hat 1 (by omega)
          rw [Deep.add_add] at this
          rw [this, f1]
      · exact ⟨node0, .nilIface, fun h => absurd h hil⟩
    obtain ⟨pf, hpf⟩ := Classical.axiomOfChoice hc
    obtain ⟨rf, hrf⟩ := Classical.axiomOfChoice hpf
    have hll : ((List.range len).map pf).length = len := by simp
    refine ⟨_, (List.range len).map pf, rfl, ⟨some a, cap, by rw [hll], fun i hil => ?_⟩, by rw [hll]; omega, fun p hp => ?_⟩
    · rw [hll] at hil
      obtain ⟨hp, hI, h0, h1⟩ := hrf i hil
      have hg : ((List.range len).map pf).getD i node0 = pf i := by simp [List.getD_eq_getElem?_getD, hil]
      rw [hg]
      obtain ⟨b, off, spot⟩ := a
      have hspot : spot = none := by simpa [Addr.add] using World.cell?_spot (hrf 0 (by omega)).2.2.1
      subst hspot
      simp only [WideShapes.add_plain, ← Nat.add_assoc] at h0 h1
      exact ⟨b, off, rf i, rfl, h0, h1, hI⟩
    · obtain ⟨i, hi2, rfl⟩ := List.mem_map.1 hp
      exact (hrf i (by simpa using hi2)).1
end Go.Proofs.YteioleilblehiaaGreatDoor
