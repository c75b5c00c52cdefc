/- hammocklaw26.AuditUsage: true at every view, given that awake is. -/
import Derived.Test.YteioleilblehiaaGreatDoorLess
import Derived.Test.YteioleilblehiaaGreatDoorPlain26
import Derived.IntWalk
import Derived.Deep.CutRange
namespace Go.Proofs.YteioleilblehiaaGreatDoor
open Go.RowKit

theorem info31 : (Tryz.prog.info? 31).map (fun i => (i.zero, i.size, i.bytes)) = some (some (.agg #[.int .i64 0, .int .i64 0, .bool false, .int .i64 0, .slice none 0 0, .int .i64 0, .int .i64 0, .int .i64 0, .int .i64 0]), 9, 88) := by kernel_rfl

theorem pair_rows {W : World} {u v : Value} {xs ys : List Int} (hu : I64s W u xs) (hv : I64s W v ys) : SlRows (W.alloc (.cells #[u, v] 29)) (.slice (some ⟨W.heap.size, 0, none⟩) 2 2) [xs, ys] := by
  refine ⟨some ⟨W.heap.size, 0, none⟩, 2, rfl, fun i hi => ?_⟩
  match i, hi with
  | 0, _ => exact ⟨W.heap.size, 0, u, rfl, blk_cell (blk_new W _) 0, hu.alloc _⟩
  | 1, _ => exact ⟨W.heap.size, 0, v, rfl, blk_cell (blk_new W _) 1, hv.alloc _⟩
/-- What stands behind the making of the list without the pod. -/
def CutL (w w2 : World) (dims : Int) (an : Option Addr) (nl cn : Nat) (b off : Nat) (ps : List PodR) (cap : Nat) (aa : Option Addr) (al ca : Nat) (ak : Option Addr) (kl ck : Nat) (p : PodR) (ar : Option Addr) (cr k : Nat) (wx : World) : Prop :=
  ∃ A6 c6, Below w.heap.size w wx ∧
    wx.heap[w.heap.size]? = some (.cells #[.int .i64 dims, .slice an nl cn, .slice (some ⟨b, off, none⟩) ps.length cap, .slice aa al ca, .slice ak kl ck] 26 (0, 0)) ∧
    wx.heap[w2.heap.size]? = some (.cells #[.int .i64 p.id, .int .i64 p.prio, .bool p.pre, .int .i64 p.grace, .slice ar p.req.length cr, .int .i64 p.arr, .int .i64 p.phase, .int .i64 p.node, .int .i64 p.dl] 31 (0, 0)) ∧
    wx.heap[w2.heap.size + 1]? = some (.cells #[.int .i64 dims, .slice an nl cn, .slice A6 (k + (ps.length - (k + 1))) c6, .slice aa al ca, .slice ak kl ck] 26 (0, 0)) ∧
    Pods wx (.slice A6 (k + (ps.length - (k + 1))) c6) (ps.eraseIdx k)

theorem cutL_mk {w w2 W3 w6 : World} {dims : Int} {an : Option Addr} {nl cn b off : Nat} {ps : List PodR} {cap : Nat} {aa : Option Addr} {al ca : Nat} {ak : Option Addr} {kl ck : Nat} {p : PodR} {ar : Option Addr} {cr k : Nat} {A6 : Option Addr} {c6 : Nat} {rvf : Nat → Value}
    (hkl : k < ps.length) (hrv : ∀ i, i < ps.length → PodAt w b (off + i * 9) (rvf i) (ps.getD i pod0)) (hB : Below w.heap.size w W3) (hlt : w.heap.size < w2.heap.size) (hs3 : w2.heap.size + 2 ≤ W3.heap.size)
    (hkx : W3.heap[w.heap.size]? = some (.cells #[.int .i64 dims, .slice an nl cn, .slice (some ⟨b, off, none⟩) ps.length cap, .slice aa al ca, .slice ak kl ck] 26 (0, 0)))
    (hk8 : W3.heap[w2.heap.size]? = some (.cells #[.int .i64 p.id, .int .i64 p.prio, .bool p.pre, .int .i64 p.grace, .slice ar p.req.length cr, .int .i64 p.arr, .int .i64 p.phase, .int .i64 p.node, .int .i64 p.dl] 31 (0, 0)))
    (hk9 : W3.heap[w2.heap.size + 1]? = some (.cells #[.int .i64 dims, .slice an nl cn, .slice (some ⟨b, off, none⟩) ps.length cap, .slice aa al ca, .slice ak kl ck] 26 (0, 0)))
    (h6 : Below W3.heap.size W3 w6)
    (hown : w6.ownsRow W3.heap.size 31 9 (.slice A6 (k + (ps.length - (k + 1))) c6) (k + (ps.length - (k + 1))) (((List.range (k * 9)).map fun j => gCell rvf ps (j + 0)) ++ ((List.range ((ps.length - (k + 1)) * 9)).map fun j => gCell rvf ps (j + (k + 1) * 9)))) :
    CutL w w2 dims an nl cn b off ps cap aa al ca ak kl ck p ar cr k (w6.setCell ⟨w2.heap.size + 1, 2, none⟩ (.slice A6 (k + (ps.length - (k + 1))) c6)) := by
  have hb6 : Below w.heap.size w w6 := bel_trans hB h6
  have hb7 : Below w.heap.size w (w6.setCell ⟨w2.heap.size + 1, 2, none⟩ (.slice A6 (k + (ps.length - (k + 1))) c6)) := hb6.setCell (by show w.heap.size ≤ w2.heap.size + 1; omega) _
  refine ⟨A6, c6, hb7, ?_, ?_, ?_, ?_⟩
  · rw [Below.heap_setCell _ _ _ _ (by show w.heap.size ≠ w2.heap.size + 1; omega)]; exact blk_keep h6 hkx
  · rw [Below.heap_setCell _ _ _ _ (by show w2.heap.size ≠ w2.heap.size + 1; omega)]; exact blk_keep h6 hk8
  · have := blk_keep h6 hk9
    simp [World.setCell, Array.getElem?_modify, this]
  · refine less_pods hkl hrv hb7 (base := W3.heap.size) ?_
    refine hown.kept (row := some (w2.heap.size + 1)) ⟨rfl, rfl, rfl, by simp [World.setCell], fun i _ hne => Below.heap_setCell _ _ _ _ (fun e => hne (by rw [e]))⟩ ?_
    right
    intro e
    have := (hown.lt _ e).1
    omega

set_option maxHeartbeats 8000000 in
set_option maxRecDepth 100000 in
theorem law26_big (dims : Int) (ns : List NodeR) (ps : List PodR) (acs ks : List Int) (nv av kv : Value) (b off cap : Nat) (q node : Int) (w : World)
    (hn : Nodes w nv ns) (hp : Pods w (.slice (some ⟨b, off, none⟩) ps.length cap) ps) (ha : I64s w av acs) (hk : I64s w kv ks) (hcap : ps.length ≤ cap) (h0 : 0 < ps.length) (h100 : ps.length ≤ 100)
    (hf : few26 ⟨dims, ns, ps, acs, ks⟩ = true) (hdm : dims ≤ 1000000000) (hR : ∀ p, p ∈ ps → ∀ y, y ∈ p.req → -9223372036854775808 ≤ y ∧ y ≤ 9223372036854775807) (hq0 : 0 ≤ q) (hq1 : q ≤ 255)
    (HA : ∀ W, Below w.heap.size w W → Calls Tryz.prog 4 #[] W fun e w' => e = .returned (.bool true) ∧ Below W.heap.size W w')
    (HF : ∀ W, Below w.heap.size w W → Calls Tryz.prog 5 #[.agg #[.int .i64 dims, nv, .slice (some ⟨b, off, none⟩) ps.length cap, av, kv]] W fun e w' => e = .returned (.bool true) ∧ Below W.heap.size W w') :
    Calls Tryz.prog 3 #[.agg #[.int .i64 dims, nv, .slice (some ⟨b, off, none⟩) ps.length cap, av, kv], .int .u8 q, .int .i64 node] w fun e w' => e = .returned (.bool true) ∧ Below w.heap.size w w' := by
  have HN := Lib.hid hn
  have HPs := Lib.hid hp
  have HAc := Lib.hid ha
  have HKs := Lib.hid hk
  have HR := Lib.hid hR
  clear hR
  obtain ⟨an, cn, rfl, gn⟩ := hn
  obtain ⟨aa, ca, rfl, ga⟩ := ha
  obtain ⟨ak, ck, rfl, gk⟩ := hk
  have HA := Lib.hid HA
  have HF := Lib.hid HF
  have Hp := Lib.hid hp
  have hl0 : ((ps.length : Int) == 0) = false := by rw [beq_eq_false_iff_ne]; omega
  obtain ⟨rvf, hrv⟩ : ∃ rvf : Nat → Value, ∀ i, i < ps.length → PodAt w b (off + i * 9) (rvf i) (ps.getD i pod0) := by
    have : ∀ i : Nat, ∃ rv : Value, i < ps.length → PodAt w b (off + i * 9) rv (ps.getD i pod0) := by
      intro i
      by_cases hi : i < ps.length
      · obtain ⟨a', c', e', g⟩ := hp
        cases e'
        obtain ⟨b', o', rv, e2, h⟩ := g i hi
        cases e2
        exact ⟨rv, fun _ => h⟩
      · exact ⟨.nilIface, fun h => absurd h hi⟩
    exact Classical.axiomOfChoice this
  have HRV := Lib.hid hrv
  have HG := Lib.hid (fun W (hb : Below w.heap.size w W) => gCell_at (fun i hi => (hrv i hi).below hb))
  have HO := Lib.hid (gCell_one hrv)
  clear gn ga gk hp hrv
  rename_i HA0 HF0
  clear HA0 HF0
  obtain ⟨k, hk⟩ : ∃ k : Nat, q % (ps.length : Int) = k := ⟨(q % (ps.length : Int)).toNat, by have := Int.emod_nonneg q (b := (ps.length : Int)) (by omega); omega⟩
  have hkl : k < ps.length := by have := Int.emod_lt_of_pos q (b := (ps.length : Int)) (by omega); omega
  obtain ⟨rv, hpa⟩ : ∃ rv, PodAt w b (off + k * 9) rv (ps.getD k pod0) := by
    obtain ⟨a', c', e', g⟩ := Hp.out
    cases e'
    obtain ⟨b', o', rv, e2, h⟩ := g k hkl
    cases e2
    exact ⟨rv, h⟩
  obtain ⟨p, ep⟩ : ∃ p, ps.getD k pod0 = p := ⟨_, rfl⟩
  rw [ep] at hpa
  have HPA := Lib.hid hpa
  have Ep := Lib.hid ep
  obtain ⟨ar, cr, erv, _⟩ := hpa.2.2.2.2.2.2.2.2.2
  subst erv
  clear hpa ep
  go_enter Tryz.func3, Tryz.ntmps3
  go_wp2_with (first
    | (go_at_call 4; refine (HA.out _ (bel_alloc (Below.refl _ _) _)).mono ?_; rintro e w1 ⟨rfl, hb1⟩; have hbx := blk_keep hb1 (blk_new w _); have bx0 : w1.cell? ⟨w.heap.size, 0, none⟩ = some (.int .i64 dims) := blk_cell hbx 0; have bx1 : w1.cell? ⟨w.heap.size, 1, none⟩ = some (.slice an ns.length cn) := blk_cell hbx 1; have bx2 : w1.cell? ⟨w.heap.size, 2, none⟩ = some (.slice (some ⟨b, off, none⟩) ps.length cap) := blk_cell hbx 2; have bx3 : w1.cell? ⟨w.heap.size, 3, none⟩ = some (.slice aa acs.length ca) := blk_cell hbx 3; have bx4 : w1.cell? ⟨w.heap.size, 4, none⟩ = some (.slice ak ks.length ck) := blk_cell hbx 4; have Hb1 := Lib.hid hb1; have Hbx := Lib.hid hbx; clear hb1 hbx)
    | (go_at_call 5; refine (HF.out _ (bel_trans (bel_alloc (Below.refl _ w) _) Hb1.out)).mono ?_; rintro e w2 ⟨rfl, hb2⟩; clear bx0 bx1 bx2 bx3 bx4; have hbx := blk_keep hb2 Hbx.out; have bx0 : w2.cell? ⟨w.heap.size, 0, none⟩ = some (.int .i64 dims) := blk_cell hbx 0; have bx1 : w2.cell? ⟨w.heap.size, 1, none⟩ = some (.slice an ns.length cn) := blk_cell hbx 1; have bx2 : w2.cell? ⟨w.heap.size, 2, none⟩ = some (.slice (some ⟨b, off, none⟩) ps.length cap) := blk_cell hbx 2; have bx3 : w2.cell? ⟨w.heap.size, 3, none⟩ = some (.slice aa acs.length ca) := blk_cell hbx 3; have bx4 : w2.cell? ⟨w.heap.size, 4, none⟩ = some (.slice ak ks.length ck) := blk_cell hbx 4; have Hb2 := Lib.hid (bel_trans (bel_trans (bel_alloc (Below.refl _ w) _) Hb1.out) hb2); obtain ⟨g0, g1, g2, g3, g4, g5, g6, g7, g8, gs⟩ := HPA.out.below Hb2.out; clear gs; have hsz2 : w.heap.size < w2.heap.size := blk_lt hbx; have hsb : b < w.heap.size := cell_lt HPA.out.1;  have Hbx2 := Lib.hid hbx; clear hb2 hbx))
  rw [hk]
  obtain ⟨W3, hW3⟩ : ∃ W3, ((w2.alloc (.cells #[.int .i64 p.id, .int .i64 p.prio, .bool p.pre, .int .i64 p.grace, .slice ar p.req.length cr, .int .i64 p.arr, .int .i64 p.phase, .int .i64 p.node, .int .i64 p.dl] 31)).alloc
      (.cells #[.int .i64 dims, .slice an ns.length cn, .slice (some ⟨b, off, none⟩) ps.length cap, .slice aa acs.length ca, .slice ak ks.length ck] 26)) = W3 := ⟨_, rfl⟩
  rw [hW3]
  have hB3 : Below w.heap.size w W3 := by rw [← hW3]; exact bel_trans Hb2.out (bel_alloc (bel_alloc (Below.refl _ _) _) _)
  have hk8 : W3.heap[w2.heap.size]? = some (.cells #[.int .i64 p.id, .int .i64 p.prio, .bool p.pre, .int .i64 p.grace, .slice ar p.req.length cr, .int .i64 p.arr, .int .i64 p.phase, .int .i64 p.node, .int .i64 p.dl] 31 (0, 0)) := by rw [← hW3]; exact blk_old (blk_new _ _) _
  have hk9 : W3.heap[w2.heap.size + 1]? = some (.cells #[.int .i64 dims, .slice an ns.length cn, .slice (some ⟨b, off, none⟩) ps.length cap, .slice aa acs.length ca, .slice ak ks.length ck] 26 (0, 0)) := by
    rw [← hW3]
    have := blk_new (w2.alloc (.cells #[.int .i64 p.id, .int .i64 p.prio, .bool p.pre, .int .i64 p.grace, .slice ar p.req.length cr, .int .i64 p.arr, .int .i64 p.phase, .int .i64 p.node, .int .i64 p.dl] 31)) (.cells #[.int .i64 dims, .slice an ns.length cn, .slice (some ⟨b, off, none⟩) ps.length cap, .slice aa acs.length ca, .slice ak ks.length ck] 26)
    simpa using this
  have hkx : W3.heap[w.heap.size]? = some (.cells #[.int .i64 dims, .slice an ns.length cn, .slice (some ⟨b, off, none⟩) ps.length cap, .slice aa acs.length ca, .slice ak ks.length ck] 26 (0, 0)) := by rw [← hW3]; exact blk_old (blk_old Hbx2.out _) _
  have hs3 : W3.heap.size = w2.heap.size + 2 := by rw [← hW3]; simp
  have hs3' : w2.heap.size + 2 ≤ W3.heap.size := by omega
  have HB3 := Lib.hid hB3
  have HK8 := Lib.hid hk8
  have HK9 := Lib.hid hk9
  have HKx := Lib.hid hkx
  have x2 : W3.cell? ⟨w.heap.size, 2, none⟩ = some (.slice (some ⟨b, off, none⟩) ps.length cap) := blk_cell hkx 2
  clear hW3 hB3 hk8 hk9 hkx hs3 bx0 bx1 bx2 bx3 bx4 g0 g1 g2 g3 g4 g5 g6 g7 g8 hk
  have hsz3 : w.heap.size < W3.heap.size := blk_lt HKx.out
  have hkc : k ≤ cap := by omega
  have hkc1 : k + 1 ≤ ps.length := by omega
  obtain ⟨i0, hi, hz0, hz1, hz2⟩ := info_parts info31
  obtain ⟨off2, hif, hoff2⟩ : ∃ off2, (if cap = k + 1 then some (⟨b, off, none⟩ : Addr) else some ⟨b, off + (k + 1) * 9, none⟩) = some ⟨b, off2, none⟩ ∧ (k + 1 < ps.length → off2 = off + (k + 1) * 9) := by
    by_cases hce : cap = k + 1
    · exact ⟨off, by rw [if_pos hce], fun h => by omega⟩
    · exact ⟨off + (k + 1) * 9, by rw [if_neg hce], fun _ => rfl⟩
  have hw1 : IntKind.i64.wrap ((k : Int) + 1) = (k : Int) + 1 := IntWalk.i64_in _ (by omega)
  have hw2 : 0 ≤ (k : Int) + 1 := by omega
  have hw3 : ((k : Int) + 1).toNat = k + 1 := by omega
  have hw4 : (k : Int) + 1 ≤ ps.length := by omega
  have Hoff := Lib.hid hoff2
  clear hoff2
  go_cut [] from 40 to 52 (fun wx => CutL w w2 dims an ns.length cn b off ps cap aa acs.length ca ak ks.length ck p ar cr k wx)
  case first =>
    go_region_law (first
        | (refine step_own _ rfl _ _ 23 rfl W3.heap.size 31 i0 _ 9 88 Tryz.underlying23 hi hz0 hz1 hz2 rfl (by decide) (.slice (some ⟨W3.heap.size, 0, none⟩) 0 0) 0 [] rfl (World.ownsRow_lit _ #[] 0 (by simp) (by decide) rfl) ⟨b, off, none⟩ k cap ((List.range (k * 9)).map fun j => gCell rvf ps (j + 0)) rfl (by simp) (src_cells (HG.out _ (bel_trans HB3.out (by repeat (first | exact Below.refl _ _ | refine Below.drew ?_ | refine Below.alloc ?_ (by simp) _)))) (k * 9) 0 off (by omega) (fun _ => rfl)) (src_one HO.out (k * 9) 0 (by omega)) (by unfold maxLen; omega) (by omega) (by simp) ?_; intro v5 w5 hown5 hg5; have hb5 : Below W3.heap.size W3 w5 := Below.grown (by repeat (first | exact Below.refl _ _ | refine Below.drew ?_ | refine Below.alloc ?_ (by simp) _)) hg5 (by simp) (fun k hk => by cases hk; exact Nat.le_refl _); have z2 : w5.cell? ⟨w.heap.size, 2, none⟩ = some (.slice (some ⟨b, off, none⟩) ps.length cap) := blk_cell (blk_keep hb5 HKx.out) 2; have Hown5 := Lib.hid hown5; have Hb5 := Lib.hid hb5; clear hown5 hg5 hb5)
        | (refine step_own _ rfl _ _ 23 rfl W3.heap.size 31 i0 _ 9 88 Tryz.underlying23 hi hz0 hz1 hz2 rfl (by decide) v5 k _ rfl (by rw [Nat.zero_add] at Hown5; exact Hown5.out) ⟨b, off2, none⟩ (ps.length - (k + 1)) (cap - (k + 1)) ((List.range ((ps.length - (k + 1)) * 9)).map fun j => gCell rvf ps (j + (k + 1) * 9)) rfl (by simp) (src_cells (HG.out _ (bel_trans HB3.out (by repeat (first | exact Hb5.out | refine Below.drew ?_)))) _ _ off2 (by omega) (fun h => Hoff.out (by omega))) (src_one HO.out _ _ (by omega)) (by unfold maxLen; omega) (by omega) (Hb5.out.size) ?_; intro v6 w6 hown6 hg6; have hb6 : Below W3.heap.size W3 w6 := Below.grown (by repeat (first | exact Hb5.out | refine Below.drew ?_)) hg6 Hb5.out.size (fun k hk => (Hown5.out.lt k hk).1); have Hown6 := Lib.hid hown6; have Hb6 := Lib.hid hb6; have q9 := blk_cell (blk_keep hb6 HK9.out) 2; have q9f := blk_free (blk_keep hb6 HK9.out) 2; obtain ⟨A6, c6, e6⟩ := own_form Hown6.out; subst e6; clear hown6 hg6 hb6))
    all_goals
      go_wp2_with fail
      go_meet
      case rel =>
        exact cutL_mk hkl HRV.out HB3.out hsz2 hs3' HKx.out HK8.out HK9.out Hb6.out Hown6.out
  case rest =>
    obtain ⟨A6, c6, hbc, kx, k8, k9, hless⟩ := hcut
    have x0 : wc.cell? ⟨w.heap.size, 0, none⟩ = some (.int .i64 dims) := blk_cell kx 0
    have x1 : wc.cell? ⟨w.heap.size, 1, none⟩ = some (.slice an ns.length cn) := blk_cell kx 1
    have x2' : wc.cell? ⟨w.heap.size, 2, none⟩ = some (.slice (some ⟨b, off, none⟩) ps.length cap) := blk_cell kx 2
    have x3 : wc.cell? ⟨w.heap.size, 3, none⟩ = some (.slice aa acs.length ca) := blk_cell kx 3
    have x4 : wc.cell? ⟨w.heap.size, 4, none⟩ = some (.slice ak ks.length ck) := blk_cell kx 4
    have Hbc := Lib.hid hbc
    have Kx := Lib.hid kx
    have K8 := Lib.hid k8
    have K9 := Lib.hid k9
    have Hless := Lib.hid hless
    have HU1 := Lib.hid (fun W (hb : Below w.heap.size w W) => audit_Usage _ ⟨dims, ns, ps, acs, ks⟩ node W ⟨_, _, _, _, rfl, HN.out.below hb, HPs.out.below hb, HAc.out.below hb, HKs.out.below hb⟩ (by show ps.length ≤ _; omega) hdm HR.out)
    have HU2 := Lib.hid (fun W (hb : Below w.heap.size w W) (hp : Pods W (.slice A6 (k + (ps.length - (k + 1))) c6) (ps.eraseIdx k)) => audit_Usage _ ⟨dims, ns, ps.eraseIdx k, acs, ks⟩ node W ⟨_, _, _, _, rfl, HN.out.below hb, hp, HAc.out.below hb, HKs.out.below hb⟩ (by show (ps.eraseIdx k).length ≤ _; have := List.length_eraseIdx_le ps k; omega) hdm (fun p hp => HR.out p (List.mem_of_mem_eraseIdx hp)))
    obtain ⟨ua, eua⟩ : ∃ ua, usageL ⟨dims, ns, ps, acs, ks⟩ node = ua := ⟨_, rfl⟩
    obtain ⟨ub, eub⟩ : ∃ ub, usageL ⟨dims, ns, ps.eraseIdx k, acs, ks⟩ node = ub := ⟨_, rfl⟩
    rw [eua] at HU1
    rw [eub] at HU2
    have Eua := Lib.hid eua
    have Eub := Lib.hid eub
    have hsv := small_of_few hf
    have hsp : ps.length ≤ 100 := hsv.pods
    have hsr : ∀ p, p ∈ ps → ∀ y, y ∈ p.req → 0 ≤ y ∧ y ≤ 1099511627776 := hsv.req
    have hd20 : dims ≤ 20 := hsv.dims
    clear hsv
    have hlu1 := usage_len (dims := dims) (ns := ns) (acs := acs) (ks := ks) hsp hsr node
    have hlu2 := usage_len (dims := dims) (ns := ns) (acs := acs) (ks := ks) (ps := ps.eraseIdx k) (Nat.le_trans (List.length_eraseIdx_le ps k) hsp) (fun p hp => hsr p (List.mem_of_mem_eraseIdx hp)) node
    rw [eua] at hlu1
    rw [eub] at hlu2
    have hadd := fun (h : selB node dims (ps.getD k pod0) = true) => usage_add (ns := ns) (acs := acs) (ks := ks) hkl hsp hsr node h
    have hrows := fun (h : selB node dims (ps.getD k pod0) = true) => add_rows (ns := ns) (acs := acs) (ks := ks) hkl hsp hsr node h
    have hsame := fun (h : selB node dims (ps.getD k pod0) = false) => usage_same (ns := ns) (acs := acs) (ks := ks) hkl node h
    rw [eua, eub, Ep.out] at hadd hsame
    rw [eub, Ep.out] at hrows
    have Hl1 := Lib.hid hlu1
    have Hl2 := Lib.hid hlu2
    have Hadd := Lib.hid hadd
    have Hrows := Lib.hid hrows
    have Hsame := Lib.hid hsame
    have hsb : ∀ e1 e2 e3 e4, (p.node != node) = e1 → (p.phase != 3) = e2 → (p.phase != 4) = e3 → ((p.req.length : Int) != dims) = e4 → selB node dims p = (!e1 && (!e2 || !e3) && !e4) := by
      rintro _ _ _ _ rfl rfl rfl rfl
      unfold selB holdsB
      simp [bne]
    have Hsb := Lib.hid hsb
    clear kx k8 k9 hbc hless x2 eua eub hsp hsr hlu1 hlu2 hadd hrows hsame hsb
    have HS1 := Lib.hid (fun W (v v' : Value) (h : I64s W v ua) (h' : I64s W v' ub) => Lib.hid (refSame v v' ua ub W h h' (by rw [Hl1.out]; omega) (by rw [Hl2.out]; omega)))
    have HS2 := Lib.hid (fun W (v v' : Value) (h : I64s W v (sumsL [ub, p.req] dims.toNat)) (h' : I64s W v' ua) => Lib.hid (refSame v v' _ ua W h h' (by simp [sumsL]; omega) (by rw [Hl1.out]; omega)))
    have HADD := Lib.hid (fun (hs : selB node dims p = true) (a11 : Option Addr) (c11 : Nat) W (hb : Below w.heap.size w W) (hi : I64s W (.slice a11 ub.length c11) ub) => Lib.hid (refAdd (.slice (some ⟨W.heap.size, 0, none⟩) 2 2) [ub, p.req] dims.toNat (W.alloc (.cells #[.slice a11 ub.length c11, .slice ar p.req.length cr] 29)) (pair_rows hi ((HPA.out.2.2.2.2.2.2.2.2.2).below hb)) (by simp) (by simp) (Hrows.out hs).1 (by omega) (Hrows.out hs).2))
    cases e1 : (p.node != node)
    all_goals cases e2 : (p.phase != 3)
    all_goals cases e3 : (p.phase != 4)
    all_goals cases e4 : ((p.req.length : Int) != dims)
    all_goals
      have hs := Hsb.out _ _ _ _ e1 e2 e3 e4
      first
        | (have hd : decide (ua = ub) = true := decide_eq_true (Hsame.out hs).symm
           rw [hd] at HS1
           clear HADD HS2 hd
           have hs2 := Lib.hid hs)
        | (have hd : decide (sumsL [ub, p.req] dims.toNat = ua) = true := decide_eq_true (Hadd.out hs).symm
           rw [hd] at HS2
           have HAD2 := Lib.hid (HADD.out hs)
           clear HADD HS1 hd
           have HADD := HAD2
           clear HAD2
           have hs2 := Lib.hid hs)
      clear hs
    go_wp2_with (first
      | (go_at_call 6; refine (HU1.out _ Hbc.out).mono ?_; clear HU1; rintro e w10 ⟨v10, rfl, i10, f10, o10, b10⟩; clear x0 x1 x2' x3 x4; have k9 := blk_keep b10 K9.out; have x0 : w10.cell? ⟨w2.heap.size + 1, 0, none⟩ = some (.int .i64 dims) := blk_cell k9 0; have x1 : w10.cell? ⟨w2.heap.size + 1, 1, none⟩ = some (.slice an ns.length cn) := blk_cell k9 1; have x2' : w10.cell? ⟨w2.heap.size + 1, 2, none⟩ = some (.slice A6 (k + (ps.length - (k + 1))) c6) := blk_cell k9 2; have x3 : w10.cell? ⟨w2.heap.size + 1, 3, none⟩ = some (.slice aa acs.length ca) := blk_cell k9 3; have x4 : w10.cell? ⟨w2.heap.size + 1, 4, none⟩ = some (.slice ak ks.length ck) := blk_cell k9 4; have I10 := Lib.hid i10; have B10 := Lib.hid b10; obtain ⟨a10, c10, rfl, _⟩ := i10; clear k9 f10 o10 b10)
      | (go_at_call 6; refine (HU2.out _ (bel_trans Hbc.out B10.out) (Hless.out.below B10.out)).mono ?_; rintro e w11 ⟨v11, rfl, i11, f11, o11, b11⟩; clear x0 x1 x2' x3 x4; have I11 := Lib.hid i11; have B11 := Lib.hid (bel_trans (bel_trans Hbc.out B10.out) b11); have I10b := Lib.hid (I10.out.below b11); have k8 := blk_keep b11 (blk_keep B10.out K8.out); have y4 : w11.cell? ⟨w2.heap.size, 4, none⟩ = some (.slice ar p.req.length cr) := blk_cell k8 4; have y6 : w11.cell? ⟨w2.heap.size, 6, none⟩ = some (.int .i64 p.phase) := blk_cell k8 6; have y7 : w11.cell? ⟨w2.heap.size, 7, none⟩ = some (.int .i64 p.node) := blk_cell k8 7; have x0 : w11.cell? ⟨w.heap.size, 0, none⟩ = some (.int .i64 dims) := blk_cell (blk_keep b11 (blk_keep B10.out Kx.out)) 0; obtain ⟨a11, c11, rfl, _⟩ := i11; clear f11 o11 b11 k8)
      | (go_at_call 8; refine ((HADD.out _ _ w11 B11.out I11.out).out).mono ?_; rintro e w12 ⟨v12, rfl, i12, b12⟩; have I12 := Lib.hid i12; have B12 := Lib.hid b12; obtain ⟨a12, c12, rfl, _⟩ := i12; clear b12)
      | (go_at_call 7; refine ((HS2.out _ _ _ I12.out (I10b.out.below (bel_trans (bel_alloc (Below.refl _ _) _) B12.out))).out).mono ?_; rintro e w13 ⟨rfl, b13⟩; have B13 := Lib.hid (bel_trans B11.out (bel_trans (bel_alloc (Below.refl _ _) _) (bel_trans B12.out b13))); clear b13)
      | (go_at_call 7; refine ((HS1.out _ _ _ I10b.out I11.out).out).mono ?_; rintro e w13 ⟨rfl, b13⟩; have B13 := Lib.hid (bel_trans B11.out b13); clear b13))
    all_goals go_ret
    all_goals exact ⟨rfl, B13.out⟩
end Go.Proofs.YteioleilblehiaaGreatDoor
