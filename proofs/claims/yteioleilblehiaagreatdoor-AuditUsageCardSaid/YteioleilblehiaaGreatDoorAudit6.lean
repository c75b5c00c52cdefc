/- audit.phases, audit.places, by contract. -/
import Derived.Test.YteioleilblehiaaGreatDoorAudit4
namespace Go.Proofs.YteioleilblehiaaGreatDoor
open Go.RowKit

theorem apart_none {w : World} {v : Value} {ps : List PodR} (h : Pods w v ps) : Apart none w v ps := by
  obtain ⟨a, cap, rfl, hc⟩ := h
  refine ⟨a, cap, rfl, fun i hi => ?_⟩
  obtain ⟨b, off, rv, rfl, hp⟩ := hc i hi
  exact ⟨b, off, rv, rfl, by simp, hp, fun W hg => (hp.2.2.2.2.2.2.2.2.2).below ⟨hg.os, hg.tape, hg.output, hg.size, fun i hi => hg.block i hi (by simp)⟩⟩
theorem bel_gr {a b : World} (h : a.grownBy b none) : Below a.heap.size a b := ⟨h.os, h.tape, h.output, h.size, fun i hi => h.block i hi (by simp)⟩
theorem gr_bel {a b : World} (h : Below a.heap.size a b) (row : Option Nat) : a.grownBy b row := ⟨h.os, h.tape, h.output, h.size, fun i hi _ => h.block i hi⟩

set_option maxHeartbeats 2000000 in
set_option maxRecDepth 100000 in
theorem audit_phases (dims : Int) (a1 a3 a4 : Option Addr) (n1 c1 n3 c3 n4 c4 : Nat) (pv : Value) (ps : List PodR) (w : World) (hp : Pods w pv ps) (hpl : ps.length ≤ 100000000) (hN : PhNames w) :
    Calls Tryz.prog 35 #[.agg #[.int .i64 dims, .slice a1 n1 c1, pv, .slice a3 n3 c3, .slice a4 n4 c4]] w (IntsPost w none (idsOf ps (phaseBad dims))) := by
  have HP := Lib.hid (fun W (hb : Below w.heap.size w W) (hd : W.cell? ⟨w.heap.size, 0, none⟩ = some (.int .i64 dims)) => pods_phases w.heap.size none (fun _ W' => W'.cell? ⟨w.heap.size, 0, none⟩ = some (.int .i64 dims) ∧ PhNames W') (phaseBad dims) dims a1 a3 a4 n1 c1 n3 c3 n4 c4 pv ps W (apart_none (hp.below hb)) hpl (fun g h => by cases h) ⟨hd, hN.below hb⟩
    (fun k A B r h hg hr => ⟨by rw [World.cell?_of_block (w := A) (hg.block w.heap.size (cell_lt h.1) (fun e => by have := hr _ e.symm; have h9 : w.heap.size < W.heap.size := cell_lt hd; omega))]; exact h.1, h.2.grown hg (fun e => by have := hr _ e.symm; obtain ⟨ty, fr, hh⟩ := hN; have := blk_lt hh; have := hb.size; omega)⟩)
    (fun A k rv hk hg hJ hI => by
      obtain ⟨ar, cr, rfl, _⟩ := hI
      refine (phases_1 dims w.heap.size (ps.getD k pod0) ar cr A hJ.1 hJ.2).mono fun e w' h => ?_
      exact ⟨h.1, gr_bel h.2 none, by rw [h.2.cell (cell_lt hJ.1)]; exact hJ.1, hJ.2.below h.2⟩))
  obtain ⟨a2, c2, rfl, hc2⟩ := hp
  clear hc2 hN
  go_enter Tryz.func35, Tryz.ntmps35
  go_wp2_with (go_at_call 46; refine (HP.out _ (bel_alloc (Below.refl _ _) _) (blk_cell (blk_new w _) 0)).mono ?_; rintro e w1 ⟨v1, rfl, hown, hg, _⟩)
  go_ret
  exact ⟨_, rfl, own_base hown (by simp), gr_trans (gr_bel (bel_alloc (Below.refl _ _) _) none) hg⟩

def anyId (ns : List NodeR) (k : Nat) (j : Int) : Bool := (ns.take k).any fun n => n.id == j
theorem any_snoc {ns : List NodeR} {k : Nat} (h : k < ns.length) (j : Int) : anyId ns (k + 1) j = if j = (ns.getD k node0).id then true else anyId ns k j := by
  unfold anyId
  have e : ns.getD k node0 = ns[k] := by rw [List.getD_eq_getElem?_getD, List.getElem?_eq_getElem h]; rfl
  rw [List.take_succ_eq_append_getElem h, List.any_append, e]
  by_cases hj : j = ns[k].id
  · subst hj; simp
  · rw [if_neg hj]
    have : (ns[k].id == j) = false := by simpa using fun h => hj h.symm
    simp [this]
def PlRel (w : World) (B : World → Prop) (mb pb : Nat) (ns : List NodeR) (i : Value) (wr : World) : Prop :=
  ∃ k : Nat, k ≤ ns.length ∧ i = .int .i64 k ∧ Below w.heap.size w wr ∧ B wr ∧ wr.cell? ⟨pb, 0, none⟩ = some (.map (some mb)) ∧ BMap wr mb k (anyId ns k)

set_option maxHeartbeats 4000000 in
set_option maxRecDepth 100000 in
theorem audit_places (dims : Int) (ns : List NodeR) (a3 a4 : Option Addr) (n3 c3 n4 c4 : Nat) (nv pv : Value) (ps : List PodR) (w : World) (hn : Nodes w nv ns) (hp : Pods w pv ps) (hnl : ns.length ≤ 100000000) (hpl : ps.length ≤ 100000000)
    (hni : ∀ n, n ∈ ns → in64 n.id) (hpn : ∀ p, p ∈ ps → in64 p.node) :
    Calls Tryz.prog 36 #[.agg #[.int .i64 dims, nv, pv, .slice a3 n3 c3, .slice a4 n4 c4]] w (IntsPost w none (idsOf ps (placeBad (anyId ns ns.length)))) := by
  obtain ⟨a1, c1, rfl, hc1⟩ := hn
  have HP := Lib.hid (fun W (hb : Below w.heap.size w W) (hd : W.cell? ⟨w.heap.size + 1 + 1, 0, none⟩ = some (.map (some (w.heap.size + 1)))) (hm : BMap W (w.heap.size + 1) ns.length (anyId ns ns.length)) => pods_places (w.heap.size + 1 + 1) none (fun _ W' => W'.cell? ⟨w.heap.size + 1 + 1, 0, none⟩ = some (.map (some (w.heap.size + 1))) ∧ BMap W' (w.heap.size + 1) ns.length (anyId ns ns.length)) (placeBad (anyId ns ns.length)) dims a1 a3 a4 ns.length c1 n3 c3 n4 c4 pv ps W (apart_none (hp.below hb)) hpl (fun g h => by cases h) ⟨hd, hm⟩
    (fun k A B r h hg hr => ⟨by rw [World.cell?_of_block (w := A) (hg.block (w.heap.size + 1 + 1) (cell_lt h.1) (fun e => by have := hr _ e.symm; have h9 : w.heap.size + 1 + 1 < W.heap.size := cell_lt hd; omega))]; exact h.1, h.2.grown hg (fun e => by have := hr _ e.symm; have h9 : w.heap.size + 1 + 1 < W.heap.size := cell_lt hd; omega)⟩)
    (fun A k rv hk hg hJ hI => by
      obtain ⟨ar, cr, rfl, _⟩ := hI
      refine (places_1 (w.heap.size + 1 + 1) (w.heap.size + 1) ns.length (anyId ns ns.length) (ps.getD k pod0) ar cr _ A hJ.1 hJ.2 (hpn _ (getD_mem ps pod0 k hk))).mono fun e w' h => ?_
      exact ⟨h.1, gr_bel h.2 none, by rw [h.2.cell (cell_lt hJ.1)]; exact hJ.1, hJ.2.below h.2⟩))
  obtain ⟨a2, c2, rfl, hc2⟩ := hp
  have Hc1 := Lib.hid hc1
  have Hni := Lib.hid hni
  clear hc1 hc2 hni hpn
  have hmm := @run_makeMap Tryz.prog
  go_enter Tryz.func36, Tryz.ntmps36
  go_wp2
  obtain ⟨W0, hW0⟩ : ∃ W0, ((w.alloc (.cells #[.int .i64 dims, .slice a1 ns.length c1, .slice a2 ps.length c2, .slice a3 n3 c3, .slice a4 n4 c4] 33)).alloc (.map #[] 0)).alloc (.cells #[.map (some (w.heap.size + 1))] 86) = W0 := ⟨_, rfl⟩
  have hbox : BoxAt W0 w.heap.size dims a1 ns.length c1 a2 ps.length c2 a3 n3 c3 a4 n4 c4 := by rw [← hW0]; exact blk_old (blk_old (blk_new w _) _) _
  have hb0 : Below w.heap.size w W0 := by rw [← hW0]; exact bel_alloc (bel_alloc (bel_alloc (Below.refl _ _) _) _) _
  have hpt : W0.cell? ⟨w.heap.size + 1 + 1, 0, none⟩ = some (.map (some (w.heap.size + 1))) := by
    rw [← hW0]
    have := blk_cell (blk_new ((w.alloc (.cells #[.int .i64 dims, .slice a1 ns.length c1, .slice a2 ps.length c2, .slice a3 n3 c3, .slice a4 n4 c4] 33)).alloc (.map #[] 0)) (.cells #[.map (some (w.heap.size + 1))] 86)) 0
    simpa using this
  have hm0 : BMap W0 (w.heap.size + 1) 0 (fun _ => false) := by
    rw [← hW0]
    have := (BMap.made (w.alloc (.cells #[.int .i64 dims, .slice a1 ns.length c1, .slice a2 ps.length c2, .slice a3 n3 c3, .slice a4 n4 c4] 33))).alloc (.cells #[.map (some (w.heap.size + 1))] 86)
    simpa using this
  rw [hW0]
  have Hbox := Lib.hid hbox
  have Hb0 := Lib.hid hb0
  have Hpt := Lib.hid hpt
  have Hm0 := Lib.hid hm0
  clear hbox hb0 hpt hm0 hW0
  go_loopw [10] (PlRel w (fun W => BoxAt W w.heap.size dims a1 ns.length c1 a2 ps.length c2 a3 n3 c3 a4 n4 c4) (w.heap.size + 1) (w.heap.size + 1 + 1) ns) (fun i _ => ns.length - (intOf i).toNat)
  case atStart => exact ⟨0, Nat.zero_le _, rfl, Hb0.out, Hbox.out, Hpt.out, Hm0.out.congr (fun j => rfl)⟩
  case round =>
    obtain ⟨k, hk, rfl, hbl, hB, hpc, hm⟩ := hrel
    have Hbl := Lib.hid hbl
    have HB := Lib.hid hB
    have Hpc := Lib.hid hpc
    have Hm := Lib.hid hm
    have hsz : w.heap.size + 1 + 1 < wr.heap.size := cell_lt hpc
    clear hm
    by_cases hlt : k < ns.length
    · obtain ⟨b, off, cv, rfl, hnat⟩ := Hc1.out k hlt
      obtain ⟨g0, g1, gs⟩ := hnat.below hbl
      obtain ⟨ar, cr, erv, _⟩ := gs
      subst erv
      have hsn := any_snoc hlt
      have hid := Hni.out _ (getD_mem ns node0 k hlt)
      obtain ⟨id, eid⟩ : ∃ id, (ns.getD k node0).id = id := ⟨_, rfl⟩
      rw [eid] at g0 hsn hid
      generalize (ns.getD k node0).cap.length = rl at *
      have Hsn := Lib.hid hsn
      have Hid' := Lib.hid hid
      clear hsn hid eid hnat hB hbl
      go_wp2_with (at_mapUpdate; refine upd_b _ rfl _ _ _ 86 rfl Tryz.underlying86 (w.heap.size + 1) k _ rfl (Hm.out.alloc _) (by omega) id true rfl rfl Hid'.out ?_; intro w1 hm1 hg1; have Hm1 := Lib.hid hm1; have Hg1 := Lib.hid hg1; clear hm1 hg1)
      go_roundw
      case rel =>
        refine ⟨k + 1, by omega, by go_num, (bel_alloc Hbl.out _ |> fun h => Below.grown (h.mono (Nat.le_refl _)) Hg1.out (by simp; omega) (fun g h => by cases h; omega)), gr_block Hg1.out (blk_old HB.out _) (by simp), ?_, Hm1.out.congr (fun j => (Hsn.out j).symm)⟩
        exact Hg1.out.cell ((World.cell?_alloc_lt _ _ _ hsz).trans Hpc.out) (by simp)
      case measure => simp [intOf]; omega
    · obtain rfl : k = ns.length := by omega
      have x0 : wr.cell? ⟨w.heap.size, 0, none⟩ = some (.int .i64 dims) := blk_cell hB 0
      have x1 : wr.cell? ⟨w.heap.size, 1, none⟩ = some (.slice a1 ns.length c1) := blk_cell hB 1
      have x2 : wr.cell? ⟨w.heap.size, 2, none⟩ = some (.slice a2 ps.length c2) := blk_cell hB 2
      have x3 : wr.cell? ⟨w.heap.size, 3, none⟩ = some (.slice a3 n3 c3) := blk_cell hB 3
      have x4 : wr.cell? ⟨w.heap.size, 4, none⟩ = some (.slice a4 n4 c4) := blk_cell hB 4
      clear hB hbl
      go_wp2_with (go_at_call 46; refine (HP.out _ Hbl.out Hpc.out Hm.out).mono ?_; rintro e w1 ⟨v1, rfl, hown, hg, _⟩)
      go_ret
      exact ⟨_, rfl, own_base hown (by omega), gr_trans (gr_bel Hbl.out none) hg⟩
end Go.Proofs.YteioleilblehiaaGreatDoor
