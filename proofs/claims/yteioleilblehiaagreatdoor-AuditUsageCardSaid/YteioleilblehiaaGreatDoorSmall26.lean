/- hammocklaw26.AuditUsage at views that its guard keeps out: true, given that awake is. -/
import Derived.Test.YteioleilblehiaaGreatDoorFew26
namespace Go.Proofs.YteioleilblehiaaGreatDoor
open Go.RowKit

set_option maxHeartbeats 4000000 in
set_option maxRecDepth 100000 in
theorem law26_small (x : ViewR) (v : Value) (q node : Int) (w : World) (hv : ViewAt w v x) (hs : few26 x = false ∨ x.pods = [])
    (HA : ∀ W, Below w.heap.size w W → Calls Tryz.prog 4 #[] W fun e w' => e = .returned (.bool true) ∧ Below W.heap.size W w')
    (HF : ∀ W, Below w.heap.size w W → Calls Tryz.prog 5 #[v] W fun e w' => e = .returned (.bool (few26 x)) ∧ Below W.heap.size W w') :
    Calls Tryz.prog 3 #[v, .int .u8 q, .int .i64 node] w fun e w' => e = .returned (.bool true) ∧ Below w.heap.size w w' := by
  obtain ⟨nv, pv, av, kv, rfl, h1, h2, h3, h4⟩ := hv
  obtain ⟨an, cn, rfl, g1⟩ := h1
  obtain ⟨ap, cp, rfl, g2⟩ := h2
  obtain ⟨aa, ca, rfl, g3⟩ := h3
  obtain ⟨ak, ck, rfl, g4⟩ := h4
  have KA := Lib.hid HA
  have KF := Lib.hid HF
  clear HA HF g1 g2 g3 g4
  cases ef : few26 x
  · rw [ef] at KF
    clear hs ef
    go_enter Tryz.func3, Tryz.ntmps3
    go_wp2_with fail
    refine (KA.out _ (bel_alloc (Below.refl _ _) _)).mono ?_
    rintro e w1 ⟨rfl, hb1⟩
    have hbx := blk_keep hb1 (blk_new w _)
    have x0 : w1.cell? ⟨w.heap.size, 0, none⟩ = some (.int .i64 x.dims) := blk_cell hbx 0
    have x1 : w1.cell? ⟨w.heap.size, 1, none⟩ = some (.slice an x.nodes.length cn) := blk_cell hbx 1
    have x2 : w1.cell? ⟨w.heap.size, 2, none⟩ = some (.slice ap x.pods.length cp) := blk_cell hbx 2
    have x3 : w1.cell? ⟨w.heap.size, 3, none⟩ = some (.slice aa x.active.length ca) := blk_cell hbx 3
    have x4 : w1.cell? ⟨w.heap.size, 4, none⟩ = some (.slice ak x.parked.length ck) := blk_cell hbx 4
    have Hb1 := Lib.hid (bel_trans (bel_alloc (Below.refl _ w) _) hb1)
    clear hb1 hbx
    go_wp2_with fail
    refine (KF.out _ Hb1.out).mono ?_
    rintro e w2 ⟨rfl, hb2⟩
    have Hb2 := Lib.hid (bel_trans Hb1.out hb2)
    clear hb2 x0 x1 x2 x3 x4
    go_wp2_with fail
    refine (KA.out _ Hb2.out).mono ?_
    rintro e w3 ⟨rfl, hb3⟩
    go_wp2
    go_ret
    exact ⟨rfl, bel_trans Hb2.out hb3⟩
  · rw [ef] at KF hs
    have hpl : x.pods.length = 0 := by
      rcases hs with hs | hs
      · cases hs
      · rw [hs]; rfl
    rw [hpl] at KF ⊢
    clear hs ef hpl
    go_enter Tryz.func3, Tryz.ntmps3
    go_wp2_with fail
    refine (KA.out _ (bel_alloc (Below.refl _ _) _)).mono ?_
    rintro e w1 ⟨rfl, hb1⟩
    have hbx := blk_keep hb1 (blk_new w _)
    have x0 : w1.cell? ⟨w.heap.size, 0, none⟩ = some (.int .i64 x.dims) := blk_cell hbx 0
    have x1 : w1.cell? ⟨w.heap.size, 1, none⟩ = some (.slice an x.nodes.length cn) := blk_cell hbx 1
    have x2 : w1.cell? ⟨w.heap.size, 2, none⟩ = some (.slice ap 0 cp) := blk_cell hbx 2
    have x3 : w1.cell? ⟨w.heap.size, 3, none⟩ = some (.slice aa x.active.length ca) := blk_cell hbx 3
    have x4 : w1.cell? ⟨w.heap.size, 4, none⟩ = some (.slice ak x.parked.length ck) := blk_cell hbx 4
    have Hb1 := Lib.hid (bel_trans (bel_alloc (Below.refl _ w) _) hb1)
    have Hbx := Lib.hid hbx
    clear hb1 hbx
    go_wp2_with fail
    refine (KF.out _ Hb1.out).mono ?_
    rintro e w2 ⟨rfl, hb2⟩
    have y2 : w2.cell? ⟨w.heap.size, 2, none⟩ = some (.slice ap 0 cp) := blk_cell (blk_keep hb2 Hbx.out) 2
    have Hb2 := Lib.hid (bel_trans Hb1.out hb2)
    clear hb2 x0 x1 x2 x3 x4
    go_wp2_with fail
    refine (KA.out _ Hb2.out).mono ?_
    rintro e w3 ⟨rfl, hb3⟩
    go_wp2
    go_ret
    exact ⟨rfl, bel_trans Hb2.out hb3⟩
end Go.Proofs.YteioleilblehiaaGreatDoor
