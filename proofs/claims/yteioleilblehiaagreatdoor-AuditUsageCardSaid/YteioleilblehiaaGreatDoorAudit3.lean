/- The predicates of audit.places and audit.lists; audit.twice; by contract. -/
import Derived.Test.YteioleilblehiaaGreatDoorAudit1
import Derived.Test.YteioleilblehiaaGreatDoorAudit2
namespace Go.Proofs.YteioleilblehiaaGreatDoor
open Go.RowKit

def placeBad (f : Int → Bool) (p : PodR) : Bool := placedB p.phase && !f p.node
set_option maxHeartbeats 1000000 in
theorem places_1 (c1 b n : Nat) (f : Int → Bool) (p : PodR) (ar : Option Addr) (cr rl : Nat) (w : World) (hd : w.cell? ⟨c1, 0, none⟩ = some (.map (some b))) (hm : BMap w b n f) (hk : in64 p.node) :
    Calls Tryz.prog 49 #[.agg #[.int .i64 p.id, .int .i64 p.prio, .bool p.pre, .int .i64 p.grace, .slice ar rl cr, .int .i64 p.arr, .int .i64 p.phase, .int .i64 p.node, .int .i64 p.dl], .pointer (some ⟨c1, 0, none⟩)] w fun e w' =>
      e = .returned (.bool (placeBad f p)) ∧ Below w.heap.size w w' := by
  have hlt : c1 < w.heap.size := cell_lt hd
  have HP := Lib.hid (fun W => phase_Placed p.phase W)
  have hl := (hm.alloc (.cells #[.int .i64 p.id, .int .i64 p.prio, .bool p.pre, .int .i64 p.grace, .slice ar rl cr, .int .i64 p.arr, .int .i64 p.phase, .int .i64 p.node, .int .i64 p.dl] 31)).look 86 Tryz.underlying86 hk
  clear hm hk
  unfold placeBad
  cases e1 : placedB p.phase
  all_goals
    rw [e1] at HP
    go_enter Tryz.func49, Tryz.ntmps49
    go_wp2_with (go_at_call 28; refine (HP.out _).mono ?_; rintro e w' ⟨rfl, rfl⟩)
    go_ret
    exact ⟨by simp, bel_alloc (Below.refl _ _) _⟩
def listBad (g : Int → Int) (p : PodR) : Bool := if waitsB p.phase then g p.id != 1 else g p.id != 0
set_option maxHeartbeats 2000000 in
theorem lists_1 (c1 c2 b n b2 n2 : Nat) (f : Int → Bool) (g : Int → Int) (p : PodR) (ar : Option Addr) (cr rl : Nat) (w : World) (hd : w.cell? ⟨c1, 0, none⟩ = some (.map (some b))) (hd2 : w.cell? ⟨c2, 0, none⟩ = some (.map (some b2)))
    (hm : BMap w b n f) (hm2 : IMap w b2 n2 g) (hn : n ≤ 1000000000) (hne : b ≠ b2) (_hc1 : c1 ≠ b) (hc2 : c2 ≠ b) (hk : in64 p.id) :
    Calls Tryz.prog 50 #[.agg #[.int .i64 p.id, .int .i64 p.prio, .bool p.pre, .int .i64 p.grace, .slice ar rl cr, .int .i64 p.arr, .int .i64 p.phase, .int .i64 p.node, .int .i64 p.dl], .pointer (some ⟨c1, 0, none⟩), .pointer (some ⟨c2, 0, none⟩)] w fun e w' =>
      e = .returned (.bool (listBad g p)) ∧ w.grownBy w' (some b) ∧ BMap w' b (n + 1) (fun j => if j = p.id then true else f j) := by
  have hlt : c1 < w.heap.size := cell_lt hd
  have hlt2 : c2 < w.heap.size := cell_lt hd2
  have HP := Lib.hid (fun W => phase_Waits p.phase W)
  have Hm := Lib.hid hm
  have Hm2 := Lib.hid hm2
  have Hd2 := Lib.hid hd2
  have Hk := Lib.hid hk
  obtain ⟨v1, e1⟩ : ∃ v, listBad g p = v := ⟨_, rfl⟩
  rw [e1]
  unfold listBad at e1
  have E1 := Lib.hid e1
  clear hm hm2 hk e1
  cases ew : waitsB p.phase
  all_goals
    rw [ew] at HP
    go_enter Tryz.func50, Tryz.ntmps50
    go_wp2_with (first
      | (at_mapUpdate; refine upd_b _ rfl _ _ _ 86 rfl Tryz.underlying86 b n f rfl (Hm.out.alloc _) hn p.id true rfl rfl Hk.out ?_; intro w1 hm1 hg1; have hl := ((Hm2.out.alloc (.cells #[.int .i64 p.id, .int .i64 p.prio, .bool p.pre, .int .i64 p.grace, .slice ar rl cr, .int .i64 p.arr, .int .i64 p.phase, .int .i64 p.node, .int .i64 p.dl] 31)).grown hg1 (by simp [Ne.symm hne])).look 83 Tryz.underlying83 Hk.out; have hbk := gr_block hg1 (blk_new w _) (by have := Hm.out.lt; simp; omega); have p0 : w1.cell? ⟨w.heap.size, 0, none⟩ = some (.int .i64 p.id) := blk_cell hbk 0; have p6 : w1.cell? ⟨w.heap.size, 6, none⟩ = some (.int .i64 p.phase) := blk_cell hbk 6; have d2 : w1.cell? ⟨c2, 0, none⟩ = some (.map (some b2)) := hg1.cell (World.cell?_alloc_lt _ _ _ hlt2 |>.trans Hd2.out) (by simp [hc2]); have Hm1 := Lib.hid hm1; have Hg1 := Lib.hid (gr_trans (gr_below (gr_refl w _) (bel_alloc (Below.refl _ w) _)) hg1); clear hm1 hg1 hbk)
      | (go_at_call 29; refine (HP.out _).mono ?_; rintro e w' ⟨rfl, rfl⟩))
    go_ret
    have e1 := E1.out
    rw [ew] at e1
    exact ⟨ret_b (by rw [← e1]; simp), Hg1.out, Hm1.out⟩
end Go.Proofs.YteioleilblehiaaGreatDoor
