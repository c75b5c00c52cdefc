/- hammocklaw26.awake: true. -/
import Derived.Test.YteioleilblehiaaGreatDoorAudit10
import Derived.Test.YteioleilblehiaaGreatDoorRefVec
namespace Go.Proofs.YteioleilblehiaaGreatDoor
open Go.RowKit

/-- The problems, as a slice of pairs. -/
theorem probs1 {w : World} {base : Nat} {v : Value} {y z : Int} (h : w.ownsRow base 44 2 v ([(y, z)] : List (Int × Int)).length (flatP [(y, z)])) : ∃ g c, v = .slice (some ⟨g, 0, none⟩) 1 c ∧ w.cell? ⟨g, 0, none⟩ = some (.int .i64 y) ∧ w.cell? ⟨g, 1, none⟩ = some (.int .i64 z) := by
  rcases h.2 with ⟨_, h0⟩ | ⟨g, cap, cur, rfl, hb, hg, hn, hm, hs, ht⟩
  · simp at h0
  · refine ⟨g, cap, rfl, ?_, ?_⟩
    · have : cur.toList[0]? = some (.int .i64 y) := by
        have e := congrArg (·[0]?) ht
        simpa [flatP, List.getElem?_take] using e
      rw [Array.getElem?_toList] at this
      simp [World.cell?, hg, this]
    · have : cur.toList[1]? = some (.int .i64 z) := by
        have e := congrArg (·[1]?) ht
        simpa [flatP, List.getElem?_take] using e
      rw [Array.getElem?_toList] at this
      simp [World.cell?, hg, this]
theorem one64 {w : World} {g : Nat} {x : Int} {ty : TypeId} (h : w.heap[g]? = some (.cells #[.int .i64 x] ty (0, 0))) : I64s w (.slice (some ⟨g, 0, none⟩) 1 1) [x] :=
  ⟨_, 1, rfl, fun i hi => by
    simp at hi
    subst hi
    exact ⟨g, 0, rfl, blk_cell h 0⟩⟩
@[go_sem] theorem field_view2 (w : World) : (Instr.field 33 (.agg #[.int .i64 0, .slice none 0 0, .slice none 0 0, .slice none 0 0, .slice none 0 0]) 2).run Tryz.prog w = .ok (.slice none 0 0) w := by kernel_rfl
set_option maxHeartbeats 8000000 in
set_option maxRecDepth 100000 in
theorem awake26 (w : World) (hN : PhNames w) (hA : AuNames w) : Calls Tryz.prog 4 #[] w fun e w' => e = .returned (.bool true) ∧ Below w.heap.size w w' := by
  have HN := Lib.hid hN
  have HA := Lib.hid hA
  clear hN hA
  go_enter Tryz.func4, Tryz.ntmps4
  go_wp2_with fail
  obtain ⟨W1, hW1⟩ : ∃ W1, (((((((w.alloc (.cells #[.int .i64 3] 2)).alloc (.cells #[.int .i64 1, .int .i64 0, .bool false, .int .i64 0, .slice (some ⟨w.heap.size, 0, none⟩) 1 1, .int .i64 0, .int .i64 3, .int .i64 7, .int .i64 (-1)] 31)).alloc (.cells #[.int .i64 2, .int .i64 0, .bool false, .int .i64 0, .slice (some ⟨w.heap.size, 0, none⟩) 1 1, .int .i64 0, .int .i64 3, .int .i64 7, .int .i64 (-1)] 31)).alloc (.cells #[.int .i64 5] 2)).alloc (.cells #[.int .i64 7, .slice (some ⟨w.heap.size + 1 + 1 + 1, 0, none⟩) 1 1] 40)).alloc (.cells #[.int .i64 1, .int .i64 0, .bool false, .int .i64 0, .slice (some ⟨w.heap.size, 0, none⟩) 1 1, .int .i64 0, .int .i64 3, .int .i64 7, .int .i64 (-1), .int .i64 2, .int .i64 0, .bool false, .int .i64 0, .slice (some ⟨w.heap.size, 0, none⟩) 1 1, .int .i64 0, .int .i64 3, .int .i64 7, .int .i64 (-1)] 31)).alloc (.cells #[.int .i64 1, .slice (some ⟨w.heap.size + 1 + 1 + 1 + 1, 0, none⟩) 1 1, .slice (some ⟨w.heap.size + 1 + 1 + 1 + 1 + 1, 0, none⟩) 2 2, .slice none 0 0, .slice none 0 0] 33)) = W1 := ⟨_, rfl⟩
  have hb1 : Below w.heap.size w W1 := by rw [← hW1]; exact bel_alloc (bel_alloc (bel_alloc (bel_alloc (bel_alloc (bel_alloc (bel_alloc (Below.refl _ _) _) _) _) _) _) _) _
  have k0 : W1.heap[w.heap.size]? = some (.cells #[.int .i64 3] 2 (0, 0)) := by
    rw [← hW1]
    have := blk_old (blk_old (blk_old (blk_old (blk_old (blk_old (blk_new w (.cells #[.int .i64 3] 2)) (.cells #[.int .i64 1, .int .i64 0, .bool false, .int .i64 0, .slice (some ⟨w.heap.size, 0, none⟩) 1 1, .int .i64 0, .int .i64 3, .int .i64 7, .int .i64 (-1)] 31)) (.cells #[.int .i64 2, .int .i64 0, .bool false, .int .i64 0, .slice (some ⟨w.heap.size, 0, none⟩) 1 1, .int .i64 0, .int .i64 3, .int .i64 7, .int .i64 (-1)] 31)) (.cells #[.int .i64 5] 2)) (.cells #[.int .i64 7, .slice (some ⟨w.heap.size + 1 + 1 + 1, 0, none⟩) 1 1] 40)) (.cells #[.int .i64 1, .int .i64 0, .bool false, .int .i64 0, .slice (some ⟨w.heap.size, 0, none⟩) 1 1, .int .i64 0, .int .i64 3, .int .i64 7, .int .i64 (-1), .int .i64 2, .int .i64 0, .bool false, .int .i64 0, .slice (some ⟨w.heap.size, 0, none⟩) 1 1, .int .i64 0, .int .i64 3, .int .i64 7, .int .i64 (-1)] 31)) (.cells #[.int .i64 1, .slice (some ⟨w.heap.size + 1 + 1 + 1 + 1, 0, none⟩) 1 1, .slice (some ⟨w.heap.size + 1 + 1 + 1 + 1 + 1, 0, none⟩) 2 2, .slice none 0 0, .slice none 0 0] 33)
    try simp only [World.size_alloc] at this
    exact this
  have k3 : W1.heap[w.heap.size + 1 + 1 + 1]? = some (.cells #[.int .i64 5] 2 (0, 0)) := by
    rw [← hW1]
    have := blk_old (blk_old (blk_old (blk_new (((w.alloc (.cells #[.int .i64 3] 2)).alloc (.cells #[.int .i64 1, .int .i64 0, .bool false, .int .i64 0, .slice (some ⟨w.heap.size, 0, none⟩) 1 1, .int .i64 0, .int .i64 3, .int .i64 7, .int .i64 (-1)] 31)).alloc (.cells #[.int .i64 2, .int .i64 0, .bool false, .int .i64 0, .slice (some ⟨w.heap.size, 0, none⟩) 1 1, .int .i64 0, .int .i64 3, .int .i64 7, .int .i64 (-1)] 31)) (.cells #[.int .i64 5] 2)) (.cells #[.int .i64 7, .slice (some ⟨w.heap.size + 1 + 1 + 1, 0, none⟩) 1 1] 40)) (.cells #[.int .i64 1, .int .i64 0, .bool false, .int .i64 0, .slice (some ⟨w.heap.size, 0, none⟩) 1 1, .int .i64 0, .int .i64 3, .int .i64 7, .int .i64 (-1), .int .i64 2, .int .i64 0, .bool false, .int .i64 0, .slice (some ⟨w.heap.size, 0, none⟩) 1 1, .int .i64 0, .int .i64 3, .int .i64 7, .int .i64 (-1)] 31)) (.cells #[.int .i64 1, .slice (some ⟨w.heap.size + 1 + 1 + 1 + 1, 0, none⟩) 1 1, .slice (some ⟨w.heap.size + 1 + 1 + 1 + 1 + 1, 0, none⟩) 2 2, .slice none 0 0, .slice none 0 0] 33)
    try simp only [World.size_alloc] at this
    exact this
  have k4 : W1.heap[w.heap.size + 1 + 1 + 1 + 1]? = some (.cells #[.int .i64 7, .slice (some ⟨w.heap.size + 1 + 1 + 1, 0, none⟩) 1 1] 40 (0, 0)) := by
    rw [← hW1]
    have := blk_old (blk_old (blk_new ((((w.alloc (.cells #[.int .i64 3] 2)).alloc (.cells #[.int .i64 1, .int .i64 0, .bool false, .int .i64 0, .slice (some ⟨w.heap.size, 0, none⟩) 1 1, .int .i64 0, .int .i64 3, .int .i64 7, .int .i64 (-1)] 31)).alloc (.cells #[.int .i64 2, .int .i64 0, .bool false, .int .i64 0, .slice (some ⟨w.heap.size, 0, none⟩) 1 1, .int .i64 0, .int .i64 3, .int .i64 7, .int .i64 (-1)] 31)).alloc (.cells #[.int .i64 5] 2)) (.cells #[.int .i64 7, .slice (some ⟨w.heap.size + 1 + 1 + 1, 0, none⟩) 1 1] 40)) (.cells #[.int .i64 1, .int .i64 0, .bool false, .int .i64 0, .slice (some ⟨w.heap.size, 0, none⟩) 1 1, .int .i64 0, .int .i64 3, .int .i64 7, .int .i64 (-1), .int .i64 2, .int .i64 0, .bool false, .int .i64 0, .slice (some ⟨w.heap.size, 0, none⟩) 1 1, .int .i64 0, .int .i64 3, .int .i64 7, .int .i64 (-1)] 31)) (.cells #[.int .i64 1, .slice (some ⟨w.heap.size + 1 + 1 + 1 + 1, 0, none⟩) 1 1, .slice (some ⟨w.heap.size + 1 + 1 + 1 + 1 + 1, 0, none⟩) 2 2, .slice none 0 0, .slice none 0 0] 33)
    try simp only [World.size_alloc] at this
    exact this
  have k5 : W1.heap[w.heap.size + 1 + 1 + 1 + 1 + 1]? = some (.cells #[.int .i64 1, .int .i64 0, .bool false, .int .i64 0, .slice (some ⟨w.heap.size, 0, none⟩) 1 1, .int .i64 0, .int .i64 3, .int .i64 7, .int .i64 (-1), .int .i64 2, .int .i64 0, .bool false, .int .i64 0, .slice (some ⟨w.heap.size, 0, none⟩) 1 1, .int .i64 0, .int .i64 3, .int .i64 7, .int .i64 (-1)] 31 (0, 0)) := by
    rw [← hW1]
    have := blk_old (blk_new (((((w.alloc (.cells #[.int .i64 3] 2)).alloc (.cells #[.int .i64 1, .int .i64 0, .bool false, .int .i64 0, .slice (some ⟨w.heap.size, 0, none⟩) 1 1, .int .i64 0, .int .i64 3, .int .i64 7, .int .i64 (-1)] 31)).alloc (.cells #[.int .i64 2, .int .i64 0, .bool false, .int .i64 0, .slice (some ⟨w.heap.size, 0, none⟩) 1 1, .int .i64 0, .int .i64 3, .int .i64 7, .int .i64 (-1)] 31)).alloc (.cells #[.int .i64 5] 2)).alloc (.cells #[.int .i64 7, .slice (some ⟨w.heap.size + 1 + 1 + 1, 0, none⟩) 1 1] 40)) (.cells #[.int .i64 1, .int .i64 0, .bool false, .int .i64 0, .slice (some ⟨w.heap.size, 0, none⟩) 1 1, .int .i64 0, .int .i64 3, .int .i64 7, .int .i64 (-1), .int .i64 2, .int .i64 0, .bool false, .int .i64 0, .slice (some ⟨w.heap.size, 0, none⟩) 1 1, .int .i64 0, .int .i64 3, .int .i64 7, .int .i64 (-1)] 31)) (.cells #[.int .i64 1, .slice (some ⟨w.heap.size + 1 + 1 + 1 + 1, 0, none⟩) 1 1, .slice (some ⟨w.heap.size + 1 + 1 + 1 + 1 + 1, 0, none⟩) 2 2, .slice none 0 0, .slice none 0 0] 33)
    try simp only [World.size_alloc] at this
    exact this
  have k6 : W1.heap[w.heap.size + 1 + 1 + 1 + 1 + 1 + 1]? = some (.cells #[.int .i64 1, .slice (some ⟨w.heap.size + 1 + 1 + 1 + 1, 0, none⟩) 1 1, .slice (some ⟨w.heap.size + 1 + 1 + 1 + 1 + 1, 0, none⟩) 2 2, .slice none 0 0, .slice none 0 0] 33 (0, 0)) := by
    rw [← hW1]
    have := blk_new ((((((w.alloc (.cells #[.int .i64 3] 2)).alloc (.cells #[.int .i64 1, .int .i64 0, .bool false, .int .i64 0, .slice (some ⟨w.heap.size, 0, none⟩) 1 1, .int .i64 0, .int .i64 3, .int .i64 7, .int .i64 (-1)] 31)).alloc (.cells #[.int .i64 2, .int .i64 0, .bool false, .int .i64 0, .slice (some ⟨w.heap.size, 0, none⟩) 1 1, .int .i64 0, .int .i64 3, .int .i64 7, .int .i64 (-1)] 31)).alloc (.cells #[.int .i64 5] 2)).alloc (.cells #[.int .i64 7, .slice (some ⟨w.heap.size + 1 + 1 + 1, 0, none⟩) 1 1] 40)).alloc (.cells #[.int .i64 1, .int .i64 0, .bool false, .int .i64 0, .slice (some ⟨w.heap.size, 0, none⟩) 1 1, .int .i64 0, .int .i64 3, .int .i64 7, .int .i64 (-1), .int .i64 2, .int .i64 0, .bool false, .int .i64 0, .slice (some ⟨w.heap.size, 0, none⟩) 1 1, .int .i64 0, .int .i64 3, .int .i64 7, .int .i64 (-1)] 31)) (.cells #[.int .i64 1, .slice (some ⟨w.heap.size + 1 + 1 + 1 + 1, 0, none⟩) 1 1, .slice (some ⟨w.heap.size + 1 + 1 + 1 + 1 + 1, 0, none⟩) 2 2, .slice none 0 0, .slice none 0 0] 33)
    try simp only [World.size_alloc] at this
    exact this
  rw [hW1]
  have hnod : Nodes W1 (.slice (some ⟨w.heap.size + 1 + 1 + 1 + 1, 0, none⟩) 1 1) [nA] := ⟨_, 1, rfl, fun i hi => by
    simp at hi
    subst hi
    exact ⟨_, 0, _, rfl, blk_cell k4 0, blk_cell k4 1, one64 k3⟩⟩
  have hpod : Pods W1 (.slice (some ⟨w.heap.size + 1 + 1 + 1 + 1 + 1, 0, none⟩) 2 2) [pA, pB] := ⟨_, 2, rfl, fun i hi => by
    match i, hi with
    | 0, _ => exact ⟨_, 0, _, rfl, blk_cell k5 0, blk_cell k5 1, blk_cell k5 2, blk_cell k5 3, blk_cell k5 4, blk_cell k5 5, blk_cell k5 6, blk_cell k5 7, blk_cell k5 8, one64 k0⟩
    | 1, _ => exact ⟨_, 0, _, rfl, blk_cell k5 9, blk_cell k5 10, blk_cell k5 11, blk_cell k5 12, blk_cell k5 13, blk_cell k5 14, blk_cell k5 15, blk_cell k5 16, blk_cell k5 17, one64 k0⟩⟩
  have HC := Lib.hid (fun W (hb : Below W1.heap.size W1 W) => check_A _ _ 1 2 W (hnod.below hb) (hpod.below hb) ((HN.out.below hb1).below hb))
  have HU := Lib.hid (fun W (hb : Below W1.heap.size W1 W) => by
    have := audit_Usage _ vA 7 W ⟨_, _, _, _, rfl, hnod.below hb, hpod.below hb, I64s.nil W, I64s.nil W⟩ (by decide) (by decide) (fun p hp y hy => by
      have : p.req = [3] := by
        rcases List.mem_cons.1 hp with rfl | hp
        · rfl
        · rcases List.mem_cons.1 hp with rfl | hp
          · rfl
          · simp at hp
      rw [this] at hy
      simp at hy
      subst hy
      decide)
    rw [uA] at this
    exact this)
  have HK := Lib.hid k6
  have Hb1 := Lib.hid hb1
  clear k0 k3 k4 k5 hnod hpod hW1
  have z0 : W1.cell? ⟨w.heap.size + 1 + 1 + 1 + 1 + 1 + 1, 0, none⟩ = some (.int .i64 1) := blk_cell k6 0
  clear z0
  clear k6 hb1
  generalize hS6 : w.heap.size + 1 + 1 + 1 + 1 + 1 + 1 = s6 at *
  generalize hS5 : w.heap.size + 1 + 1 + 1 + 1 + 1 = s5 at *
  generalize hS4 : w.heap.size + 1 + 1 + 1 + 1 = s4 at *
  have hs6 : s6 < W1.heap.size := blk_lt HK.out
  have HCc := Lib.hid (fun W (hb : Below W1.heap.size W1 W) => audit_Clean 1 _ _ none none 1 1 2 2 0 0 0 0 [(1, 7)] false W rfl (fun W' hb' => HC.out W' (bel_trans hb hb')))
  have HC0 := Lib.hid (fun W (hb : Below W1.heap.size W1 W) => audit_Clean 0 none none none none 0 0 0 0 0 0 0 0 [] true W rfl (fun W' hb' => check_0 W' ((HN.out.below Hb1.out).below (bel_trans hb hb'))))
  have HNm := Lib.hid (fun W (hb : Below W1.heap.size W1 W) => audit_Name_5 W ((HA.out.below Hb1.out).below hb))
  refine (HC.out W1 (Below.refl _ _)).mono ?_
  rintro e w2 ⟨v2, rfl, hown2, hb2⟩
  obtain ⟨g2, c2, e2, y0, y1⟩ := probs1 hown2
  subst e2
  clear hown2 hS4 hS5 hS6
  have hk2 := blk_keep hb2 HK.out
  have z0 : w2.cell? ⟨s6, 0, none⟩ = some (.int .i64 1) := blk_cell hk2 0
  have z1 : w2.cell? ⟨s6, 1, none⟩ = some (.slice (some ⟨s4, 0, none⟩) 1 1) := blk_cell hk2 1
  have z2 : w2.cell? ⟨s6, 2, none⟩ = some (.slice (some ⟨s5, 0, none⟩) 2 2) := blk_cell hk2 2
  have z3 : w2.cell? ⟨s6, 3, none⟩ = some (.slice none 0 0) := blk_cell hk2 3
  have z4 : w2.cell? ⟨s6, 4, none⟩ = some (.slice none 0 0) := blk_cell hk2 4
  have Hb2 := Lib.hid hb2
  clear hk2 hb2
  go_wp2_with fail
  refine (HCc.out w2 Hb2.out).mono ?_
  rintro e w3 ⟨rfl, hb3⟩
  clear z0 z1 z2 z3 z4 y0 y1
  have Hb3 := Lib.hid (bel_trans Hb2.out hb3)
  clear hb3
  go_wp2_with fail
  refine (HC0.out w3 Hb3.out).mono ?_
  rintro e w4 ⟨rfl, hb4⟩
  have Hb4 := Lib.hid (bel_trans Hb3.out hb4)
  have hk4 := blk_keep (bel_trans Hb3.out hb4) HK.out
  clear hb4
  have z0 : w4.cell? ⟨s6, 0, none⟩ = some (.int .i64 1) := blk_cell hk4 0
  have z1 : w4.cell? ⟨s6, 1, none⟩ = some (.slice (some ⟨s4, 0, none⟩) 1 1) := blk_cell hk4 1
  have z2 : w4.cell? ⟨s6, 2, none⟩ = some (.slice (some ⟨s5, 0, none⟩) 2 2) := blk_cell hk4 2
  have z3 : w4.cell? ⟨s6, 3, none⟩ = some (.slice none 0 0) := blk_cell hk4 3
  have z4 : w4.cell? ⟨s6, 4, none⟩ = some (.slice none 0 0) := blk_cell hk4 4
  clear hk4
  go_wp2_with fail
  refine (HU.out w4 Hb4.out).mono ?_
  rintro e w5 ⟨v5, rfl, hi5, hf5, ho5, hb5⟩
  have Hb5 := Lib.hid (bel_trans Hb4.out hb5)
  have HS := Lib.hid (fun W (hb : Below w5.heap.size w5 W) (g : Nat) (h : W.heap[g]? = some (.cells #[.int .i64 6] 2 (0, 0))) => by have := refSame v5 (.slice (some ⟨g, 0, none⟩) 1 1) [6] [6] W (hi5.below hb) (one64 h) (by decide) (by decide); rw [show decide (([6] : List Int) = [6]) = true from rfl] at this; exact this)
  clear z0 z1 z2 z3 z4 hi5 hf5 ho5 hb5
  go_wp2_with fail
  refine (HS.out _ (bel_alloc (Below.refl _ _) _) _ (blk_new _ _)).mono ?_
  rintro e w6 ⟨rfl, hb6⟩
  have Hb6 := Lib.hid (bel_trans Hb5.out (bel_trans (bel_alloc (Below.refl _ _) _) hb6))
  clear hb6
  go_wp2_with fail
  refine (HNm.out w6 Hb6.out).mono ?_
  rintro e w7 ⟨rfl, rfl⟩
  go_wp2_with fail
  refine (of_nil w6).mono ?_
  rintro e w8 ⟨rfl, hb8⟩
  go_wp2
  go_ret
  exact ⟨rfl, bel_trans Hb1.out (bel_trans Hb6.out hb8)⟩
end Go.Proofs.YteioleilblehiaaGreatDoor
