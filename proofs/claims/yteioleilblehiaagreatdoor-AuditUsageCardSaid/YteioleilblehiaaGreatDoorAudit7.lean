/- audit.lists at a view without parked pods, by contract. -/
import Derived.Test.YteioleilblehiaaGreatDoorAudit6
import Derived.RegionTactic
import Derived.ChangeAlike
namespace Go.Proofs.YteioleilblehiaaGreatDoor
open Go.RowKit

def anyP (ps : List PodR) (k : Nat) (j : Int) : Bool := (ps.take k).any fun p => p.id == j
theorem anyP_snoc {ps : List PodR} {k : Nat} (h : k < ps.length) (j : Int) : anyP ps (k + 1) j = if j = (ps.getD k pod0).id then true else anyP ps k j := by
  unfold anyP
  have e : ps.getD k pod0 = ps[k] := by rw [List.getD_eq_getElem?_getD, List.getElem?_eq_getElem h]; rfl
  rw [List.take_succ_eq_append_getElem h, List.any_append, e]
  by_cases hj : j = ps[k].id
  · subst hj; simp
  · rw [if_neg hj]
    have : (ps[k].id == j) = false := by simpa using fun h => hj h.symm
    simp [this]
def outs (ps : List PodR) (l : List Int) : Nat → List Int
  | 0 => []
  | k + 1 => outs ps l k ++ (if !anyP ps ps.length (l.getD k 0) then [l.getD k 0] else [])
theorem outs_len (ps : List PodR) (l : List Int) (k : Nat) : (outs ps l k).length ≤ k := by
  induction k with
  | zero => simp [outs]
  | succ k ih =>
    simp only [outs]
    split <;> simp <;> omega
def Ptrs (w : World) (s : Nat) : Prop := w.cell? ⟨s + 1 + 1 + 1, 0, none⟩ = some (.map (some (s + 1))) ∧ w.cell? ⟨s + 1 + 1 + 1 + 1, 0, none⟩ = some (.map (some (s + 1 + 1)))
def Ls1 (w : World) (B : World → Prop) (acs : List Int) (i : Value) (wr : World) : Prop :=
  ∃ k : Nat, k ≤ acs.length ∧ i = .int .i64 k ∧ Below w.heap.size w wr ∧ B wr ∧ Ptrs wr w.heap.size ∧ BMap wr (w.heap.size + 1) 0 (fun _ => false) ∧ IMap wr (w.heap.size + 1 + 1) k (cnt (acs.take k))
def Ls2 (w : World) (ps : List PodR) (acs : List Int) (pre : List Int) (v : Value) (i : Value) (wr : World) : Prop :=
  ∃ k : Nat, k ≤ acs.length ∧ i = .int .i64 k ∧ Below w.heap.size w wr ∧ Ptrs wr w.heap.size ∧ BMap wr (w.heap.size + 1) ps.length (anyP ps ps.length) ∧ wr.ownsRow (w.heap.size + 5) 3 1 v (pre ++ outs ps acs k).length ((pre ++ outs ps acs k).map (Value.int .i64))
theorem Ptrs.grown {w W : World} {s : Nat} {r : Option Nat} (h : Ptrs w s) (hg : w.grownBy W r) (hr : ∀ g, r = some g → g = s + 1 ∨ g = s + 1 + 1 ∨ s + 5 ≤ g) : Ptrs W s :=
  ⟨hg.cell h.1 (fun e => by have := hr _ e.symm; simp at this; omega), hg.cell h.2 (fun e => by have := hr _ e.symm; simp at this; omega)⟩
theorem apart_row {w wr : World} {v : Value} {ps : List PodR} {row : Option Nat} (h : Pods w v ps) (hb : Below w.heap.size w wr) (hr : ∀ g, row = some g → w.heap.size ≤ g) : Apart row wr v ps := by
  obtain ⟨a, cap, rfl, hc⟩ := h
  refine ⟨a, cap, rfl, fun i hi => ?_⟩
  obtain ⟨b, off, rv, rfl, hp⟩ := hc i hi
  have hlt : b < w.heap.size := cell_lt hp.1
  refine ⟨b, off, rv, rfl, fun e => by have := hr b e.symm; omega, hp.below hb, fun W hg => ?_⟩
  exact (hp.2.2.2.2.2.2.2.2.2).below ⟨hg.os.trans hb.os, hg.tape.trans hb.tape, hg.output.trans hb.output, Nat.le_trans hb.size hg.size, fun i hi => (hg.block i (Nat.lt_of_lt_of_le hi hb.size) (fun e => by have := hr i e.symm; omega)).trans (hb.block i hi)⟩

set_option maxHeartbeats 8000000 in
set_option maxRecDepth 100000 in
theorem audit_lists (dims : Int) (a1 a3 : Option Addr) (n1 c1 c3 : Nat) (acs : List Int) (pv : Value) (ps : List PodR) (w : World) (hp : Pods w pv ps) (ha : I64s w (.slice a3 acs.length c3) acs) (hac : acs.length ≤ c3) (_hc3 : c3 ≤ 1000000000) (hal : acs.length ≤ 100000000) (hpl : ps.length ≤ 100000000)
    (hpi : ∀ p, p ∈ ps → in64 p.id) (hai : ∀ a, a ∈ acs → in64 a) :
    Calls Tryz.prog 37 #[.agg #[.int .i64 dims, .slice a1 n1 c1, pv, .slice a3 acs.length c3, .slice none 0 0]] w (IntsPost w none (idsOf ps (listBad (cnt acs)) ++ outs ps acs acs.length)) := by
  have HPs := Lib.hid hp
  have HA := Lib.hid ha
  have Hpi := Lib.hid hpi
  have Hai := Lib.hid hai
  have HP := Lib.hid (fun W (hb : Below w.heap.size w W) (hd : Ptrs W w.heap.size) (hm : BMap W (w.heap.size + 1) 0 (fun _ => false)) (hi : IMap W (w.heap.size + 1 + 1) acs.length (cnt acs)) =>
    pods_lists (w.heap.size + 1 + 1 + 1) (w.heap.size + 1 + 1 + 1 + 1) (some (w.heap.size + 1)) (fun k W' => Ptrs W' w.heap.size ∧ BMap W' (w.heap.size + 1) k (anyP ps k) ∧ IMap W' (w.heap.size + 1 + 1) acs.length (cnt acs)) (listBad (cnt acs)) dims a1 a3 none n1 c1 acs.length c3 0 0 pv ps W (apart_row hp hb (fun g h => by cases h; omega)) hpl (fun g h => by cases h; have h9 : w.heap.size + 1 + 1 + 1 < W.heap.size := cell_lt hd.1; omega) ⟨hd, hm.congr (fun j => rfl), hi⟩
      (fun k A B r h hg hr => by
        have h9 : w.heap.size + 1 + 1 + 1 + 1 < W.heap.size := cell_lt hd.2
        exact ⟨h.1.grown hg (fun g e => by have := hr g e; omega), h.2.1.grown hg (fun e => by have := hr _ e.symm; omega), h.2.2.grown hg (fun e => by have := hr _ e.symm; omega)⟩)
      (fun A k rv hk hg hJ hI => by
        obtain ⟨ar, cr, rfl, _⟩ := hI
        refine (lists_1 (w.heap.size + 1 + 1 + 1) (w.heap.size + 1 + 1 + 1 + 1) (w.heap.size + 1) k (w.heap.size + 1 + 1) acs.length (anyP ps k) (cnt acs) (ps.getD k pod0) ar cr _ A hJ.1.1 hJ.1.2 hJ.2.1 hJ.2.2 (by omega) (by omega) (by omega) (by omega) (hpi _ (getD_mem ps pod0 k hk))).mono fun e w' h => ?_
        exact ⟨h.1, h.2.1, hJ.1.grown h.2.1 (fun g e => by cases e; exact .inl rfl), h.2.2.congr (fun j => (anyP_snoc hk j).symm), hJ.2.2.grown h.2.1 (by simp)⟩))
  obtain ⟨a2, c2, rfl, hc2⟩ := hp
  clear hc2 ha hpi hai
  have hmm := @run_makeMap Tryz.prog
  have hca : a3 = none ∨ ∃ ad, a3 = some ad := by cases a3 <;> simp
  rcases hca with rfl | ⟨ad, rfl⟩
  · go_enter Tryz.func37, Tryz.ntmps37
    go_wp2
    go_region
    go_wp2
    obtain ⟨W0, hW0⟩ : ∃ W0, (((((w.alloc (.cells #[.int .i64 dims, .slice a1 n1 c1, .slice a2 ps.length c2, .slice none acs.length c3, .slice none 0 0] 33)).alloc (.map #[] 0)).alloc (.map #[] 0)).alloc (.cells #[.map (some (w.heap.size + 1))] 86)).alloc (.cells #[.map (some (w.heap.size + 1 + 1))] 83)).drew = W0 := ⟨_, rfl⟩
    have hbox : BoxAt W0 w.heap.size dims a1 n1 c1 a2 ps.length c2 none acs.length c3 none 0 0 := by rw [← hW0]; exact blk_old (blk_old (blk_old (blk_old (blk_new w _) _) _) _) _
    have hb0 : Below w.heap.size w W0 := by rw [← hW0]; exact Below.drew (bel_alloc (bel_alloc (bel_alloc (bel_alloc (bel_alloc (Below.refl _ _) _) _) _) _) _)
    have hpt : Ptrs W0 w.heap.size := by
      rw [← hW0]
      constructor
      · have := blk_cell (blk_old (blk_new (((w.alloc (.cells #[.int .i64 dims, .slice a1 n1 c1, .slice a2 ps.length c2, .slice none acs.length c3, .slice none 0 0] 33)).alloc (.map #[] 0)).alloc (.map #[] 0)) (.cells #[.map (some (w.heap.size + 1))] 86)) (.cells #[.map (some (w.heap.size + 1 + 1))] 83)) 0
        simp only [World.size_alloc] at this
        exact this
      · have := blk_cell (blk_new ((((w.alloc (.cells #[.int .i64 dims, .slice a1 n1 c1, .slice a2 ps.length c2, .slice none acs.length c3, .slice none 0 0] 33)).alloc (.map #[] 0)).alloc (.map #[] 0)).alloc (.cells #[.map (some (w.heap.size + 1))] 86)) (.cells #[.map (some (w.heap.size + 1 + 1))] 83)) 0
        simp only [World.size_alloc] at this
        exact this
    have hm0 : BMap W0 (w.heap.size + 1) 0 (fun _ => false) := by
      rw [← hW0]
      have := (((BMap.made (w.alloc (.cells #[.int .i64 dims, .slice a1 n1 c1, .slice a2 ps.length c2, .slice none acs.length c3, .slice none 0 0] 33))).alloc (.map #[] 0)).alloc (.cells #[.map (some (w.heap.size + 1))] 86)).alloc (.cells #[.map (some (w.heap.size + 1 + 1))] 83)
      simp only [World.size_alloc] at this
      exact this
    have hi0 : IMap W0 (w.heap.size + 1 + 1) 0 (fun _ => 0) := by
      rw [← hW0]
      have := ((IMap.made ((w.alloc (.cells #[.int .i64 dims, .slice a1 n1 c1, .slice a2 ps.length c2, .slice none acs.length c3, .slice none 0 0] 33)).alloc (.map #[] 0))).alloc (.cells #[.map (some (w.heap.size + 1))] 86)).alloc (.cells #[.map (some (w.heap.size + 1 + 1))] 83)
      simp only [World.size_alloc] at this
      exact this
    rw [hW0]
    have Hbox := Lib.hid hbox
    have Hb0 := Lib.hid hb0
    have Hpt := Lib.hid hpt
    have Hm0 := Lib.hid hm0
    have Hi0 := Lib.hid hi0
    clear hbox hb0 hpt hm0 hi0 hW0
    go_loopw [27] (Ls1 w (fun W => BoxAt W w.heap.size dims a1 n1 c1 a2 ps.length c2 none acs.length c3 none 0 0) acs) (fun i _ => acs.length - (intOf i).toNat)
    case atStart => exact ⟨0, Nat.zero_le _, rfl, Hb0.out, Hbox.out, Hpt.out, Hm0.out, Hi0.out.congr (fun j => rfl)⟩
    case round =>
      obtain ⟨k, hk, rfl, hbl, hB, hpc, hm, hi⟩ := hrel
      have Hbl := Lib.hid hbl
      have HB := Lib.hid hB
      have Hpc := Lib.hid hpc
      have Hm := Lib.hid hm
      have Hi := Lib.hid hi
      have hsz : w.heap.size + 1 + 1 + 1 + 1 < wr.heap.size := cell_lt hpc.2
      obtain ⟨q1, q2⟩ := hpc
      clear hm hi
      by_cases hlt : k < acs.length
      · obtain ⟨a', c', e', hcc⟩ := HA.out
        cases e'
        obtain ⟨b, off, e2, hx⟩ := hcc k hlt
        cases e2
        all_goals
          rw [← hbl.cell (cell_lt hx)] at hx
          have hsn := cnt_snoc hlt
          have hcb := cnt_bd (acs.take k) (acs.getD k 0)
          have hid := Hai.out _ (getD_mem acs 0 k hlt)
          obtain ⟨id, eid⟩ : ∃ id, acs.getD k 0 = id := ⟨_, rfl⟩
          rw [eid] at hx hsn hid hcb
          obtain ⟨c, ec⟩ : ∃ c, cnt (acs.take k) id = c := ⟨_, rfl⟩
          rw [ec] at hsn hcb
          have hcb1 : 0 ≤ c := hcb.1
          have hcb2 : c ≤ 100000000 := by have := hcb.2; rw [List.length_take] at this; omega
          have hlk := Hi.out.look 83 Tryz.underlying83 hid
          rw [ec] at hlk
          have Hsn := Lib.hid hsn
          have Hid' := Lib.hid hid
          clear hsn hid eid ec hcb hB hbl hcc
          go_wp2_with (at_mapUpdate; refine upd_i _ rfl _ _ _ 83 rfl Tryz.underlying83 (w.heap.size + 1 + 1) k _ rfl Hi.out (by omega) id (c + 1) rfl rfl Hid'.out ⟨by omega, by omega⟩ ?_; intro w1 hm1 hg1; have Hm1 := Lib.hid hm1; have Hg1 := Lib.hid hg1; clear hm1 hg1 hlk)
          go_roundw
          case rel =>
            exact ⟨k + 1, by omega, by go_num, Below.grown Hbl.out Hg1.out (by omega) (fun g h => by cases h; omega), gr_block Hg1.out HB.out (by simp; omega), Hpc.out.grown Hg1.out (fun g h => by cases h; exact .inr (.inl rfl)), Hm.out.grown Hg1.out (by simp), Hm1.out.congr (fun j => (Hsn.out j).symm)⟩
          case measure => simp [intOf]; omega
      · obtain rfl : k = acs.length := by omega
        have x0 : wr.cell? ⟨w.heap.size, 0, none⟩ = some (.int .i64 dims) := blk_cell hB 0
        have x1 : wr.cell? ⟨w.heap.size, 1, none⟩ = some (.slice a1 n1 c1) := blk_cell hB 1
        have x2 : wr.cell? ⟨w.heap.size, 2, none⟩ = some (.slice a2 ps.length c2) := blk_cell hB 2
        have x3 : wr.cell? ⟨w.heap.size, 3, none⟩ = some (.slice none acs.length c3) := blk_cell hB 3
        have x4 : wr.cell? ⟨w.heap.size, 4, none⟩ = some (.slice none 0 0) := blk_cell hB 4
        have htk : acs.take acs.length = acs := List.take_length
        rw [htk] at Hi
        clear hB hbl q1 q2 htk
        go_wp2_with (go_at_call 46; refine (HP.out _ Hbl.out Hpc.out Hm.out Hi.out).mono ?_; rintro e w1 ⟨v1, rfl, hown, hg, hp1, hm1, hi1⟩; have Hown := Lib.hid hown; have Hg := Lib.hid hg; have Hp1 := Lib.hid hp1; have Hm1 := Lib.hid hm1; clear hown hg hp1 hm1 hi1)
        have HbW := Lib.hid (Below.grown Hbl.out Hg.out (by omega) (fun g h => by cases h; omega))
        have Hown2 := Lib.hid (own_base (base' := w.heap.size + 5) Hown.out (by omega))
        obtain ⟨pre, epre⟩ : ∃ pre, idsOf ps (listBad (cnt acs)) = pre := ⟨_, rfl⟩
        have hpn : (idsOf ps (listBad (cnt acs))).length ≤ ps.length := by
          have := ids_len ps (listBad (cnt acs)) ps.length
          rwa [List.take_length] at this
        rw [epre] at Hown2 hpn
        have Epre := Lib.hid epre
        clear epre x0 x1 x2 x3 x4
        go_loopw [8, 41] (Ls2 w ps acs pre) (fun _ i _ => acs.length - (intOf i).toNat)
        case atStart => exact ⟨0, Nat.zero_le _, rfl, HbW.out, Hp1.out, Hm1.out, by simpa [outs] using Hown2.out⟩
        case round =>
          obtain ⟨k, hk, rfl, hbl, hpc, hm, hown⟩ := hrel
          have Hbl := Lib.hid hbl
          have Hpc := Lib.hid hpc
          have Hm := Lib.hid hm
          have Hown := Lib.hid hown
          have hsz : w.heap.size + 1 + 1 + 1 + 1 < wr.heap.size := cell_lt hpc.2
          obtain ⟨q1, q2⟩ := hpc
          clear hm hown
          by_cases hlt : k < acs.length
          · obtain ⟨a', c', e', hcc⟩ := HA.out
            cases e'
            obtain ⟨b, off, e2, hx⟩ := hcc k hlt
            cases e2
            all_goals
              rw [← hbl.cell (cell_lt hx)] at hx
              have hid := Hai.out _ (getD_mem acs 0 k hlt)
              have hol := outs_len ps acs k
              have hos : outs ps acs (k + 1) = outs ps acs k ++ (if !anyP ps ps.length (acs.getD k 0) then [acs.getD k 0] else []) := rfl
              obtain ⟨id, eid⟩ : ∃ id, acs.getD k 0 = id := ⟨_, rfl⟩
              rw [eid] at hx hid hos
              have hlk := Hm.out.look 86 Tryz.underlying86 hid
              obtain ⟨q, eq⟩ : ∃ q, anyP ps ps.length id = q := ⟨_, rfl⟩
              rw [eq] at hlk hos
              have Hos := Lib.hid hos
              clear hos hid eid eq hbl hcc
              cases q
              · go_wp2_with (at_builtin; refine app1 _ rfl _ _ 24 rfl 3 (.int .i64 0) 8 Tryz.underlying24 infoI rfl (by decide) (w.heap.size + 5) u8 _ _ rfl (Hown.out.alloc _) _ rfl (.int .i64 id) (by simp) rfl (by rw [List.length_append]; omega) (by simp; omega) ?_; intro v8 w8 hown8 hg8; have Hown8 := Lib.hid hown8; have Hg8 := Lib.hid hg8; clear hown8 hg8)
                go_roundw
                case rel =>
                  have hos := Hos.out
                  simp only [Bool.not_false, if_true] at hos
                  have hlo : ∀ g, Value.ownBlock u8 = some g → w.heap.size + 5 ≤ g := fun g h => (Hown.out.lt g h).1
                  refine ⟨k + 1, by omega, by go_num, Below.grown (Hbl.out.alloc (by omega) _) Hg8.out (by simp; omega) (fun g h => by have := hlo g h; omega), (Hpc.out.grown (World.grownBy_alloc _ _ none) (fun g h => by cases h)).grown Hg8.out (fun g h => .inr (.inr (hlo g h))), (Hm.out.alloc _).grown Hg8.out (fun e => by have := hlo _ e.symm; omega), ?_⟩
                  rw [hos, ← List.append_assoc, List.length_append, List.map_append, List.length_singleton]
                  exact Hown8.out
                case measure => simp [intOf]; omega
              · go_wp2
                go_roundw
                case rel =>
                  have hos := Hos.out
                  simp only [Bool.not_true, Bool.false_eq_true, if_false, List.append_nil] at hos
                  exact ⟨k + 1, by omega, by go_num, Hbl.out, Hpc.out, Hm.out, by rw [hos]; exact Hown.out⟩
                case measure => simp [intOf]; omega
          · obtain rfl : k = acs.length := by omega
            clear hbl q1 q2
            go_wp2
            go_ret
            have hown := Hown.out
            rw [← Epre.out] at hown
            exact ⟨_, rfl, own_base (base := w.heap.size + 5) (base' := w.heap.size) hown (by omega), gr_bel Hbl.out none⟩
  · go_enter Tryz.func37, Tryz.ntmps37
    go_wp2
    go_region
    go_wp2
    obtain ⟨W0, hW0⟩ : ∃ W0, (((((w.alloc (.cells #[.int .i64 dims, .slice a1 n1 c1, .slice a2 ps.length c2, .slice (some ad) acs.length c3, .slice none 0 0] 33)).alloc (.map #[] 0)).alloc (.map #[] 0)).alloc (.cells #[.map (some (w.heap.size + 1))] 86)).alloc (.cells #[.map (some (w.heap.size + 1 + 1))] 83)).drew = W0 := ⟨_, rfl⟩
    have hbox : BoxAt W0 w.heap.size dims a1 n1 c1 a2 ps.length c2 (some ad) acs.length c3 none 0 0 := by rw [← hW0]; exact blk_old (blk_old (blk_old (blk_old (blk_new w _) _) _) _) _
    have hb0 : Below w.heap.size w W0 := by rw [← hW0]; exact Below.drew (bel_alloc (bel_alloc (bel_alloc (bel_alloc (bel_alloc (Below.refl _ _) _) _) _) _) _)
    have hpt : Ptrs W0 w.heap.size := by
      rw [← hW0]
      constructor
      · have := blk_cell (blk_old (blk_new (((w.alloc (.cells #[.int .i64 dims, .slice a1 n1 c1, .slice a2 ps.length c2, .slice (some ad) acs.length c3, .slice none 0 0] 33)).alloc (.map #[] 0)).alloc (.map #[] 0)) (.cells #[.map (some (w.heap.size + 1))] 86)) (.cells #[.map (some (w.heap.size + 1 + 1))] 83)) 0
        simp only [World.size_alloc] at this
        exact this
      · have := blk_cell (blk_new ((((w.alloc (.cells #[.int .i64 dims, .slice a1 n1 c1, .slice a2 ps.length c2, .slice (some ad) acs.length c3, .slice none 0 0] 33)).alloc (.map #[] 0)).alloc (.map #[] 0)).alloc (.cells #[.map (some (w.heap.size + 1))] 86)) (.cells #[.map (some (w.heap.size + 1 + 1))] 83)) 0
        simp only [World.size_alloc] at this
        exact this
    have hm0 : BMap W0 (w.heap.size + 1) 0 (fun _ => false) := by
      rw [← hW0]
      have := (((BMap.made (w.alloc (.cells #[.int .i64 dims, .slice a1 n1 c1, .slice a2 ps.length c2, .slice (some ad) acs.length c3, .slice none 0 0] 33))).alloc (.map #[] 0)).alloc (.cells #[.map (some (w.heap.size + 1))] 86)).alloc (.cells #[.map (some (w.heap.size + 1 + 1))] 83)
      simp only [World.size_alloc] at this
      exact this
    have hi0 : IMap W0 (w.heap.size + 1 + 1) 0 (fun _ => 0) := by
      rw [← hW0]
      have := ((IMap.made ((w.alloc (.cells #[.int .i64 dims, .slice a1 n1 c1, .slice a2 ps.length c2, .slice (some ad) acs.length c3, .slice none 0 0] 33)).alloc (.map #[] 0))).alloc (.cells #[.map (some (w.heap.size + 1))] 86)).alloc (.cells #[.map (some (w.heap.size + 1 + 1))] 83)
      simp only [World.size_alloc] at this
      exact this
    rw [hW0]
    have Hbox := Lib.hid hbox
    have Hb0 := Lib.hid hb0
    have Hpt := Lib.hid hpt
    have Hm0 := Lib.hid hm0
    have Hi0 := Lib.hid hi0
    clear hbox hb0 hpt hm0 hi0 hW0
    go_loopw [27] (Ls1 w (fun W => BoxAt W w.heap.size dims a1 n1 c1 a2 ps.length c2 (some ad) acs.length c3 none 0 0) acs) (fun i _ => acs.length - (intOf i).toNat)
    case atStart => exact ⟨0, Nat.zero_le _, rfl, Hb0.out, Hbox.out, Hpt.out, Hm0.out, Hi0.out.congr (fun j => rfl)⟩
    case round =>
      obtain ⟨k, hk, rfl, hbl, hB, hpc, hm, hi⟩ := hrel
      have Hbl := Lib.hid hbl
      have HB := Lib.hid hB
      have Hpc := Lib.hid hpc
      have Hm := Lib.hid hm
      have Hi := Lib.hid hi
      have hsz : w.heap.size + 1 + 1 + 1 + 1 < wr.heap.size := cell_lt hpc.2
      obtain ⟨q1, q2⟩ := hpc
      clear hm hi
      by_cases hlt : k < acs.length
      · obtain ⟨a', c', e', hcc⟩ := HA.out
        cases e'
        obtain ⟨b, off, e2, hx⟩ := hcc k hlt
        cases e2
        all_goals
          rw [← hbl.cell (cell_lt hx)] at hx
          have hsn := cnt_snoc hlt
          have hcb := cnt_bd (acs.take k) (acs.getD k 0)
          have hid := Hai.out _ (getD_mem acs 0 k hlt)
          obtain ⟨id, eid⟩ : ∃ id, acs.getD k 0 = id := ⟨_, rfl⟩
          rw [eid] at hx hsn hid hcb
          obtain ⟨c, ec⟩ : ∃ c, cnt (acs.take k) id = c := ⟨_, rfl⟩
          rw [ec] at hsn hcb
          have hcb1 : 0 ≤ c := hcb.1
          have hcb2 : c ≤ 100000000 := by have := hcb.2; rw [List.length_take] at this; omega
          have hlk := Hi.out.look 83 Tryz.underlying83 hid
          rw [ec] at hlk
          have Hsn := Lib.hid hsn
          have Hid' := Lib.hid hid
          clear hsn hid eid ec hcb hB hbl hcc
          go_wp2_with (at_mapUpdate; refine upd_i _ rfl _ _ _ 83 rfl Tryz.underlying83 (w.heap.size + 1 + 1) k _ rfl Hi.out (by omega) id (c + 1) rfl rfl Hid'.out ⟨by omega, by omega⟩ ?_; intro w1 hm1 hg1; have Hm1 := Lib.hid hm1; have Hg1 := Lib.hid hg1; clear hm1 hg1 hlk)
          go_roundw
          case rel =>
            exact ⟨k + 1, by omega, by go_num, Below.grown Hbl.out Hg1.out (by omega) (fun g h => by cases h; omega), gr_block Hg1.out HB.out (by simp; omega), Hpc.out.grown Hg1.out (fun g h => by cases h; exact .inr (.inl rfl)), Hm.out.grown Hg1.out (by simp), Hm1.out.congr (fun j => (Hsn.out j).symm)⟩
          case measure => simp [intOf]; omega
      · obtain rfl : k = acs.length := by omega
        have x0 : wr.cell? ⟨w.heap.size, 0, none⟩ = some (.int .i64 dims) := blk_cell hB 0
        have x1 : wr.cell? ⟨w.heap.size, 1, none⟩ = some (.slice a1 n1 c1) := blk_cell hB 1
        have x2 : wr.cell? ⟨w.heap.size, 2, none⟩ = some (.slice a2 ps.length c2) := blk_cell hB 2
        have x3 : wr.cell? ⟨w.heap.size, 3, none⟩ = some (.slice (some ad) acs.length c3) := blk_cell hB 3
        have x4 : wr.cell? ⟨w.heap.size, 4, none⟩ = some (.slice none 0 0) := blk_cell hB 4
        have htk : acs.take acs.length = acs := List.take_length
        rw [htk] at Hi
        clear hB hbl q1 q2 htk
        go_wp2_with (go_at_call 46; refine (HP.out _ Hbl.out Hpc.out Hm.out Hi.out).mono ?_; rintro e w1 ⟨v1, rfl, hown, hg, hp1, hm1, hi1⟩; have Hown := Lib.hid hown; have Hg := Lib.hid hg; have Hp1 := Lib.hid hp1; have Hm1 := Lib.hid hm1; clear hown hg hp1 hm1 hi1)
        have HbW := Lib.hid (Below.grown Hbl.out Hg.out (by omega) (fun g h => by cases h; omega))
        have Hown2 := Lib.hid (own_base (base' := w.heap.size + 5) Hown.out (by omega))
        obtain ⟨pre, epre⟩ : ∃ pre, idsOf ps (listBad (cnt acs)) = pre := ⟨_, rfl⟩
        have hpn : (idsOf ps (listBad (cnt acs))).length ≤ ps.length := by
          have := ids_len ps (listBad (cnt acs)) ps.length
          rwa [List.take_length] at this
        rw [epre] at Hown2 hpn
        have Epre := Lib.hid epre
        clear epre x0 x1 x2 x3 x4
        go_loopw [8, 41] (Ls2 w ps acs pre) (fun _ i _ => acs.length - (intOf i).toNat)
        case atStart => exact ⟨0, Nat.zero_le _, rfl, HbW.out, Hp1.out, Hm1.out, by simpa [outs] using Hown2.out⟩
        case round =>
          obtain ⟨k, hk, rfl, hbl, hpc, hm, hown⟩ := hrel
          have Hbl := Lib.hid hbl
          have Hpc := Lib.hid hpc
          have Hm := Lib.hid hm
          have Hown := Lib.hid hown
          have hsz : w.heap.size + 1 + 1 + 1 + 1 < wr.heap.size := cell_lt hpc.2
          obtain ⟨q1, q2⟩ := hpc
          clear hm hown
          by_cases hlt : k < acs.length
          · obtain ⟨a', c', e', hcc⟩ := HA.out
            cases e'
            obtain ⟨b, off, e2, hx⟩ := hcc k hlt
            cases e2
            all_goals
              rw [← hbl.cell (cell_lt hx)] at hx
              have hid := Hai.out _ (getD_mem acs 0 k hlt)
              have hol := outs_len ps acs k
              have hos : outs ps acs (k + 1) = outs ps acs k ++ (if !anyP ps ps.length (acs.getD k 0) then [acs.getD k 0] else []) := rfl
              obtain ⟨id, eid⟩ : ∃ id, acs.getD k 0 = id := ⟨_, rfl⟩
              rw [eid] at hx hid hos
              have hlk := Hm.out.look 86 Tryz.underlying86 hid
              obtain ⟨q, eq⟩ : ∃ q, anyP ps ps.length id = q := ⟨_, rfl⟩
              rw [eq] at hlk hos
              have Hos := Lib.hid hos
              clear hos hid eid eq hbl hcc
              cases q
              · go_wp2_with (at_builtin; refine app1 _ rfl _ _ 24 rfl 3 (.int .i64 0) 8 Tryz.underlying24 infoI rfl (by decide) (w.heap.size + 5) u8 _ _ rfl (Hown.out.alloc _) _ rfl (.int .i64 id) (by simp) rfl (by rw [List.length_append]; omega) (by simp; omega) ?_; intro v8 w8 hown8 hg8; have Hown8 := Lib.hid hown8; have Hg8 := Lib.hid hg8; clear hown8 hg8)
                go_roundw
                case rel =>
                  have hos := Hos.out
                  simp only [Bool.not_false, if_true] at hos
                  have hlo : ∀ g, Value.ownBlock u8 = some g → w.heap.size + 5 ≤ g := fun g h => (Hown.out.lt g h).1
                  refine ⟨k + 1, by omega, by go_num, Below.grown (Hbl.out.alloc (by omega) _) Hg8.out (by simp; omega) (fun g h => by have := hlo g h; omega), (Hpc.out.grown (World.grownBy_alloc _ _ none) (fun g h => by cases h)).grown Hg8.out (fun g h => .inr (.inr (hlo g h))), (Hm.out.alloc _).grown Hg8.out (fun e => by have := hlo _ e.symm; omega), ?_⟩
                  rw [hos, ← List.append_assoc, List.length_append, List.map_append, List.length_singleton]
                  exact Hown8.out
                case measure => simp [intOf]; omega
              · go_wp2
                go_roundw
                case rel =>
                  have hos := Hos.out
                  simp only [Bool.not_true, Bool.false_eq_true, if_false, List.append_nil] at hos
                  exact ⟨k + 1, by omega, by go_num, Hbl.out, Hpc.out, Hm.out, by rw [hos]; exact Hown.out⟩
                case measure => simp [intOf]; omega
          · obtain rfl : k = acs.length := by omega
            clear hbl q1 q2
            go_wp2
            go_ret
            have hown := Hown.out
            rw [← Epre.out] at hown
            exact ⟨_, rfl, own_base (base := w.heap.size + 5) (base' := w.heap.size) hown (by omega), gr_bel Hbl.out none⟩
end Go.Proofs.YteioleilblehiaaGreatDoor
