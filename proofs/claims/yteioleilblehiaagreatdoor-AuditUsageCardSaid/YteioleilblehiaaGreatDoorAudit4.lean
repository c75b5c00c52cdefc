/- audit.twice, by contract. -/
import Derived.Test.YteioleilblehiaaGreatDoorAudit3
namespace Go.Proofs.YteioleilblehiaaGreatDoor
open Go.RowKit

def cnt (l : List Int) (j : Int) : Int := ((l.filter (· == j)).length : Nat)
theorem cnt_bd (l : List Int) (j : Int) : 0 ≤ cnt l j ∧ cnt l j ≤ l.length := by
  unfold cnt
  have := List.length_filter_le (fun x => x == j) l
  omega
theorem cnt_snoc {l : List Int} {k : Nat} (h : k < l.length) (j : Int) : cnt (l.take (k + 1)) j = if j = l.getD k 0 then cnt (l.take k) (l.getD k 0) + 1 else cnt (l.take k) j := by
  unfold cnt
  have e : l.getD k 0 = l[k] := by rw [List.getD_eq_getElem?_getD, List.getElem?_eq_getElem h]; rfl
  rw [List.take_succ_eq_append_getElem h, List.filter_append, List.length_append, e]
  by_cases hj : j = l[k]
  · subst hj
    simp
  · rw [if_neg hj]
    have : (l[k] == j) = false := by simpa using fun h => hj h.symm
    simp [this]
def dups (l : List Int) : Nat → List Int
  | 0 => []
  | k + 1 => dups l k ++ (if 1 < cnt (l.take (k + 1)) (l.getD k 0) then [l.getD k 0] else [])
theorem dups_len (l : List Int) (k : Nat) : (dups l k).length ≤ k := by
  induction k with
  | zero => simp [dups]
  | succ k ih =>
    simp only [dups]
    split <;> simp <;> omega
theorem IMap.congr {w : World} {b n : Nat} {f g : Int → Int} (h : IMap w b n f) (e : ∀ j, f j = g j) : IMap w b n g := by
  have : f = g := funext e
  rw [← this]; exact h
theorem BMap.congr {w : World} {b n : Nat} {f g : Int → Bool} (h : BMap w b n f) (e : ∀ j, f j = g j) : BMap w b n g := by
  have : f = g := funext e
  rw [← this]; exact h
/-- The view's box. -/
def BoxAt (w : World) (g : Nat) (dims : Int) (a1 : Option Addr) (n1 c1 : Nat) (a2 : Option Addr) (n2 c2 : Nat) (a3 : Option Addr) (n3 c3 : Nat) (a4 : Option Addr) (n4 c4 : Nat) : Prop :=
  w.heap[g]? = some (.cells #[.int .i64 dims, .slice a1 n1 c1, .slice a2 n2 c2, .slice a3 n3 c3, .slice a4 n4 c4] 33 (0, 0))
def TwRel (w : World) (bx : Nat) (B : World → Prop) (mb : Nat) (ob : Nat) (l : List Int) (pre : List Int) (v : Value) (i : Value) (wr : World) : Prop :=
  ∃ k : Nat, k ≤ l.length ∧ i = .int .i64 k ∧ Below bx w wr ∧ B wr ∧ IMap wr mb k (cnt (l.take k)) ∧ wr.ownsRow ob 3 1 v (pre ++ dups l k).length ((pre ++ dups l k).map (Value.int .i64))

theorem own_base {w : World} {base base' : Nat} {e : TypeId} {size n : Nat} {v : Value} {xs : List Value} (h : w.ownsRow base e size v n xs) (hb : base' ≤ base) : w.ownsRow base' e size v n xs := by
  obtain ⟨h1, h2⟩ := h
  refine ⟨h1, ?_⟩
  rcases h2 with h2 | ⟨g, cap, cur, e1, e2, rest⟩
  · exact .inl h2
  · exact .inr ⟨g, cap, cur, e1, Nat.le_trans hb e2, rest⟩
theorem tw_skip {w wr w1 : World} {bx mb ob : Nat} {B : World → Prop} {l pre : List Int} {v : Value} {k : Nat} {id c : Int} {o : Obj} (hk : k < l.length) (hbl : Below bx w wr) (h1 : bx ≤ mb) (h2 : mb < ob) (h3 : ob ≤ wr.heap.size)
    (hB : B wr) (hst : ∀ W W' r, B W → W.grownBy W' r → (∀ g, r = some g → g = mb ∨ ob ≤ g) → B W') (hown : wr.ownsRow ob 3 1 v (pre ++ dups l k).length ((pre ++ dups l k).map (Value.int .i64)))
    (hg1 : (wr.alloc o).grownBy w1 (some mb)) (hm1 : IMap w1 mb (k + 1) (fun j => if j = id then c + 1 else cnt (l.take k) j)) (hcs : ∀ j, cnt (l.take (k + 1)) j = if j = id then c + 1 else cnt (l.take k) j)
    (hds : dups l (k + 1) = dups l k ++ (if 1 < c + 1 then [id] else [])) (hc : ¬ 1 < c + 1) : TwRel w bx B mb ob l pre v (.int .i64 ((k : Int) + 1)) w1 := by
  rw [if_neg hc, List.append_nil] at hds
  refine ⟨k + 1, hk, by go_num, (hbl.alloc (by omega) _).grown hg1 (by simp; omega) (fun g h => by cases h; exact h1), hst _ _ _ (hst _ _ none hB (World.grownBy_alloc _ o _) (fun g h => by cases h)) hg1 (fun g h => by cases h; exact .inl rfl), hm1.congr (fun j => (hcs j).symm), ?_⟩
  rw [hds]
  exact own_kept (hown.alloc _) hg1 (fun g h => by cases h; exact h2)
theorem tw_app {w wr w1 w8 : World} {bx mb ob : Nat} {B : World → Prop} {l pre : List Int} {v v8 : Value} {k : Nat} {id c : Int} {o o2 : Obj} (hk : k < l.length) (hbl : Below bx w wr) (h1 : bx ≤ mb) (h2 : mb < ob) (h3 : ob ≤ wr.heap.size)
    (hB : B wr) (hst : ∀ W W' r, B W → W.grownBy W' r → (∀ g, r = some g → g = mb ∨ ob ≤ g) → B W') (hown : wr.ownsRow ob 3 1 v (pre ++ dups l k).length ((pre ++ dups l k).map (Value.int .i64)))
    (hg1 : (wr.alloc o).grownBy w1 (some mb)) (hm1 : IMap w1 mb (k + 1) (fun j => if j = id then c + 1 else cnt (l.take k) j)) (hcs : ∀ j, cnt (l.take (k + 1)) j = if j = id then c + 1 else cnt (l.take k) j)
    (hds : dups l (k + 1) = dups l k ++ (if 1 < c + 1 then [id] else [])) (hc : 1 < c + 1)
    (hg8 : (w1.alloc o2).grownBy w8 v.ownBlock) (hown8 : w8.ownsRow ob 3 1 v8 ((pre ++ dups l k).length + 1) ((pre ++ dups l k).map (Value.int .i64) ++ [.int .i64 id])) : TwRel w bx B mb ob l pre v8 (.int .i64 ((k : Int) + 1)) w8 := by
  rw [if_pos hc] at hds
  have hB1 : B w1 := hst _ _ _ (hst _ _ none hB (World.grownBy_alloc _ o _) (fun g h => by cases h)) hg1 (fun g h => by cases h; exact .inl rfl)
  have hbl1 : Below bx w w1 := (hbl.alloc (by omega) _).grown hg1 (by simp; omega) (fun g h => by cases h; exact h1)
  have hlt : ∀ g, v.ownBlock = some g → ob ≤ g := fun g h => (hown.lt g h).1
  have hsz := hg1.size
  simp at hsz
  refine ⟨k + 1, hk, by go_num, (hbl1.alloc (by omega) _).grown hg8 (by simp; omega) (fun g h => by have := hlt g h; omega), hst _ _ _ (hst _ _ none hB1 (World.grownBy_alloc _ o2 _) (fun g h => by cases h)) hg8 (fun g h => .inr (hlt g h)), ?_, ?_⟩
  · exact ((hm1.alloc o2).grown hg8 (fun e => by have := hlt _ e.symm; omega)).congr (fun j => (hcs j).symm)
  · rw [hds, ← List.append_assoc, List.length_append, List.map_append, List.length_singleton]
    exact hown8

set_option maxHeartbeats 8000000 in
set_option maxRecDepth 100000 in
theorem audit_twice (dims : Int) (ns : List NodeR) (ps : List PodR) (a3 a4 : Option Addr) (n3 c3 n4 c4 : Nat) (nv pv : Value) (w : World) (hn : Nodes w nv ns) (hp : Pods w pv ps) (hnl : ns.length ≤ 100000000) (hpl : ps.length ≤ 100000000)
    (hni : ∀ n, n ∈ ns → in64 n.id) (hpi : ∀ p, p ∈ ps → in64 p.id) :
    Calls Tryz.prog 33 #[.agg #[.int .i64 dims, nv, pv, .slice a3 n3 c3, .slice a4 n4 c4]] w (IntsPost w none (dups (ns.map NodeR.id) ns.length ++ dups (ps.map PodR.id) ps.length)) := by
  obtain ⟨a1, c1, rfl, hc1⟩ := hn
  obtain ⟨a2, c2, rfl, hc2⟩ := hp
  have Hc1 := Lib.hid hc1
  have Hc2 := Lib.hid hc2
  have Hni := Lib.hid hni
  have Hpi := Lib.hid hpi
  clear hc1 hc2 hni hpi
  have hmm := @run_makeMap Tryz.prog
  go_enter Tryz.func33, Tryz.ntmps33
  go_wp2
  have Hbx := Lib.hid (blk_new w (.cells #[.int .i64 dims, .slice a1 ns.length c1, .slice a2 ps.length c2, .slice a3 n3 c3, .slice a4 n4 c4] 33))
  have hbx2 : BoxAt (((w.alloc (.cells #[.int .i64 dims, .slice a1 ns.length c1, .slice a2 ps.length c2, .slice a3 n3 c3, .slice a4 n4 c4] 33)).alloc (.map #[] 0)).alloc (.map #[] 0)) w.heap.size dims a1 ns.length c1 a2 ps.length c2 a3 n3 c3 a4 n4 c4 := blk_old (blk_old Hbx.out _) _
  have hi1 := (IMap.made (w.alloc (.cells #[.int .i64 dims, .slice a1 ns.length c1, .slice a2 ps.length c2, .slice a3 n3 c3, .slice a4 n4 c4] 33))).alloc (.map #[] 0)
  have hi2 := IMap.made ((w.alloc (.cells #[.int .i64 dims, .slice a1 ns.length c1, .slice a2 ps.length c2, .slice a3 n3 c3, .slice a4 n4 c4] 33)).alloc (.map #[] 0))
  have hbw : Below w.heap.size w (((w.alloc (.cells #[.int .i64 dims, .slice a1 ns.length c1, .slice a2 ps.length c2, .slice a3 n3 c3, .slice a4 n4 c4] 33)).alloc (.map #[] 0)).alloc (.map #[] 0)) := bel_alloc (bel_alloc (bel_alloc (Below.refl _ _) _) _) _
  simp only [World.size_alloc] at hi1 hi2
  have Hbx2 := Lib.hid hbx2
  have Hi1 := Lib.hid hi1
  have Hi2 := Lib.hid hi2
  have Hbw := Lib.hid hbw
  clear hbx2 hi1 hi2 hbw
  have hBst : ∀ W W' r, (BoxAt W w.heap.size dims a1 ns.length c1 a2 ps.length c2 a3 n3 c3 a4 n4 c4 ∧ IMap W (w.heap.size + 1 + 1) 0 (fun _ => 0)) → W.grownBy W' r → (∀ g, r = some g → g = w.heap.size + 1 ∨ w.heap.size + 3 ≤ g) →
      (BoxAt W' w.heap.size dims a1 ns.length c1 a2 ps.length c2 a3 n3 c3 a4 n4 c4 ∧ IMap W' (w.heap.size + 1 + 1) 0 (fun _ => 0)) := fun W W' r h hg hr =>
    ⟨gr_block hg h.1 (fun e => by have := hr _ e.symm; omega), h.2.grown hg (fun e => by have := hr _ e.symm; omega)⟩
  have HBst := Lib.hid hBst
  clear hBst
  go_loopw [3, 15] (TwRel w w.heap.size (fun W => BoxAt W w.heap.size dims a1 ns.length c1 a2 ps.length c2 a3 n3 c3 a4 n4 c4 ∧ IMap W (w.heap.size + 1 + 1) 0 (fun _ => 0)) (w.heap.size + 1) (w.heap.size + 3) (ns.map NodeR.id) []) (fun _ i _ => ns.length - (intOf i).toNat)
  case atStart => exact ⟨0, Nat.zero_le _, rfl, Hbw.out, ⟨Hbx2.out, Hi2.out⟩, Hi1.out.congr (fun j => rfl), by simpa [dups] using World.ownsRow_nil _ _ _ _⟩
  case round =>
    obtain ⟨k, hk, rfl, hbl, hB, him, hown⟩ := hrel
    rw [List.length_map] at hk
    have Hbl := Lib.hid hbl
    have HB := Lib.hid hB
    have Him := Lib.hid him
    have Hown := Lib.hid hown
    have hszm : w.heap.size + 1 < wr.heap.size := him.lt
    have hsz3 : w.heap.size + 3 ≤ wr.heap.size := by have := hB.2.lt; omega
    clear him hown
    by_cases hlt : k < ns.length
    · obtain ⟨b, off, cv, rfl, hnat⟩ := Hc1.out k hlt
      obtain ⟨g0, g1, gs⟩ := hnat.below hbl
      obtain ⟨ar, cr, erv, _⟩ := gs
      subst erv
      have hidk := Hni.out _ (getD_mem ns node0 k hlt)
      have hld : (ns.map NodeR.id).getD k 0 = (ns.getD k node0).id := by simp [List.getD_eq_getElem?_getD, List.getElem?_eq_getElem hlt]
      have hcs := cnt_snoc (l := ns.map NodeR.id) (k := k) (by simpa using hlt)
      have hcb := cnt_bd ((ns.map NodeR.id).take k) ((ns.map NodeR.id).getD k 0)
      have hdl := dups_len (ns.map NodeR.id) k
      have hds : dups (ns.map NodeR.id) (k + 1) = dups (ns.map NodeR.id) k ++ (if 1 < cnt ((ns.map NodeR.id).take (k + 1)) ((ns.map NodeR.id).getD k 0) then [(ns.map NodeR.id).getD k 0] else []) := rfl
      rw [hcs ((ns.map NodeR.id).getD k 0), if_pos rfl] at hds
      rw [hld] at hcs hcb hds
      obtain ⟨id, eid⟩ : ∃ id, (ns.getD k node0).id = id := ⟨_, rfl⟩
      rw [eid] at g0 hidk hcs hcb hds
      generalize (ns.getD k node0).cap.length = rl at *
      obtain ⟨c, ec⟩ : ∃ c, cnt ((ns.map NodeR.id).take k) id = c := ⟨_, rfl⟩
      rw [ec] at hcs hcb hds
      have hcb1 : 0 ≤ c := hcb.1
      have hcb2 : c ≤ 100000000 := by have := hcb.2; rw [List.length_take] at this; omega
      have hlk := (Him.out.alloc (.cells #[.int .i64 id, .slice ar rl cr] 40)).look 83 Tryz.underlying83 hidk
      rw [ec] at hlk
      have Hcs := Lib.hid hcs
      have Hds := Lib.hid hds
      have Hidk := Lib.hid hidk
      have Hdl := Lib.hid hdl
      clear hcs hds hidk hdl hld eid ec hcb hnat hB hbl
      by_cases hc1 : 1 < c + 1
      all_goals
        go_wp2_with (first
          | (at_mapUpdate; refine upd_i _ rfl _ _ _ 83 rfl Tryz.underlying83 (w.heap.size + 1) k _ rfl (Him.out.alloc _) (by omega) id (c + 1) rfl rfl Hidk.out ⟨by omega, by omega⟩ ?_; intro w1 hm1 hg1; have hl2 := hm1.look 83 Tryz.underlying83 Hidk.out; rw [if_pos rfl] at hl2; have hbk := gr_block hg1 (blk_new wr _) (by simp; omega); have p0 : w1.cell? ⟨wr.heap.size, 0, none⟩ = some (.int .i64 id) := blk_cell hbk 0; have hs1 : wr.heap.size < w1.heap.size := Nat.lt_of_lt_of_le (by simp) hg1.size; have Hm1 := Lib.hid hm1; have Hg1 := Lib.hid hg1; clear hm1 hg1 hbk hlk)
          | (at_builtin; refine app1 _ rfl _ _ 24 rfl 3 (.int .i64 0) 8 Tryz.underlying24 infoI rfl (by decide) (w.heap.size + 3) u3 _ _ rfl ((own_kept (Hown.out.alloc _) Hg1.out (fun g h => by cases h; omega)).alloc _) _ rfl (.int .i64 id) (by simp) rfl (by have := Hdl.out; simp; omega) (by simp; omega) ?_; intro v8 w8 hown8 hg8; have Hown8 := Lib.hid hown8; have Hg8 := Lib.hid hg8; clear hown8 hg8))
        go_roundw
      · exact tw_app (by simpa using hlt) Hbl.out (by omega) (by omega) hsz3 HB.out HBst.out Hown.out Hg1.out Hm1.out Hcs.out Hds.out hc1 Hg8.out (by simpa using Hown8.out)
      · simp [intOf]; omega
      · exact tw_skip (by simpa using hlt) Hbl.out (by omega) (by omega) hsz3 HB.out HBst.out Hown.out Hg1.out Hm1.out Hcs.out Hds.out hc1
      · simp [intOf]; omega
    · obtain rfl : k = ns.length := by omega
      have hbx : BoxAt wr w.heap.size dims a1 ns.length c1 a2 ps.length c2 a3 n3 c3 a4 n4 c4 := HB.out.1
      have x2 : wr.cell? ⟨w.heap.size, 2, none⟩ = some (.slice a2 ps.length c2) := blk_cell hbx 2
      have HB2 := Lib.hid HB.out.2
      have Hbx3 := Lib.hid hbx
      have hdl0 := dups_len (ns.map NodeR.id) ns.length
      have Hdl0 := Lib.hid hdl0
      clear hB hbl hbx hdl0
      go_wp2
      clear x2
      have hBst2 : ∀ W W' r, BoxAt W w.heap.size dims a1 ns.length c1 a2 ps.length c2 a3 n3 c3 a4 n4 c4 → W.grownBy W' r → (∀ g, r = some g → g = w.heap.size + 1 + 1 ∨ w.heap.size + 3 ≤ g) → BoxAt W' w.heap.size dims a1 ns.length c1 a2 ps.length c2 a3 n3 c3 a4 n4 c4 :=
        fun W W' r h hg hr => gr_block hg h (fun e => by have := hr _ e.symm; omega)
      have HBst2 := Lib.hid hBst2
      clear hBst2
      obtain ⟨D, hD⟩ : ∃ D, dups (ns.map NodeR.id) ns.length = D := ⟨_, rfl⟩
      rw [hD] at Hown Hdl0
      rw [List.nil_append] at Hown
      have HD := Lib.hid hD
      clear hD
      go_loopw [3, 38] (TwRel w w.heap.size (fun W => BoxAt W w.heap.size dims a1 ns.length c1 a2 ps.length c2 a3 n3 c3 a4 n4 c4) (w.heap.size + 1 + 1) (w.heap.size + 3) (ps.map PodR.id) D) (fun _ i _ => ps.length - (intOf i).toNat)
      case atStart => exact ⟨0, Nat.zero_le _, rfl, Hbl.out, Hbx3.out, HB2.out.congr (fun j => rfl), by simpa [dups] using Hown.out⟩
      case round =>
        obtain ⟨k, hk, rfl, hbl, hB, him, hown⟩ := hrel
        rw [List.length_map] at hk
        have Hbl := Lib.hid hbl
        have HB := Lib.hid hB
        have Him := Lib.hid him
        have Hown := Lib.hid hown
        have hszm : w.heap.size + 1 + 1 < wr.heap.size := him.lt
        have hsz3 : w.heap.size + 3 ≤ wr.heap.size := by omega
        clear him hown
        by_cases hlt : k < ps.length
        · obtain ⟨b, off, rv, rfl, hpat⟩ := Hc2.out k hlt
          obtain ⟨g0, g1, g2, g3, g4, g5, g6, g7, g8, gs⟩ := hpat.below hbl
          obtain ⟨ar, cr, erv, _⟩ := gs
          subst erv
          have hidk := Hpi.out _ (getD_mem ps pod0 k hlt)
          have hld : (ps.map PodR.id).getD k 0 = (ps.getD k pod0).id := by simp [List.getD_eq_getElem?_getD, List.getElem?_eq_getElem hlt]
          have hcs := cnt_snoc (l := ps.map PodR.id) (k := k) (by simpa using hlt)
          have hcb := cnt_bd ((ps.map PodR.id).take k) ((ps.map PodR.id).getD k 0)
          have hdl := dups_len (ps.map PodR.id) k
          have hds : dups (ps.map PodR.id) (k + 1) = dups (ps.map PodR.id) k ++ (if 1 < cnt ((ps.map PodR.id).take (k + 1)) ((ps.map PodR.id).getD k 0) then [(ps.map PodR.id).getD k 0] else []) := rfl
          rw [hcs ((ps.map PodR.id).getD k 0), if_pos rfl] at hds
          rw [hld] at hcs hcb hds
          obtain ⟨p, ep⟩ : ∃ p, ps.getD k pod0 = p := ⟨_, rfl⟩
          rw [ep] at g0 g1 g2 g3 g4 g5 g6 g7 g8 hidk hcs hcb hds
          generalize p.req.length = rl at *
          obtain ⟨c, ec⟩ : ∃ c, cnt ((ps.map PodR.id).take k) p.id = c := ⟨_, rfl⟩
          rw [ec] at hcs hcb hds
          have hcb1 : 0 ≤ c := hcb.1
          have hcb2 : c ≤ 100000000 := by have := hcb.2; rw [List.length_take] at this; omega
          have hlk := (Him.out.alloc (.cells #[.int .i64 p.id, .int .i64 p.prio, .bool p.pre, .int .i64 p.grace, .slice ar rl cr, .int .i64 p.arr, .int .i64 p.phase, .int .i64 p.node, .int .i64 p.dl] 31)).look 83 Tryz.underlying83 hidk
          rw [ec] at hlk
          have Hcs := Lib.hid hcs
          have Hds := Lib.hid hds
          have Hidk := Lib.hid hidk
          have Hdl := Lib.hid hdl
          clear hcs hds hidk hdl hld ep ec hcb hpat hB hbl
          by_cases hc1 : 1 < c + 1
          all_goals
            go_wp2_with (first
              | (at_mapUpdate; refine upd_i _ rfl _ _ _ 83 rfl Tryz.underlying83 (w.heap.size + 1 + 1) k _ rfl (Him.out.alloc _) (by omega) p.id (c + 1) rfl rfl Hidk.out ⟨by omega, by omega⟩ ?_; intro w1 hm1 hg1; have hl2 := hm1.look 83 Tryz.underlying83 Hidk.out; rw [if_pos rfl] at hl2; have hbk := gr_block hg1 (blk_new wr _) (by simp; omega); have p0 : w1.cell? ⟨wr.heap.size, 0, none⟩ = some (.int .i64 p.id) := blk_cell hbk 0; have hs1 : wr.heap.size < w1.heap.size := Nat.lt_of_lt_of_le (by simp) hg1.size; have Hm1 := Lib.hid hm1; have Hg1 := Lib.hid hg1; clear hm1 hg1 hbk hlk)
              | (at_builtin; refine app1 _ rfl _ _ 24 rfl 3 (.int .i64 0) 8 Tryz.underlying24 infoI rfl (by decide) (w.heap.size + 3) u3 _ _ rfl ((own_kept (Hown.out.alloc _) Hg1.out (fun g h => by cases h; omega)).alloc _) _ rfl (.int .i64 p.id) (by simp) rfl (by have := Hdl.out; have := Hdl0.out; rw [List.length_append]; omega) (by simp; omega) ?_; intro v8 w8 hown8 hg8; have Hown8 := Lib.hid hown8; have Hg8 := Lib.hid hg8; clear hown8 hg8))
            go_roundw
          · exact tw_app (by simpa using hlt) Hbl.out (by omega) (by omega) hsz3 HB.out HBst2.out Hown.out Hg1.out Hm1.out Hcs.out Hds.out hc1 Hg8.out Hown8.out
          · simp [intOf]; omega
          · exact tw_skip (by simpa using hlt) Hbl.out (by omega) (by omega) hsz3 HB.out HBst2.out Hown.out Hg1.out Hm1.out Hcs.out Hds.out hc1
          · simp [intOf]; omega
        · obtain rfl : k = ps.length := by omega
          clear hB hbl
          go_wp2
          go_ret
          have hown := Hown.out
          rw [← HD.out] at hown
          exact ⟨_, rfl, own_base (base := w.heap.size + 3) (base' := w.heap.size) hown (by omega), gr_below (gr_refl w none) Hbl.out⟩
end Go.Proofs.YteioleilblehiaaGreatDoor
