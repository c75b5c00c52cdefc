/- audit.pods at its three predicates, by contract. -/
import Derived.Test.YteioleilblehiaaGreatDoorUsage
import Derived.Test.YteioleilblehiaaGreatDoorMaps
import Derived.Test.YteioleilblehiaaGreatDoorPhase
namespace Go.Proofs.YteioleilblehiaaGreatDoor
open Go.RowKit

theorem infoI : (Tryz.prog.info? 3).map (fun i => (i.zero, i.size, i.bytes)) = some (some (.int .i64 0), 1, 8) := by kernel_rfl
/-- A list of ints in a row of the call's own. -/
def IntsPost (w : World) (row : Option Nat) (xs : List Int) (e : Ending) (w' : World) : Prop := ∃ v, e = .returned v ∧ w'.ownsRow w.heap.size 3 1 v xs.length (xs.map (Value.int .i64)) ∧ w.grownBy w' row
theorem I64s.of_ints {w : World} {base : Nat} {v : Value} {xs : List Int} (h : w.ownsRow base 3 1 v xs.length (xs.map (Value.int .i64))) : I64s w v xs := by
  obtain ⟨h1, h2⟩ := h
  rcases h2 with ⟨rfl, h0⟩ | ⟨g, cap, cur, rfl, hb, hg, hn, hm, hs, ht⟩
  · have : xs = [] := List.length_eq_zero_iff.1 h0
    subst this
    exact I64s.nil w
  · refine ⟨_, cap, rfl, fun i hi => ⟨g, 0, rfl, ?_⟩⟩
    have e : cur[i]? = some (.int .i64 (xs.getD i 0)) := by
      have := congrArg (fun l => l[i]?) ht
      simp only [List.getElem?_take, List.getElem?_map] at this
      rw [if_pos (by omega)] at this
      rw [← Array.getElem?_toList, this]
      simp [List.getElem?_eq_getElem hi]
    simp [World.cell?, hg, e]
theorem gr_refl (w : World) (row : Option Nat) : w.grownBy w row := ⟨rfl, rfl, rfl, Nat.le_refl _, fun _ _ _ => rfl⟩
theorem gr_trans {a b c : World} {row : Option Nat} (h : a.grownBy b row) (k : b.grownBy c row) : a.grownBy c row :=
  ⟨k.os.trans h.os, k.tape.trans h.tape, k.output.trans h.output, Nat.le_trans h.size k.size, fun i hi hne => (k.block i (Nat.lt_of_lt_of_le hi h.size) hne).trans (h.block i hi hne)⟩
theorem gr_below {a b c : World} {row : Option Nat} (h : a.grownBy b row) (k : Below b.heap.size b c) : a.grownBy c row :=
  gr_trans h ⟨k.os, k.tape, k.output, k.size, fun i hi _ => k.block i hi⟩
/-- A step that turns only a row beyond what was there. -/
theorem gr_own {a b c : World} {row r : Option Nat} (h : a.grownBy b row) (k : b.grownBy c r) (hr : ∀ g, r = some g → a.heap.size ≤ g) : a.grownBy c row :=
  ⟨k.os.trans h.os, k.tape.trans h.tape, k.output.trans h.output, Nat.le_trans h.size k.size, fun i hi hne => (k.block i (Nat.lt_of_lt_of_le hi h.size) (fun e => by have := hr i e.symm; omega)).trans (h.block i hi hne)⟩
theorem gr_block {a b : World} {row : Option Nat} (h : a.grownBy b row) {g : Nat} {o : Obj} (hg : a.heap[g]? = some o) (hne : some g ≠ row) : b.heap[g]? = some o := (h.block g (blk_lt hg) hne).trans hg
theorem own_kept {w w' : World} {base : Nat} {e : TypeId} {size n : Nat} {v : Value} {xs : List Value} {row : Option Nat} (h : w.ownsRow base e size v n xs) (hg : w.grownBy w' row) (hr : ∀ g, row = some g → g < base) : w'.ownsRow base e size v n xs := by
  refine h.kept hg ?_
  cases hv : Value.ownBlock v with
  | none => exact .inl rfl
  | some g =>
    right
    intro e
    have h1 := (h.lt g hv).1
    have h2 := hr g e.symm
    omega
def idsOf (ps : List PodR) (f : PodR → Bool) : List Int := (ps.filter f).map PodR.id
theorem ids_snoc {ps : List PodR} {k : Nat} (h : k < ps.length) (f : PodR → Bool) : idsOf (ps.take (k + 1)) f = idsOf (ps.take k) f ++ (if f (ps.getD k pod0) then [(ps.getD k pod0).id] else []) := by
  unfold idsOf
  rw [List.take_succ_eq_append_getElem h, List.filter_append, List.map_append]
  have e : ps.getD k pod0 = ps[k] := by rw [List.getD_eq_getElem?_getD, List.getElem?_eq_getElem h]; rfl
  rw [e]
  simp only [List.filter_cons, List.filter_nil]
  split <;> simp
theorem ids_len (ps : List PodR) (f : PodR → Bool) (k : Nat) : (idsOf (ps.take k) f).length ≤ ps.length := by
  unfold idsOf
  rw [List.length_map]
  have := List.length_filter_le f (ps.take k)
  rw [List.length_take] at this
  omega
/-- The value of a pod. -/
def podV (p : PodR) (rv : Value) : Value := .agg #[.int .i64 p.id, .int .i64 p.prio, .bool p.pre, .int .i64 p.grace, rv, .int .i64 p.arr, .int .i64 p.phase, .int .i64 p.node, .int .i64 p.dl]
def PodsRel (w : World) (row : Option Nat) (J : Nat → World → Prop) (ps : List PodR) (f : PodR → Bool) (v : Value) (i : Value) (wr : World) : Prop :=
  ∃ k : Nat, k ≤ ps.length ∧ i = .int .i64 k ∧ w.grownBy wr row ∧ wr.ownsRow w.heap.size 3 1 v (idsOf (ps.take k) f).length ((idsOf (ps.take k) f).map (Value.int .i64)) ∧ J k wr
def PodsPost (w : World) (row : Option Nat) (J : World → Prop) (xs : List Int) (e : Ending) (w' : World) : Prop := ∃ v, e = .returned v ∧ w'.ownsRow w.heap.size 3 1 v xs.length (xs.map (Value.int .i64)) ∧ w.grownBy w' row ∧ J w'
theorem gr_pod {w W : World} {row : Option Nat} {b o : Nat} {rv : Value} {p : PodR} (h : PodAt w b o rv p) (hg : w.grownBy W row) (hb : some b ≠ row) (hs : I64s W rv p.req) : PodAt W b o rv p := by
  obtain ⟨h0, h1, h2, h3, h4, h5, h6, h7, h8, _⟩ := h
  have k : ∀ {j : Nat} {v : Value}, w.cell? ⟨b, j, none⟩ = some v → W.cell? ⟨b, j, none⟩ = some v := fun h => by
    rw [World.cell?_of_block (w := w) (hg.block b (cell_lt h) hb)]; exact h
  exact ⟨k h0, k h1, k h2, k h3, k h4, k h5, k h6, k h7, k h8, hs⟩
/-- The requests' rows do not lie in the row that turns. -/
def Apart (row : Option Nat) (w : World) (v : Value) (ps : List PodR) : Prop := ∃ a cap, v = .slice a ps.length cap ∧ ∀ i, i < ps.length → ∃ b off rv, a = some ⟨b, off, none⟩ ∧ some b ≠ row ∧ PodAt w b (off + i * 9) rv (ps.getD i pod0) ∧ ∀ W : World, w.grownBy W row → I64s W rv (ps.getD i pod0).req

set_option maxHeartbeats 4000000 in
set_option maxRecDepth 100000 in
theorem pods_phases (q1 : Nat) (row : Option Nat) (J : Nat → World → Prop) (f : PodR → Bool) (dims : Int) (a1 a3 a4 : Option Addr) (n1 c1 n3 c3 n4 c4 : Nat) (v : Value) (ps : List PodR) (w : World) (hp : Apart row w v ps) (hn : ps.length ≤ 100000000)
    (hrow : ∀ g, row = some g → g < w.heap.size) (h0 : J 0 w)
    (HJ : ∀ k W W' r, J k W → W.grownBy W' r → (∀ g, r = some g → w.heap.size ≤ g) → J k W')
    (HP : ∀ W k rv, k < ps.length → w.grownBy W row → J k W → I64s W rv (ps.getD k pod0).req → Calls Tryz.prog 47 #[podV (ps.getD k pod0) rv, .pointer (some ⟨q1, 0, none⟩)] W fun e w' => e = .returned (.bool (f (ps.getD k pod0))) ∧ W.grownBy w' row ∧ J (k + 1) w') :
    Calls Tryz.prog 46 #[.agg #[.int .i64 dims, .slice a1 n1 c1, v, .slice a3 n3 c3, .slice a4 n4 c4], .func (.func 47) #[] #[.pointer (some ⟨q1, 0, none⟩)]] w (PodsPost w row (J ps.length) (idsOf ps f)) := by
  obtain ⟨a2, c2, rfl, hc⟩ := hp
  have Hc := Lib.hid hc
  have HJ := Lib.hid HJ
  have HP := Lib.hid HP
  have H0 := Lib.hid h0
  have Hrow := Lib.hid hrow
  clear hc h0 hrow
  rename_i HJ0 HP0
  clear HJ0 HP0
  go_enter Tryz.func46, Tryz.ntmps46
  go_wp2
  have Hbx := Lib.hid (blk_new w (.cells #[.int .i64 dims, .slice a1 n1 c1, .slice a2 ps.length c2, .slice a3 n3 c3, .slice a4 n4 c4] 33))
  go_loopw [5, 11] (PodsRel w row J ps f) (fun _ i _ => ps.length - (intOf i).toNat)
  case atStart => exact ⟨0, Nat.zero_le _, rfl, gr_below (gr_refl w row) (bel_alloc (Below.refl _ _) _), by simpa [idsOf] using World.ownsRow_nil _ _ _ _, HJ.out _ _ _ none H0.out (World.grownBy_alloc _ _ _) (fun g h => by cases h)⟩
  case round =>
    obtain ⟨k, hk, rfl, hg, hown, hJ⟩ := hrel
    have Hg := Lib.hid hg
    have Hown := Lib.hid hown
    have HJk := Lib.hid hJ
    have hsz : w.heap.size ≤ wr.heap.size := hg.size
    clear hown hJ hg
    by_cases hlt : k < ps.length
    · obtain ⟨b, off, rv, rfl, hbr, hpat, hreq⟩ := Hc.out k hlt
      have hI := hreq wr Hg.out
      obtain ⟨g0, g1, g2, g3, g4, g5, g6, g7, g8, gs⟩ := gr_pod hpat Hg.out hbr hI
      have Gs := Lib.hid (hreq _ (gr_below Hg.out (bel_alloc (Below.refl _ wr) (.cells #[.int .i64 (ps.getD k pod0).id, .int .i64 (ps.getD k pod0).prio, .bool (ps.getD k pod0).pre, .int .i64 (ps.getD k pod0).grace, rv, .int .i64 (ps.getD k pod0).arr, .int .i64 (ps.getD k pod0).phase, .int .i64 (ps.getD k pod0).node, .int .i64 (ps.getD k pod0).dl] 31))))
      have Hpt := Lib.hid (HP.out _ k rv hlt (gr_below Hg.out (bel_alloc (Below.refl _ wr) _)) (HJ.out _ _ _ none HJk.out (World.grownBy_alloc _ _ _) (fun g h => by cases h)) Gs.out)
      have hsn := ids_snoc hlt f
      have hil := ids_len ps f k
      obtain ⟨ar, cr, erv, _⟩ := hI
      subst erv
      obtain ⟨p, hp⟩ : ∃ p, ps.getD k pod0 = p := ⟨_, rfl⟩
      rw [hp] at g0 g1 g2 g3 g4 g5 g6 g7 g8 Hpt hsn
      unfold podV at Hpt
      try rw [hp] at g4
      generalize p.req.length = rl at *
      have Hsn := Lib.hid hsn
      clear gs Gs hpat hreq hsn hp
      cases e1 : f p
      all_goals
        rw [e1] at Hpt
        go_wp2_with (first
          | (go_at_call 47; refine ((Hpt.out).mono ?_); rintro e w1 ⟨rfl, hg1, hJ1⟩; have hcp := blk_cell (gr_block hg1 (blk_new wr _) (fun e => by have := Hrow.out _ e.symm; omega)) 0; have hs1 : wr.heap.size < w1.heap.size := Nat.lt_of_lt_of_le (by simp) hg1.size; have Hg1 := Lib.hid (gr_trans (gr_below Hg.out (bel_alloc (Below.refl _ wr) _)) hg1); have Hown1 := Lib.hid (own_kept (Hown.out.alloc _) hg1 Hrow.out); have HJ1 := Lib.hid hJ1; clear hg1 hJ1)
          | (at_builtin; refine app1 _ rfl _ _ 24 rfl 3 (.int .i64 0) 8 Tryz.underlying24 infoI rfl (by decide) w.heap.size u5 _ _ rfl (Hown1.out.alloc _) _ rfl (.int .i64 p.id) (by simp) rfl (by omega) (by simp; omega) ?_; intro v8 w8 hown8 hg8; have Hown8 := Lib.hid hown8; have Hg8 := Lib.hid hg8; clear hown8 hg8))
        go_roundw
      · have hs2 := Hsn.out
        rw [e1] at hs2
        simp only [Bool.false_eq_true, if_false, List.append_nil] at hs2
        exact ⟨k + 1, by omega, by go_num, Hg1.out, by rw [hs2]; exact Hown1.out, HJ1.out⟩
      · simp [intOf]; omega
      · have hs2 := Hsn.out
        rw [e1] at hs2
        simp only [if_true] at hs2
        exact ⟨k + 1, by omega, by go_num, gr_own (gr_below Hg1.out (bel_alloc (Below.refl _ _) _)) Hg8.out (fun g h => (Hown1.out.lt g h).1), by rw [hs2, List.length_append, List.map_append, List.length_singleton]; exact Hown8.out, HJ.out _ _ _ _ (HJ.out _ _ _ none HJ1.out (World.grownBy_alloc _ _ _) (fun g h => by cases h)) Hg8.out (fun g h => (Hown1.out.lt g h).1)⟩
      · simp [intOf]; omega
    · obtain rfl : k = ps.length := by omega
      go_wp2
      go_ret
      have htk : ps.take ps.length = ps := List.take_length
      have hown := Hown.out
      rw [htk] at hown
      exact ⟨_, rfl, hown, Hg.out, HJk.out⟩
set_option maxHeartbeats 4000000 in
set_option maxRecDepth 100000 in
theorem pods_places (q1 : Nat) (row : Option Nat) (J : Nat → World → Prop) (f : PodR → Bool) (dims : Int) (a1 a3 a4 : Option Addr) (n1 c1 n3 c3 n4 c4 : Nat) (v : Value) (ps : List PodR) (w : World) (hp : Apart row w v ps) (hn : ps.length ≤ 100000000)
    (hrow : ∀ g, row = some g → g < w.heap.size) (h0 : J 0 w)
    (HJ : ∀ k W W' r, J k W → W.grownBy W' r → (∀ g, r = some g → w.heap.size ≤ g) → J k W')
    (HP : ∀ W k rv, k < ps.length → w.grownBy W row → J k W → I64s W rv (ps.getD k pod0).req → Calls Tryz.prog 49 #[podV (ps.getD k pod0) rv, .pointer (some ⟨q1, 0, none⟩)] W fun e w' => e = .returned (.bool (f (ps.getD k pod0))) ∧ W.grownBy w' row ∧ J (k + 1) w') :
    Calls Tryz.prog 46 #[.agg #[.int .i64 dims, .slice a1 n1 c1, v, .slice a3 n3 c3, .slice a4 n4 c4], .func (.func 49) #[] #[.pointer (some ⟨q1, 0, none⟩)]] w (PodsPost w row (J ps.length) (idsOf ps f)) := by
  obtain ⟨a2, c2, rfl, hc⟩ := hp
  have Hc := Lib.hid hc
  have HJ := Lib.hid HJ
  have HP := Lib.hid HP
  have H0 := Lib.hid h0
  have Hrow := Lib.hid hrow
  clear hc h0 hrow
  rename_i HJ0 HP0
  clear HJ0 HP0
  go_enter Tryz.func46, Tryz.ntmps46
  go_wp2
  have Hbx := Lib.hid (blk_new w (.cells #[.int .i64 dims, .slice a1 n1 c1, .slice a2 ps.length c2, .slice a3 n3 c3, .slice a4 n4 c4] 33))
  go_loopw [5, 11] (PodsRel w row J ps f) (fun _ i _ => ps.length - (intOf i).toNat)
  case atStart => exact ⟨0, Nat.zero_le _, rfl, gr_below (gr_refl w row) (bel_alloc (Below.refl _ _) _), by simpa [idsOf] using World.ownsRow_nil _ _ _ _, HJ.out _ _ _ none H0.out (World.grownBy_alloc _ _ _) (fun g h => by cases h)⟩
  case round =>
    obtain ⟨k, hk, rfl, hg, hown, hJ⟩ := hrel
    have Hg := Lib.hid hg
    have Hown := Lib.hid hown
    have HJk := Lib.hid hJ
    have hsz : w.heap.size ≤ wr.heap.size := hg.size
    clear hown hJ hg
    by_cases hlt : k < ps.length
    · obtain ⟨b, off, rv, rfl, hbr, hpat, hreq⟩ := Hc.out k hlt
      have hI := hreq wr Hg.out
      obtain ⟨g0, g1, g2, g3, g4, g5, g6, g7, g8, gs⟩ := gr_pod hpat Hg.out hbr hI
      have Gs := Lib.hid (hreq _ (gr_below Hg.out (bel_alloc (Below.refl _ wr) (.cells #[.int .i64 (ps.getD k pod0).id, .int .i64 (ps.getD k pod0).prio, .bool (ps.getD k pod0).pre, .int .i64 (ps.getD k pod0).grace, rv, .int .i64 (ps.getD k pod0).arr, .int .i64 (ps.getD k pod0).phase, .int .i64 (ps.getD k pod0).node, .int .i64 (ps.getD k pod0).dl] 31))))
      have Hpt := Lib.hid (HP.out _ k rv hlt (gr_below Hg.out (bel_alloc (Below.refl _ wr) _)) (HJ.out _ _ _ none HJk.out (World.grownBy_alloc _ _ _) (fun g h => by cases h)) Gs.out)
      have hsn := ids_snoc hlt f
      have hil := ids_len ps f k
      obtain ⟨ar, cr, erv, _⟩ := hI
      subst erv
      obtain ⟨p, hp⟩ : ∃ p, ps.getD k pod0 = p := ⟨_, rfl⟩
      rw [hp] at g0 g1 g2 g3 g4 g5 g6 g7 g8 Hpt hsn
      unfold podV at Hpt
      try rw [hp] at g4
      generalize p.req.length = rl at *
      have Hsn := Lib.hid hsn
      clear gs Gs hpat hreq hsn hp
      cases e1 : f p
      all_goals
        rw [e1] at Hpt
        go_wp2_with (first
          | (go_at_call 49; refine ((Hpt.out).mono ?_); rintro e w1 ⟨rfl, hg1, hJ1⟩; have hcp := blk_cell (gr_block hg1 (blk_new wr _) (fun e => by have := Hrow.out _ e.symm; omega)) 0; have hs1 : wr.heap.size < w1.heap.size := Nat.lt_of_lt_of_le (by simp) hg1.size; have Hg1 := Lib.hid (gr_trans (gr_below Hg.out (bel_alloc (Below.refl _ wr) _)) hg1); have Hown1 := Lib.hid (own_kept (Hown.out.alloc _) hg1 Hrow.out); have HJ1 := Lib.hid hJ1; clear hg1 hJ1)
          | (at_builtin; refine app1 _ rfl _ _ 24 rfl 3 (.int .i64 0) 8 Tryz.underlying24 infoI rfl (by decide) w.heap.size u5 _ _ rfl (Hown1.out.alloc _) _ rfl (.int .i64 p.id) (by simp) rfl (by omega) (by simp; omega) ?_; intro v8 w8 hown8 hg8; have Hown8 := Lib.hid hown8; have Hg8 := Lib.hid hg8; clear hown8 hg8))
        go_roundw
      · have hs2 := Hsn.out
        rw [e1] at hs2
        simp only [Bool.false_eq_true, if_false, List.append_nil] at hs2
        exact ⟨k + 1, by omega, by go_num, Hg1.out, by rw [hs2]; exact Hown1.out, HJ1.out⟩
      · simp [intOf]; omega
      · have hs2 := Hsn.out
        rw [e1] at hs2
        simp only [if_true] at hs2
        exact ⟨k + 1, by omega, by go_num, gr_own (gr_below Hg1.out (bel_alloc (Below.refl _ _) _)) Hg8.out (fun g h => (Hown1.out.lt g h).1), by rw [hs2, List.length_append, List.map_append, List.length_singleton]; exact Hown8.out, HJ.out _ _ _ _ (HJ.out _ _ _ none HJ1.out (World.grownBy_alloc _ _ _) (fun g h => by cases h)) Hg8.out (fun g h => (Hown1.out.lt g h).1)⟩
      · simp [intOf]; omega
    · obtain rfl : k = ps.length := by omega
      go_wp2
      go_ret
      have htk : ps.take ps.length = ps := List.take_length
      have hown := Hown.out
      rw [htk] at hown
      exact ⟨_, rfl, hown, Hg.out, HJk.out⟩
set_option maxHeartbeats 4000000 in
set_option maxRecDepth 100000 in
theorem pods_lists (q1 q2 : Nat) (row : Option Nat) (J : Nat → World → Prop) (f : PodR → Bool) (dims : Int) (a1 a3 a4 : Option Addr) (n1 c1 n3 c3 n4 c4 : Nat) (v : Value) (ps : List PodR) (w : World) (hp : Apart row w v ps) (hn : ps.length ≤ 100000000)
    (hrow : ∀ g, row = some g → g < w.heap.size) (h0 : J 0 w)
    (HJ : ∀ k W W' r, J k W → W.grownBy W' r → (∀ g, r = some g → w.heap.size ≤ g) → J k W')
    (HP : ∀ W k rv, k < ps.length → w.grownBy W row → J k W → I64s W rv (ps.getD k pod0).req → Calls Tryz.prog 50 #[podV (ps.getD k pod0) rv, .pointer (some ⟨q1, 0, none⟩), .pointer (some ⟨q2, 0, none⟩)] W fun e w' => e = .returned (.bool (f (ps.getD k pod0))) ∧ W.grownBy w' row ∧ J (k + 1) w') :
    Calls Tryz.prog 46 #[.agg #[.int .i64 dims, .slice a1 n1 c1, v, .slice a3 n3 c3, .slice a4 n4 c4], .func (.func 50) #[] #[.pointer (some ⟨q1, 0, none⟩), .pointer (some ⟨q2, 0, none⟩)]] w (PodsPost w row (J ps.length) (idsOf ps f)) := by
  obtain ⟨a2, c2, rfl, hc⟩ := hp
  have Hc := Lib.hid hc
  have HJ := Lib.hid HJ
  have HP := Lib.hid HP
  have H0 := Lib.hid h0
  have Hrow := Lib.hid hrow
  clear hc h0 hrow
  rename_i HJ0 HP0
  clear HJ0 HP0
  go_enter Tryz.func46, Tryz.ntmps46
  go_wp2
  have Hbx := Lib.hid (blk_new w (.cells #[.int .i64 dims, .slice a1 n1 c1, .slice a2 ps.length c2, .slice a3 n3 c3, .slice a4 n4 c4] 33))
  go_loopw [5, 11] (PodsRel w row J ps f) (fun _ i _ => ps.length - (intOf i).toNat)
  case atStart => exact ⟨0, Nat.zero_le _, rfl, gr_below (gr_refl w row) (bel_alloc (Below.refl _ _) _), by simpa [idsOf] using World.ownsRow_nil _ _ _ _, HJ.out _ _ _ none H0.out (World.grownBy_alloc _ _ _) (fun g h => by cases h)⟩
  case round =>
    obtain ⟨k, hk, rfl, hg, hown, hJ⟩ := hrel
    have Hg := Lib.hid hg
    have Hown := Lib.hid hown
    have HJk := Lib.hid hJ
    have hsz : w.heap.size ≤ wr.heap.size := hg.size
    clear hown hJ hg
    by_cases hlt : k < ps.length
    · obtain ⟨b, off, rv, rfl, hbr, hpat, hreq⟩ := Hc.out k hlt
      have hI := hreq wr Hg.out
      obtain ⟨g0, g1, g2, g3, g4, g5, g6, g7, g8, gs⟩ := gr_pod hpat Hg.out hbr hI
      have Gs := Lib.hid (hreq _ (gr_below Hg.out (bel_alloc (Below.refl _ wr) (.cells #[.int .i64 (ps.getD k pod0).id, .int .i64 (ps.getD k pod0).prio, .bool (ps.getD k pod0).pre, .int .i64 (ps.getD k pod0).grace, rv, .int .i64 (ps.getD k pod0).arr, .int .i64 (ps.getD k pod0).phase, .int .i64 (ps.getD k pod0).node, .int .i64 (ps.getD k pod0).dl] 31))))
      have Hpt := Lib.hid (HP.out _ k rv hlt (gr_below Hg.out (bel_alloc (Below.refl _ wr) _)) (HJ.out _ _ _ none HJk.out (World.grownBy_alloc _ _ _) (fun g h => by cases h)) Gs.out)
      have hsn := ids_snoc hlt f
      have hil := ids_len ps f k
      obtain ⟨ar, cr, erv, _⟩ := hI
      subst erv
      obtain ⟨p, hp⟩ : ∃ p, ps.getD k pod0 = p := ⟨_, rfl⟩
      rw [hp] at g0 g1 g2 g3 g4 g5 g6 g7 g8 Hpt hsn
      unfold podV at Hpt
      try rw [hp] at g4
      generalize p.req.length = rl at *
      have Hsn := Lib.hid hsn
      clear gs Gs hpat hreq hsn hp
      cases e1 : f p
      all_goals
        rw [e1] at Hpt
        go_wp2_with (first
          | (go_at_call 50; refine ((Hpt.out).mono ?_); rintro e w1 ⟨rfl, hg1, hJ1⟩; have hcp := blk_cell (gr_block hg1 (blk_new wr _) (fun e => by have := Hrow.out _ e.symm; omega)) 0; have hs1 : wr.heap.size < w1.heap.size := Nat.lt_of_lt_of_le (by simp) hg1.size; have Hg1 := Lib.hid (gr_trans (gr_below Hg.out (bel_alloc (Below.refl _ wr) _)) hg1); have Hown1 := Lib.hid (own_kept (Hown.out.alloc _) hg1 Hrow.out); have HJ1 := Lib.hid hJ1; clear hg1 hJ1)
          | (at_builtin; refine app1 _ rfl _ _ 24 rfl 3 (.int .i64 0) 8 Tryz.underlying24 infoI rfl (by decide) w.heap.size u5 _ _ rfl (Hown1.out.alloc _) _ rfl (.int .i64 p.id) (by simp) rfl (by omega) (by simp; omega) ?_; intro v8 w8 hown8 hg8; have Hown8 := Lib.hid hown8; have Hg8 := Lib.hid hg8; clear hown8 hg8))
        go_roundw
      · have hs2 := Hsn.out
        rw [e1] at hs2
        simp only [Bool.false_eq_true, if_false, List.append_nil] at hs2
        exact ⟨k + 1, by omega, by go_num, Hg1.out, by rw [hs2]; exact Hown1.out, HJ1.out⟩
      · simp [intOf]; omega
      · have hs2 := Hsn.out
        rw [e1] at hs2
        simp only [if_true] at hs2
        exact ⟨k + 1, by omega, by go_num, gr_own (gr_below Hg1.out (bel_alloc (Below.refl _ _) _)) Hg8.out (fun g h => (Hown1.out.lt g h).1), by rw [hs2, List.length_append, List.map_append, List.length_singleton]; exact Hown8.out, HJ.out _ _ _ _ (HJ.out _ _ _ none HJ1.out (World.grownBy_alloc _ _ _) (fun g h => by cases h)) Hg8.out (fun g h => (Hown1.out.lt g h).1)⟩
      · simp [intOf]; omega
    · obtain rfl : k = ps.length := by omega
      go_wp2
      go_ret
      have htk : ps.take ps.length = ps := List.take_length
      have hown := Hown.out
      rw [htk] at hown
      exact ⟨_, rfl, hown, Hg.out, HJk.out⟩
end Go.Proofs.YteioleilblehiaaGreatDoor
