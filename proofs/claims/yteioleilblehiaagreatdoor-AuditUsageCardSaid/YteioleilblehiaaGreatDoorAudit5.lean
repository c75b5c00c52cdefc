/- audit.capacity, audit.phases, audit.places, by contract. -/
import Derived.Test.YteioleilblehiaaGreatDoorAudit4
import Derived.Test.YteioleilblehiaaGreatDoorVfits
import Derived.Deep.RegionWith
namespace Go.Proofs.YteioleilblehiaaGreatDoor
open Go.RowKit

def capBad (x : ViewR) (n : NodeR) : Bool := !fitsL (usageL x n.id) n.cap
def idsN (ns : List NodeR) (f : NodeR → Bool) : List Int := (ns.filter f).map NodeR.id
theorem idsN_snoc {ns : List NodeR} {k : Nat} (h : k < ns.length) (f : NodeR → Bool) : idsN (ns.take (k + 1)) f = idsN (ns.take k) f ++ (if f (ns.getD k node0) then [(ns.getD k node0).id] else []) := by
  unfold idsN
  rw [List.take_succ_eq_append_getElem h, List.filter_append, List.map_append]
  have e : ns.getD k node0 = ns[k] := by rw [List.getD_eq_getElem?_getD, List.getElem?_eq_getElem h]; rfl
  rw [e]
  simp only [List.filter_cons, List.filter_nil]
  split <;> simp
theorem idsN_len (ns : List NodeR) (f : NodeR → Bool) (k : Nat) : (idsN (ns.take k) f).length ≤ ns.length := by
  unfold idsN
  rw [List.length_map]
  have := List.length_filter_le f (ns.take k)
  rw [List.length_take] at this
  omega
def CapRel (w : World) (B : World → Prop) (ns : List NodeR) (f : NodeR → Bool) (v : Value) (i : Value) (wr : World) : Prop :=
  ∃ k : Nat, k ≤ ns.length ∧ i = .int .i64 k ∧ Below w.heap.size w wr ∧ B wr ∧ wr.ownsRow (w.heap.size + 1) 3 1 v (idsN (ns.take k) f).length ((idsN (ns.take k) f).map (Value.int .i64))

theorem cap_skip {w wr w3 : World} {dims : Int} {a1 : Option Addr} {n1 c1 : Nat} {a2 : Option Addr} {n2 c2 : Nat} {a3 : Option Addr} {n3 c3 : Nat} {a4 : Option Addr} {n4 c4 : Nat} {ns : List NodeR} {f : NodeR → Bool} {v : Value} {k : Nat} {nd : NodeR} (hk : k < ns.length) (hbl : Below w.heap.size w wr)
    (hB : BoxAt wr w.heap.size dims a1 n1 c1 a2 n2 c2 a3 n3 c3 a4 n4 c4) (hb3 : Below wr.heap.size wr w3) (hown : wr.ownsRow (w.heap.size + 1) 3 1 v (idsN (ns.take k) f).length ((idsN (ns.take k) f).map (Value.int .i64)))
    (hsn : idsN (ns.take (k + 1)) f = idsN (ns.take k) f ++ (if f nd then [nd.id] else [])) (hs : f nd = !true) : CapRel w (fun W => BoxAt W w.heap.size dims a1 n1 c1 a2 n2 c2 a3 n3 c3 a4 n4 c4) ns f v (.int .i64 ((k : Int) + 1)) w3 := by
  rw [hs] at hsn
  simp only [Bool.not_true, Bool.false_eq_true, if_false, List.append_nil] at hsn
  exact ⟨k + 1, hk, by go_num, bel_trans hbl hb3, blk_keep hb3 hB, by rw [hsn]; exact owns_below hown hb3⟩
theorem cap_app {w wr w3 w8 : World} {dims : Int} {a1 : Option Addr} {n1 c1 : Nat} {a2 : Option Addr} {n2 c2 : Nat} {a3 : Option Addr} {n3 c3 : Nat} {a4 : Option Addr} {n4 c4 : Nat} {ns : List NodeR} {f : NodeR → Bool} {v v8 : Value} {k : Nat} {nd : NodeR} {o : Obj} (hk : k < ns.length) (hbl : Below w.heap.size w wr)
    (hB : BoxAt wr w.heap.size dims a1 n1 c1 a2 n2 c2 a3 n3 c3 a4 n4 c4) (hb3 : Below wr.heap.size wr w3) (hown : wr.ownsRow (w.heap.size + 1) 3 1 v (idsN (ns.take k) f).length ((idsN (ns.take k) f).map (Value.int .i64)))
    (hsn : idsN (ns.take (k + 1)) f = idsN (ns.take k) f ++ (if f nd then [nd.id] else [])) (hs : f nd = !false) (hg8 : (w3.alloc o).grownBy w8 v.ownBlock)
    (hown8 : w8.ownsRow (w.heap.size + 1) 3 1 v8 ((idsN (ns.take k) f).length + 1) ((idsN (ns.take k) f).map (Value.int .i64) ++ [.int .i64 nd.id])) : CapRel w (fun W => BoxAt W w.heap.size dims a1 n1 c1 a2 n2 c2 a3 n3 c3 a4 n4 c4) ns f v8 (.int .i64 ((k : Int) + 1)) w8 := by
  rw [hs] at hsn
  simp only [Bool.not_false, if_true] at hsn
  have hlt : ∀ g, v.ownBlock = some g → w.heap.size + 1 ≤ g := fun g h => (hown.lt g h).1
  have hb4 : Below w.heap.size w (w3.alloc o) := bel_trans hbl (bel_alloc hb3 o)
  refine ⟨k + 1, hk, by go_num, hb4.grown hg8 hb4.size (fun g h => Nat.le_of_succ_le (hlt g h)), gr_block hg8 (blk_old (blk_keep hb3 hB) o) (fun e => by have := hlt _ e.symm; omega), ?_⟩
  rw [hsn, List.length_append, List.map_append, List.length_singleton]
  exact hown8

set_option maxHeartbeats 8000000 in
set_option maxRecDepth 100000 in
theorem audit_capacity (dims : Int) (ns : List NodeR) (ps : List PodR) (acs ks : List Int) (nv pv av kv : Value) (w : World) (hn : Nodes w nv ns) (hp : Pods w pv ps) (ha : I64s w av acs) (hk : I64s w kv ks)
    (hnl : ns.length ≤ 100000000) (hpl : ps.length ≤ 100000000) (hd : dims ≤ 1000000000) (hcl : ∀ n, n ∈ ns → n.cap.length ≤ 1000000000)
    (hb : ∀ p, p ∈ ps → ∀ y, y ∈ p.req → -9223372036854775808 ≤ y ∧ y ≤ 9223372036854775807) (hul : ∀ n, (usageL ⟨dims, ns, ps, acs, ks⟩ n).length ≤ 1000000000) :
    Calls Tryz.prog 34 #[.agg #[.int .i64 dims, nv, pv, av, kv]] w (IntsPost w none (idsN ns (capBad ⟨dims, ns, ps, acs, ks⟩))) := by
  have HN := Lib.hid hn
  have HU := Lib.hid (fun W (h : Below w.heap.size w W) (n : Int) => audit_Usage (.agg #[.int .i64 dims, nv, pv, av, kv]) ⟨dims, ns, ps, acs, ks⟩ n W ⟨_, _, _, _, rfl, hn.below h, hp.below h, ha.below h, hk.below h⟩ hpl hd hb)
  have Hul := Lib.hid hul
  have Hcl := Lib.hid hcl
  obtain ⟨a1, c1, rfl, hc1⟩ := hn
  obtain ⟨a2, c2, rfl, hc2⟩ := hp
  obtain ⟨a3, c3, rfl, hc3⟩ := ha
  obtain ⟨a4, c4, rfl, hc4⟩ := hk
  have Hc1 := Lib.hid hc1
  clear hc1 hc2 hc3 hc4 hb hul hcl
  go_enter Tryz.func34, Tryz.ntmps34
  go_wp2
  have Hbx := Lib.hid (blk_new w (.cells #[.int .i64 dims, .slice a1 ns.length c1, .slice a2 ps.length c2, .slice a3 acs.length c3, .slice a4 ks.length c4] 33))
  go_loopw [3, 9] (CapRel w (fun W => BoxAt W w.heap.size dims a1 ns.length c1 a2 ps.length c2 a3 acs.length c3 a4 ks.length c4) ns (capBad ⟨dims, ns, ps, acs, ks⟩)) (fun _ i _ => ns.length - (intOf i).toNat)
  case atStart => exact ⟨0, Nat.zero_le _, rfl, bel_alloc (Below.refl _ _) _, Hbx.out, by simpa [idsN] using World.ownsRow_nil _ _ _ _⟩
  case round =>
    obtain ⟨k, hk, rfl, hbl, hB, hown⟩ := hrel
    have Hbl := Lib.hid hbl
    have HB := Lib.hid hB
    have Hown := Lib.hid hown
    have hszb : w.heap.size < wr.heap.size := blk_lt hB
    have x0 : wr.cell? ⟨w.heap.size, 0, none⟩ = some (.int .i64 dims) := blk_cell hB 0
    have x1 : wr.cell? ⟨w.heap.size, 1, none⟩ = some (.slice a1 ns.length c1) := blk_cell hB 1
    have x2 : wr.cell? ⟨w.heap.size, 2, none⟩ = some (.slice a2 ps.length c2) := blk_cell hB 2
    have x3 : wr.cell? ⟨w.heap.size, 3, none⟩ = some (.slice a3 acs.length c3) := blk_cell hB 3
    have x4 : wr.cell? ⟨w.heap.size, 4, none⟩ = some (.slice a4 ks.length c4) := blk_cell hB 4
    clear hown hB
    by_cases hlt : k < ns.length
    · obtain ⟨b, off, cv, rfl, hnat⟩ := Hc1.out k hlt
      obtain ⟨g0, g1, gs⟩ := hnat.below hbl
      have hsn := idsN_snoc hlt (capBad ⟨dims, ns, ps, acs, ks⟩)
      have hil := idsN_len ns (capBad ⟨dims, ns, ps, acs, ks⟩) k
      have hcm := Hcl.out _ (getD_mem ns node0 k hlt)
      obtain ⟨ar, cr, erv, _⟩ := id gs
      subst erv
      obtain ⟨nd, end'⟩ : ∃ nd, ns.getD k node0 = nd := ⟨_, rfl⟩
      rw [end'] at g0 g1 gs hsn hcm
      have HUs := Lib.hid (fun W h => HU.out W h nd.id)
      have Hul2 := Lib.hid (Hul.out nd.id)
      have Gs := Lib.hid gs
      have Hsn := Lib.hid hsn
      have hsel : capBad ⟨dims, ns, ps, acs, ks⟩ nd = !fitsL (usageL ⟨dims, ns, ps, acs, ks⟩ nd.id) nd.cap := rfl
      obtain ⟨U, eU⟩ : ∃ U, usageL ⟨dims, ns, ps, acs, ks⟩ nd.id = U := ⟨_, rfl⟩
      rw [eU] at hsel HUs Hul2
      have HFt := Lib.hid (fun W v (h1 : I64s W v U) (h2 : I64s W (.slice ar nd.cap.length cr) nd.cap) => Lib.hid (vec_Fits v _ U nd.cap W h1 h2 Hul2.out hcm))
      obtain ⟨q, eq⟩ : ∃ q, fitsL U nd.cap = q := ⟨_, rfl⟩
      rw [eq] at hsel HFt
      have Hsel := Lib.hid hsel
      clear gs hsn hsel eU eq end' hnat hbl hcm
      go_wp2
      obtain ⟨W1, hW1⟩ : ∃ W1, wr.alloc (.cells #[.int .i64 nd.id, .slice ar nd.cap.length cr] 40) = W1 := ⟨_, rfl⟩
      have hbk : W1.heap[wr.heap.size]? = some (.cells #[.int .i64 nd.id, .slice ar nd.cap.length cr] 40 (0, 0)) := by rw [← hW1]; exact blk_new _ _
      have hb1 : Below wr.heap.size wr W1 := by rw [← hW1]; exact bel_alloc (Below.refl _ _) _
      rw [hW1]
      have hB := blk_keep hb1 HB.out
      clear x0 x1 x2 x3 x4 g0 g1 hW1
      have x0 : W1.cell? ⟨w.heap.size, 0, none⟩ = some (.int .i64 dims) := blk_cell hB 0
      have x1 : W1.cell? ⟨w.heap.size, 1, none⟩ = some (.slice (some ⟨b, off, none⟩) ns.length c1) := blk_cell hB 1
      have x2 : W1.cell? ⟨w.heap.size, 2, none⟩ = some (.slice a2 ps.length c2) := blk_cell hB 2
      have x3 : W1.cell? ⟨w.heap.size, 3, none⟩ = some (.slice a3 acs.length c3) := blk_cell hB 3
      have x4 : W1.cell? ⟨w.heap.size, 4, none⟩ = some (.slice a4 ks.length c4) := blk_cell hB 4
      have y0 : W1.cell? ⟨wr.heap.size, 0, none⟩ = some (.int .i64 nd.id) := blk_cell hbk 0
      have y1 : W1.cell? ⟨wr.heap.size, 1, none⟩ = some (.slice ar nd.cap.length cr) := blk_cell hbk 1
      have Hbk := Lib.hid hbk
      have Hb1 := Lib.hid hb1
      have HbW := Lib.hid (bel_trans Hbl.out hb1)
      clear hbk hb1 hB
      go_region_with (first
        | (go_at_call 6; refine ((HUs.out _ (by repeat (first | exact HbW.out | refine Below.drew ?_))).mono ?_); rintro e w2 ⟨v2, rfl, i2, f2, o2, b2⟩; clear x0 x1 x2 x3 x4 y0 y1; have y1 : w2.cell? ⟨wr.heap.size, 1, none⟩ = some (.slice ar nd.cap.length cr) := blk_cell (blk_keep b2 Hbk.out) 1; have I2 := Lib.hid i2; have B2 := Lib.hid (show Below W1.heap.size W1 w2 from Below.trans (by repeat (first | exact Below.refl _ _ | refine Below.drew ?_)) b2); clear i2 f2 o2 b2)
        | (go_at_call 45; refine (((HFt.out _ _ (I2.out) (Gs.out.below (bel_trans Hb1.out B2.out))).out).mono ?_); rintro e w3 ⟨rfl, b3⟩; have B3 := Lib.hid (bel_trans B2.out b3); have y0 : w3.cell? ⟨wr.heap.size, 0, none⟩ = some (.int .i64 nd.id) := blk_cell (blk_keep B3.out Hbk.out) 0; have hs3 : wr.heap.size < w3.heap.size := Nat.lt_of_lt_of_le (blk_lt Hbk.out) B3.out.size; clear b3))
      all_goals cases q
      all_goals
        go_wp2_with (at_builtin; refine app1 _ rfl _ _ 24 rfl 3 (.int .i64 0) 8 Tryz.underlying24 infoI rfl (by decide) (w.heap.size + 1) u3 _ _ rfl ((owns_below Hown.out (bel_trans Hb1.out B3.out)).alloc _) _ rfl (.int .i64 nd.id) (by simp) rfl (by omega) (by simp; omega) ?_; intro v8 w8 hown8 hg8; have Hown8 := Lib.hid hown8; have Hg8 := Lib.hid hg8; clear hown8 hg8)
        go_roundw
      all_goals first
        | exact cap_app hlt Hbl.out HB.out (bel_trans Hb1.out B3.out) Hown.out Hsn.out Hsel.out Hg8.out Hown8.out
        | exact cap_skip hlt Hbl.out HB.out (bel_trans Hb1.out B3.out) Hown.out Hsn.out Hsel.out
        | (simp [intOf]; omega)
    · obtain rfl : k = ns.length := by omega
      have htk : ns.take ns.length = ns := List.take_length
      have hown2 := Hown.out
      rw [htk] at hown2
      have Hown2 := Lib.hid hown2
      clear hown2 htk
      go_wp2
      go_ret
      exact ⟨_, rfl, own_base (base := w.heap.size + 1) Hown2.out (by omega), gr_below (gr_refl w none) Hbl.out⟩
end Go.Proofs.YteioleilblehiaaGreatDoor
