/- audit.Usage, by contract: the sums of the requests of the pods that hold resources of a node. -/
import Derived.Test.YteioleilblehiaaGreatDoorFew26
import Derived.Test.YteioleilblehiaaGreatDoorPhase
import Derived.Test.YteioleilblehiaaGreatDoorVadd
namespace Go.Proofs.YteioleilblehiaaGreatDoor
open Go.RowKit

theorem infoSl : (Tryz.prog.info? 29).map (fun i => (i.zero, i.size, i.bytes)) = some (some (.slice none 0 0), 1, 24) := by kernel_rfl
theorem SlRows.of_owns {w : World} {base : Nat} {v : Value} {us : List Value} {L : List (List Int)} (h : w.ownsRow base 29 1 v L.length us) (hI : ∀ i, i < L.length → ∃ u, us[i]? = some u ∧ I64s w u (L.getD i [])) : SlRows w v L := by
  rcases h.2 with ⟨rfl, h0⟩ | ⟨g, cap, cur, rfl, hb, hg, hn, hm, hs, ht⟩
  · have : L = [] := List.length_eq_zero_iff.1 h0
    subst this
    exact ⟨none, 0, rfl, fun i h => by simp at h⟩
  · refine ⟨_, cap, rfl, fun i hi => ?_⟩
    obtain ⟨u, hu, hI⟩ := hI i hi
    refine ⟨g, 0, u, rfl, ?_, hI⟩
    rw [Nat.zero_add]
    have e : cur[i]? = some u := by
      rw [← ht] at hu
      rw [List.getElem?_take, if_pos (by omega)] at hu
      rw [← Array.getElem?_toList]; exact hu
    simp [World.cell?, hg, e]

def selB (node dims : Int) (p : PodR) : Bool := p.node == node && holdsB p.phase && ((p.req.length : Int) == dims)
def rowsOf (ps : List PodR) (node dims : Int) : List (List Int) := List.replicate dims.toNat 0 :: (ps.filter (selB node dims)).map PodR.req
def usageL (x : ViewR) (node : Int) : List Int := if addB (rowsOf x.pods node x.dims) x.dims.toNat then sumsL (rowsOf x.pods node x.dims) x.dims.toNat else []
def UsRel (W1 : World) (base : Nat) (ps : List PodR) (node dims : Int) (v : Value) (i : Value) (wr : World) : Prop :=
  ∃ (k : Nat) (us : List Value), k ≤ ps.length ∧ i = .int .i64 k ∧ Below W1.heap.size W1 wr ∧ wr.ownsRow base 29 1 v (rowsOf (ps.take k) node dims).length us ∧
    ∀ j, j < (rowsOf (ps.take k) node dims).length → ∃ u, us[j]? = some u ∧ I64s W1 u ((rowsOf (ps.take k) node dims).getD j [])
/-- What Usage leaves: a slice with the sums. -/
def UsPost (w : World) (xs : List Int) (e : Ending) (w' : World) : Prop := ∃ v, e = .returned v ∧ I64s w' v xs ∧ freshSl w.heap.size v ∧ okSl w' v ∧ Below w.heap.size w w'

theorem rows_snoc {ps : List PodR} {k : Nat} (h : k < ps.length) (node dims : Int) : rowsOf (ps.take (k + 1)) node dims = rowsOf (ps.take k) node dims ++ (if selB node dims (ps.getD k pod0) then [(ps.getD k pod0).req] else []) := by
  unfold rowsOf
  rw [List.take_succ_eq_append_getElem h, List.filter_append, List.map_append]
  have e : ps.getD k pod0 = ps[k] := by rw [List.getD_eq_getElem?_getD, List.getElem?_eq_getElem h]; rfl
  rw [e]
  simp only [List.cons_append, List.filter_cons, List.filter_nil]
  split <;> simp

theorem rows_len (node dims : Int) (ps : List PodR) : ∀ r, r ∈ rowsOf ps node dims → r.length = dims.toNat := by
  intro r hr
  unfold rowsOf at hr
  rcases List.mem_cons.1 hr with rfl | hr
  · simp
  · obtain ⟨p, hp, rfl⟩ := List.mem_map.1 hr
    have := (List.mem_filter.1 hp).2
    unfold selB at this
    simp at this
    omega
theorem rows_rng (node dims : Int) (ps : List PodR) (hb : ∀ p, p ∈ ps → ∀ y, y ∈ p.req → -9223372036854775808 ≤ y ∧ y ≤ 9223372036854775807) : ∀ r, r ∈ rowsOf ps node dims → ∀ x, x ∈ r → -9223372036854775808 ≤ x ∧ x ≤ 9223372036854775807 := by
  intro r hr x hx
  unfold rowsOf at hr
  rcases List.mem_cons.1 hr with rfl | hr
  · have := List.eq_of_mem_replicate hx
    omega
  · obtain ⟨p, hp, rfl⟩ := List.mem_map.1 hr
    exact hb p (List.mem_filter.1 hp).1 x hx

set_option maxHeartbeats 4000000 in
set_option maxRecDepth 100000 in
theorem audit_Usage (v : Value) (x : ViewR) (node : Int) (w : World) (h : ViewAt w v x) (hp : x.pods.length ≤ 100000000) (hd : x.dims ≤ 1000000000)
    (hb : ∀ p, p ∈ x.pods → ∀ y, y ∈ p.req → -9223372036854775808 ≤ y ∧ y ≤ 9223372036854775807) :
    Calls Tryz.prog 6 #[v, .int .i64 node] w (UsPost w (usageL x node)) := by
  obtain ⟨nv, pv, av, kv, rfl, h1, h2, h3, h4⟩ := h
  obtain ⟨dims, ns, ps, acs, ks⟩ := x
  simp only at h1 h2 h3 h4 hp hb hd
  obtain ⟨r, hr⟩ : ∃ r, usageL ⟨dims, ns, ps, acs, ks⟩ node = r := ⟨_, rfl⟩
  rw [hr]
  have Hr := Lib.hid hr
  clear hr
  obtain ⟨a1, c1, rfl, g1⟩ := h1
  obtain ⟨a2, c2, rfl, hcp⟩ := h2
  obtain ⟨a3, c3, rfl, g3⟩ := h3
  obtain ⟨a4, c4, rfl, g4⟩ := h4
  have Hcp := Lib.hid hcp
  have Hb := Lib.hid hb
  clear g1 g3 g4 hcp hb
  have HZ := Lib.hid (fun W => vec_Zero dims dims.toNat W (by omega) (by omega))
  go_enter Tryz.func6, Tryz.ntmps6
  go_wp2_with (go_at_call 15; refine (HZ.out _).mono ?_; rintro e w1 ⟨az, cz, rfl, hz1, hz2, hz3, hz4⟩; have hbx := blk_keep hz4 (blk_new w _); have bx0 : w1.cell? ⟨w.heap.size, 0, none⟩ = some (.int .i64 dims) := blk_cell hbx 0; have bx2 : w1.cell? ⟨w.heap.size, 2, none⟩ = some (.slice a2 ps.length c2) := blk_cell hbx 2; have hsz1 : w.heap.size < w1.heap.size := blk_lt hbx; have Hz1 := Lib.hid hz1; have Hz4 := Lib.hid hz4; have Hbx := Lib.hid hbx; clear hz1 hz2 hz3 hbx)
  have Hw1 := Lib.hid (bel_trans (bel_alloc (Below.refl _ w) _) Hz4.out)
  clear bx0 bx2
  go_loopw [5, 17] (UsRel w1 w1.heap.size ps node dims) (fun _ i _ => ps.length - (intOf i).toNat)
  case atStart =>
    refine ⟨0, [.slice (some az) dims.toNat cz], Nat.zero_le _, rfl, bel_alloc (Below.refl _ _) _, ?_, ?_⟩
    · exact World.ownsRow_lit w1 #[.slice (some az) dims.toNat cz] 1 (Nat.le_refl _) (by decide) rfl
    · intro j hj
      simp [rowsOf] at hj
      subst hj
      refine ⟨_, rfl, ?_⟩
      simpa [rowsOf] using Hz1.out
  case round =>
    obtain ⟨k, us, hk, rfl, hbl, hown, hus⟩ := hrel
    have Hbl := Lib.hid hbl
    have Hown := Lib.hid hown
    have Hus := Lib.hid hus
    have hbx := blk_keep hbl Hbx.out
    have bx0 : wr.cell? ⟨w.heap.size, 0, none⟩ = some (.int .i64 dims) := blk_cell hbx 0
    have bx2 : wr.cell? ⟨w.heap.size, 2, none⟩ = some (.slice a2 ps.length c2) := blk_cell hbx 2
    have hszr : w1.heap.size ≤ wr.heap.size := hbl.size
    have hszw : w.heap.size < wr.heap.size := Nat.lt_of_lt_of_le hsz1 hszr
    clear hown hus hbx
    by_cases hlt : k < ps.length
    · obtain ⟨b, off, rv, rfl, hpat⟩ := Hcp.out k hlt
      have hpat2 := hpat.below (bel_trans Hw1.out hbl)
      obtain ⟨p, hp⟩ : ∃ p, ps.getD k pod0 = p := ⟨_, rfl⟩
      rw [hp] at hpat2
      have hsn := rows_snoc hlt node dims
      rw [hp] at hsn
      have hgs1 := (hpat.below Hw1.out).2.2.2.2.2.2.2.2.2
      rw [hp] at hgs1
      have Gs1 := Lib.hid hgs1
      obtain ⟨g0, g1, g2, g3, g4, g5, g6, g7, g8, gs⟩ := hpat2
      have Hp := Lib.hid hp
      have Hsn := Lib.hid hsn
      obtain ⟨ar, cr, rfl, hcr⟩ := gs
      have HH := Lib.hid (fun W => phase_Holds p.phase W)
      clear hcr hbl hp hsn hpat hgs1
      have hskip : selB node dims p = false → ∀ o : Obj, UsRel w1 w1.heap.size ps node dims u5 (.int .i64 ((k : Int) + 1)) (wr.alloc o) := fun hs o => by
        have hs2 := Hsn.out
        rw [hs] at hs2
        simp only [Bool.false_eq_true, if_false, List.append_nil] at hs2
        refine ⟨k + 1, us, by omega, by go_num, Hbl.out.alloc hszr _, ?_, ?_⟩
        · rw [hs2]; exact Hown.out.alloc _
        · rw [hs2]; exact Hus.out
      have Hskip := Lib.hid hskip
      clear hskip
      cases e1 : (p.node == node)
      · go_wp2
        go_roundw
        case rel => exact Hskip.out (by unfold selB; rw [e1]; rfl) _
        case measure => simp [intOf]; omega
      · cases e2 : holdsB p.phase
        · rw [e2] at HH
          go_wp2_with (go_at_call 16; refine (HH.out _).mono ?_; rintro e w' ⟨rfl, rfl⟩)
          go_roundw
          case rel => exact Hskip.out (by unfold selB; rw [e1, e2]; rfl) _
          case measure => simp [intOf]; omega
        · rw [e2] at HH
          cases e3 : ((p.req.length : Int) == dims)
          · go_wp2_with (go_at_call 16; refine (HH.out _).mono ?_; rintro e w' ⟨rfl, rfl⟩)
            go_roundw
            case rel => exact Hskip.out (by unfold selB; rw [e1, e2, e3]; rfl) _
            case measure => simp [intOf]; omega
          · have Hsel := Lib.hid (show selB node dims p = true by unfold selB; rw [e1, e2, e3]; rfl)
            have hrl : (rowsOf (ps.take k) node dims).length ≤ 100000001 := by
              unfold rowsOf
              rw [List.length_cons, List.length_map]
              have := List.length_filter_le (selB node dims) (ps.take k)
              rw [List.length_take] at this
              omega
            go_wp2_with (first
              | (go_at_call 16; refine (HH.out _).mono ?_; rintro e w' ⟨rfl, rfl⟩)
              | (at_builtin; go_loud (refine app1 _ rfl _ _ 37 rfl 29 (.slice none 0 0) 24 Tryz.underlying37 infoSl rfl (by decide) w1.heap.size u5 _ us rfl ((Hown.out.alloc _).alloc _) _ rfl (.slice ar p.req.length cr) (by simp) rfl (by omega) (by simp; omega) ?_); intro v8 w8 hown8 hg8; have Hown8 := Lib.hid hown8; have Hg8 := Lib.hid hg8; clear hown8 hg8))
            go_roundw
            case rel =>
              have hs2 := Hsn.out
              rw [Hsel.out] at hs2
              simp only [if_true] at hs2
              refine ⟨k + 1, us ++ [.slice ar p.req.length cr], by omega, by go_num, ((Hbl.out.alloc hszr _).alloc (by simp; omega) _).grown Hg8.out (by simp; omega) (fun k hk => (Hown.out.lt k hk).1), ?_, ?_⟩
              · rw [hs2, List.length_append, List.length_singleton]; exact Hown8.out
              · rw [hs2, List.length_append, List.length_singleton]
                have hul : us.length = (rowsOf (ps.take k) node dims).length := by simpa using Hown.out.1
                intro j hj
                by_cases hjl : j < (rowsOf (ps.take k) node dims).length
                · obtain ⟨u, hu, hI⟩ := Hus.out j hjl
                  refine ⟨u, by rw [List.getElem?_append_left (by omega)]; exact hu, ?_⟩
                  rw [List.getD_eq_getElem?_getD, List.getElem?_append_left hjl, ← List.getD_eq_getElem?_getD]
                  exact hI
                · obtain rfl : j = (rowsOf (ps.take k) node dims).length := by omega
                  refine ⟨.slice ar p.req.length cr, by rw [← hul]; simp, ?_⟩
                  have e : (rowsOf (ps.take k) node dims ++ [p.req]).getD (rowsOf (ps.take k) node dims).length [] = p.req := by simp [List.getD_eq_getElem?_getD]
                  rw [e]
                  exact Gs1.out
            case measure => simp [intOf]; omega
    · obtain rfl : k = ps.length := by omega
      have htk : ps.take ps.length = ps := List.take_length
      have hown := Hown.out
      have hus := Hus.out
      rw [htk] at hown hus
      have hS := SlRows.of_owns hown (fun i hi => by
        obtain ⟨u, hu, hI⟩ := hus i hi
        exact ⟨u, hu, hI.below hbl⟩)
      have hlen : (rowsOf ps node dims).length ≤ 1000000000 := by
        unfold rowsOf
        rw [List.length_cons, List.length_map]
        have := List.length_filter_le (selB node dims) ps
        omega
      have hA := vec_Add u5 (rowsOf ps node dims) dims.toNat wr hS hlen (by simp [rowsOf]) (rows_len node dims ps) (by omega) (rows_rng node dims ps Hb.out)
      have hU : usageL ⟨dims, ns, ps, acs, ks⟩ node = if addB (rowsOf ps node dims) dims.toNat then sumsL (rowsOf ps node dims) dims.toNat else [] := rfl
      have hou : ∀ k, u5.ownBlock = some k → w1.heap.size ≤ k := fun k hk => (hown.lt k hk).1
      generalize rowsOf ps node dims = L at *
      cases eb : addB L dims.toNat
      · have hA2 : Calls Tryz.prog 17 #[u5] wr fun e w' => e = .returned (.tuple #[.slice none 0 0, .bool false]) ∧ Below wr.heap.size wr w' := hA.mono (by
          rintro e w' (⟨h, _⟩ | ⟨_, h⟩)
          · rw [eb] at h; cases h
          · exact h)
        rw [eb] at hU
        have HA := Lib.hid hA2
        have HU := Lib.hid hU
        clear hA hA2 hU hS hown hus htk hbl hou eb
        go_wp2_with (go_at_call 17; refine (HA.out).mono ?_; rintro e w9 ⟨rfl, hb9⟩)
        go_ret
        have hr0 : r = [] := by rw [← Hr.out, HU.out]; rfl
        subst hr0
        exact ⟨_, rfl, I64s.nil _, freshSl.none _ _ _, okSl.none _ _ _, bel_trans Hw1.out (bel_trans Hbl.out hb9)⟩
      · have hA2 : Calls Tryz.prog 17 #[u5] wr fun e w' => ∃ v, e = .returned (.tuple #[v, .bool true]) ∧ I64s w' v (sumsL L dims.toNat) ∧ freshSl wr.heap.size v ∧ okSl w' v ∧ Below wr.heap.size wr w' := hA.mono (by
          rintro e w' (⟨_, h⟩ | ⟨h, _⟩)
          · exact h
          · rw [eb] at h; cases h)
        rw [eb] at hU
        have HA := Lib.hid hA2
        have HU := Lib.hid hU
        clear hA hA2 hU hS hown hus htk hbl hou eb
        go_wp2_with (go_at_call 17; refine (HA.out).mono ?_; rintro e w9 ⟨v9, rfl, hi9, hf9, ho9, hb9⟩)
        go_ret
        have hr0 : r = sumsL L dims.toNat := by rw [← Hr.out, HU.out]; rfl
        subst hr0
        have hB := bel_trans Hw1.out Hbl.out
        exact ⟨_, rfl, hi9, hf9.mono hB.size, ho9, bel_trans hB hb9⟩
end Go.Proofs.YteioleilblehiaaGreatDoor
