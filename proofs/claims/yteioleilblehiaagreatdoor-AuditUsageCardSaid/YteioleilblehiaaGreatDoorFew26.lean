/- The reference's Few at views, by contract. -/
import Derived.Test.YteioleilblehiaaGreatDoorFew
import Derived.Test.YteioleilblehiaaGreatDoorRefAdd
import Derived.Deep.QuietTactic
import Derived.BigQuiet
namespace Go.Proofs.YteioleilblehiaaGreatDoor
open Go.RowKit

/-- A view: the number of dimensions, the nodes, the pods, the active and the parked ones. -/
structure ViewR where
  dims : Int
  nodes : List NodeR
  pods : List PodR
  active : List Int
  parked : List Int
def ViewAt (w : World) (v : Value) (x : ViewR) : Prop :=
  ∃ nv pv av kv, v = .agg #[.int .i64 x.dims, nv, pv, av, kv] ∧ Nodes w nv x.nodes ∧ Pods w pv x.pods ∧ I64s w av x.active ∧ I64s w kv x.parked
theorem ViewAt.below {w w' : World} {v : Value} {x : ViewR} (h : ViewAt w v x) (hb : Below w.heap.size w w') : ViewAt w' v x := by
  obtain ⟨nv, pv, av, kv, rfl, h1, h2, h3, h4⟩ := h
  exact ⟨nv, pv, av, kv, rfl, h1.below hb, h2.below hb, h3.below hb, h4.below hb⟩

def badV (xs : List Int) : Bool := decide (0 ≤ badAt 0 xs)
theorem refWrong_len (v : Value) (xs : List Int) (w : World) (hs : I64s w v xs) (hn : xs.length ≤ 9223372036854775807) :
    Calls Tryz.prog 14 #[v, .int .i64 xs.length] w fun e w' => e = .returned (.int .i64 (badAt 0 xs)) ∧ w' = w := by
  have h := refWrong v xs xs.length w hs hn
  unfold wrongI at h
  rw [if_pos (.inr rfl)] at h
  exact h.mono fun e w' ⟨a, b⟩ => ⟨a, b.symm⟩

def smallV (x : ViewR) : Bool := few6 x.pods && !decide (50 < (x.nodes.length : Int)) && !decide (100 < (x.active.length : Int)) && !decide (100 < (x.parked.length : Int)) && !decide (20 < x.dims)
def few26 (x : ViewR) : Bool := smallV x && x.nodes.all (fun n => !badV n.cap) && x.pods.all (fun p => !badV p.req)
def NRel (w : World) (ns : List NodeR) (i : Value) (wr : World) : Prop := ∃ k : Nat, k ≤ ns.length ∧ i = .int .i64 k ∧ (∀ j, j < k → badV (ns.getD j node0).cap = false) ∧ Below w.heap.size w wr
def PRel (w : World) (ps : List PodR) (i : Value) (wr : World) : Prop := ∃ k : Nat, k ≤ ps.length ∧ i = .int .i64 k ∧ (∀ j, j < k → badV (ps.getD j pod0).req = false) ∧ Below w.heap.size w wr

theorem all_no {α : Type} {l : List α} {d : α} {f : α → Bool} {k : Nat} (hk : k < l.length) (h : f (l.getD k d) = true) : (l.all fun x => !f x) = false := by
  rw [List.all_eq_false]
  exact ⟨l.getD k d, by rw [List.getD_eq_getElem?_getD, List.getElem?_eq_getElem hk]; exact List.getElem_mem _, by rw [h]; simp⟩
theorem all_yes {α : Type} {l : List α} {d : α} {f : α → Bool} (h : ∀ j, j < l.length → f (l.getD j d) = false) : (l.all fun x => !f x) = true := by
  rw [List.all_eq_true]
  intro x hx
  obtain ⟨j, hj, rfl⟩ := List.mem_iff_getElem.1 hx
  have := h j hj
  rw [List.getD_eq_getElem?_getD, List.getElem?_eq_getElem hj] at this
  simp at this
  rw [this]; rfl

theorem few26_nodes {dims : Int} {ns : List NodeR} {ps : List PodR} {acs ks : List Int} {k : Nat} (hk : k < ns.length) (h : badV (ns.getD k node0).cap = true) : few26 ⟨dims, ns, ps, acs, ks⟩ = false := by
  have := all_no (l := ns) (d := node0) (f := fun n => badV n.cap) hk h
  unfold few26
  simp only [this]
  simp
theorem few26_pods {dims : Int} {ns : List NodeR} {ps : List PodR} {acs ks : List Int} {k : Nat} (hk : k < ps.length) (h : badV (ps.getD k pod0).req = true) : few26 ⟨dims, ns, ps, acs, ks⟩ = false := by
  have := all_no (l := ps) (d := pod0) (f := fun n => badV n.req) hk h
  unfold few26
  simp only [this]
  simp

set_option maxHeartbeats 4000000 in
set_option maxRecDepth 100000 in
theorem ref26_Few (v : Value) (x : ViewR) (w : World) (h : ViewAt w v x) (hp : x.pods.length ≤ 9223372036854775807) (hn : x.nodes.length ≤ 9223372036854775807) (hna : x.active.length ≤ 9223372036854775807) (hnk : x.parked.length ≤ 9223372036854775807)
    (hlp : ∀ p, p ∈ x.pods → p.req.length ≤ 9223372036854775807) (hln : ∀ n, n ∈ x.nodes → n.cap.length ≤ 9223372036854775807) :
    Calls Tryz.prog 5 #[v] w fun e w' => e = .returned (.bool (few26 x)) ∧ Below w.heap.size w w' := by
  obtain ⟨nv, pv, av, kv, rfl, h1, h2, h3, h4⟩ := h
  have HF := Lib.hid (fun W (hb : Below w.heap.size w W) => ref6_Few pv x.pods W (h2.below hb) hp)
  obtain ⟨dims, ns, ps, acs, ks⟩ := x
  simp only at h1 h2 h3 h4 hp hn hna hnk hlp hln HF
  obtain ⟨an, capn, rfl, hcn⟩ := h1
  obtain ⟨ap, capp, rfl, hcp⟩ := h2
  obtain ⟨aa, capa, rfl, hca⟩ := h3
  obtain ⟨ak, capk, rfl, hck⟩ := h4
  have Hcn := Lib.hid hcn
  have Hcp := Lib.hid hcp
  have Hlp := Lib.hid hlp
  have Hln := Lib.hid hln
  clear hcn hcp hca hck hlp hln
  obtain ⟨r, hr⟩ : ∃ r, few26 ⟨dims, ns, ps, acs, ks⟩ = r := ⟨_, rfl⟩
  rw [hr]
  have Hr := Lib.hid hr
  clear hr
  cases e0 : few6 ps
  · rw [e0] at HF
    go_enter Tryz.func5, Tryz.ntmps5
    go_wp2_with (go_at_call 13; refine (HF.out _ (bel_alloc (Below.refl _ _) _)).mono ?_; rintro e w' ⟨rfl, rfl⟩)
    go_ret
    exact ⟨ret_b (by rw [← Hr.out]; unfold few26 smallV; simp only [e0]; rfl), bel_alloc (Below.refl _ _) _⟩
  · rw [e0] at HF
    cases e1 : decide (50 < (ns.length : Int))
    all_goals cases e2 : decide (100 < (acs.length : Int))
    all_goals cases e3 : decide (100 < (ks.length : Int))
    all_goals cases e4 : decide (20 < dims)
    · have Hok := Lib.hid (show smallV ⟨dims, ns, ps, acs, ks⟩ = true from by unfold smallV; simp only [e0, e1, e2, e3, e4]; rfl)
      go_enter Tryz.func5, Tryz.ntmps5
      go_wp2_with (go_at_call 13; refine (HF.out _ (bel_alloc (Below.refl _ _) _)).mono ?_; rintro e w' ⟨rfl, rfl⟩)
      obtain ⟨W1, hW1⟩ : ∃ W1, w.alloc (.cells #[.int .i64 dims, .slice an ns.length capn, .slice ap ps.length capp, .slice aa acs.length capa, .slice ak ks.length capk] 26) = W1 := ⟨_, rfl⟩
      have hbk : W1.heap[w.heap.size]? = some (.cells #[.int .i64 dims, .slice an ns.length capn, .slice ap ps.length capp, .slice aa acs.length capa, .slice ak ks.length capk] 26 (0, 0)) := by rw [← hW1]; exact blk_new _ _
      have hbw : Below w.heap.size w W1 := by rw [← hW1]; exact bel_alloc (Below.refl _ _) _
      rw [hW1]
      have Hbk := Lib.hid hbk
      have Hbw := Lib.hid hbw
      clear hbk hbw hW1 HF e0 e1 e2 e3 e4
      go_loopw [3] (NRel W1 ns) (fun i _ => ns.length - (intOf i).toNat)
      case atStart => exact ⟨0, Nat.zero_le _, rfl, fun j h => by omega, Below.refl _ _⟩
      case round =>
        obtain ⟨k, hk, rfl, hj, hbl⟩ := hrel
        have Hj := Lib.hid hj; clear hj
        have Hbl := Lib.hid hbl
        have c1 : wr.cell? ⟨w.heap.size, 1, none⟩ = some (.slice an ns.length capn) := blk_cell (blk_keep hbl Hbk.out) 1
        have c2 : wr.cell? ⟨w.heap.size, 2, none⟩ = some (.slice ap ps.length capp) := blk_cell (blk_keep hbl Hbk.out) 2
        by_cases hlt : k < ns.length
        · obtain ⟨b, off, cv, rfl, hnat⟩ := Hcn.out k hlt
          obtain ⟨h0, h1, hs⟩ := hnat.below (bel_trans Hbw.out hbl)
          obtain ⟨p, hp⟩ : ∃ p, ns.getD k node0 = p := ⟨_, rfl⟩
          rw [hp] at hs
          have HW := Lib.hid (fun m => refWrong_len cv p.cap (wr.drewN m) hs (Hln.out _ (by rw [← hp]; exact getD_mem _ _ _ hlt)))
          have Hp := Lib.hid hp
          obtain ⟨a1, cap1, rfl, hc1⟩ := hs
          clear hbl hp h0 hc1 hnat
          obtain ⟨q, hq⟩ : ∃ q, badAt 0 p.cap = q := ⟨_, rfl⟩
          rw [hq] at HW
          have Hq := Lib.hid hq
          clear hq
          by_cases hb : 0 ≤ q
          · have hb' : decide (0 ≤ q) = true := by simpa using hb
            go_wp2
            go_quiet ((go_at_call 14; exact Calls.quiet_of_same (HW.out _)))
            go_wp2
            go_ret
            exact ⟨ret_b (by rw [← Hr.out, few26_nodes hlt (by rw [Hp.out]; unfold badV; rw [Hq.out]; exact hb')]), bel_trans Hbw.out (bel_drewN Hbl.out _)⟩
          · have hb' : decide (0 ≤ q) = false := by simpa using hb
            go_wp2
            go_quiet ((go_at_call 14; exact Calls.quiet_of_same (HW.out _)))
            go_wp2
            go_roundw
            case rel =>
              refine ⟨k + 1, by omega, by go_num, fun j hj => ?_, bel_drewN Hbl.out _⟩
              by_cases e : j = k
              · rw [e, Hp.out]; unfold badV; rw [Hq.out]; exact hb'
              · exact Hj.out j (by omega)
            case measure => simp [intOf]; omega
        · obtain rfl : k = ns.length := by omega
          have Hn := Lib.hid (all_yes (d := node0) (f := fun n => badV n.cap) Hj.out)
          clear hbl
          go_wp2
          go_loopw [4] (PRel W1 ps) (fun i _ => ps.length - (intOf i).toNat)
          case atStart => exact ⟨0, Nat.zero_le _, rfl, fun j h => by omega, Hbl.out⟩
          case round =>
            obtain ⟨k, hk, rfl, hj, hbl⟩ := hrel
            have Hj := Lib.hid hj; clear hj
            have Hbl := Lib.hid hbl
            have c1 : wr.cell? ⟨w.heap.size, 1, none⟩ = some (.slice an ns.length capn) := blk_cell (blk_keep hbl Hbk.out) 1
            have c2 : wr.cell? ⟨w.heap.size, 2, none⟩ = some (.slice ap ps.length capp) := blk_cell (blk_keep hbl Hbk.out) 2
            by_cases hlt : k < ps.length
            · obtain ⟨b, off, cv, rfl, hnat⟩ := Hcp.out k hlt
              obtain ⟨h0, h1, h2, h3, h4, h5, h6, h7, h8, hs⟩ := hnat.below (bel_trans Hbw.out hbl)
              clear h0 h1 h2 h3 h5 h6 h7 h8
              obtain ⟨p, hp⟩ : ∃ p, ps.getD k pod0 = p := ⟨_, rfl⟩
              rw [hp] at hs
              have HW := Lib.hid (fun m => refWrong_len cv p.req (wr.drewN m) hs (Hlp.out _ (by rw [← hp]; exact getD_mem _ _ _ hlt)))
              have Hp := Lib.hid hp
              obtain ⟨a1, cap1, rfl, hc1⟩ := hs
              clear hbl hp hc1 hnat
              obtain ⟨q, hq⟩ : ∃ q, badAt 0 p.req = q := ⟨_, rfl⟩
              rw [hq] at HW
              have Hq := Lib.hid hq
              clear hq
              by_cases hb : 0 ≤ q
              · have hb' : decide (0 ≤ q) = true := by simpa using hb
                go_wp2
                go_quiet ((go_at_call 14; exact Calls.quiet_of_same (HW.out _)))
                go_wp2
                go_ret
                exact ⟨ret_b (by rw [← Hr.out, few26_pods hlt (by rw [Hp.out]; unfold badV; rw [Hq.out]; exact hb')]), bel_trans Hbw.out (bel_drewN Hbl.out _)⟩
              · have hb' : decide (0 ≤ q) = false := by simpa using hb
                go_wp2
                go_quiet ((go_at_call 14; exact Calls.quiet_of_same (HW.out _)))
                go_wp2
                go_roundw
                case rel =>
                  refine ⟨k + 1, by omega, by go_num, fun j hj => ?_, bel_drewN Hbl.out _⟩
                  by_cases e : j = k
                  · rw [e, Hp.out]; unfold badV; rw [Hq.out]; exact hb'
                  · exact Hj.out j (by omega)
                case measure => simp [intOf]; omega
            · obtain rfl : k = ps.length := by omega
              have Hpp := Lib.hid (all_yes (d := pod0) (f := fun n => badV n.req) Hj.out)
              clear hbl
              go_wp2
              go_ret
              exact ⟨ret_b (by rw [← Hr.out]; unfold few26; rw [Hok.out, Hn.out, Hpp.out]; rfl), bel_trans Hbw.out Hbl.out⟩
    all_goals
      go_enter Tryz.func5, Tryz.ntmps5
      go_wp2_with (go_at_call 13; refine (HF.out _ (bel_alloc (Below.refl _ _) _)).mono ?_; rintro e w' ⟨rfl, rfl⟩)
      go_ret
      exact ⟨ret_b (by rw [← Hr.out]; unfold few26 smallV; simp only [e0, e1, e2, e3, e4]; rfl), bel_alloc (Below.refl _ _) _⟩
end Go.Proofs.YteioleilblehiaaGreatDoor
