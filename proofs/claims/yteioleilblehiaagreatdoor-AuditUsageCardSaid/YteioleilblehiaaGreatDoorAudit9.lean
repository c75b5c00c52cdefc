/- audit.Check, by contract: the problems of the five parts, one after the other. -/
import Derived.Test.YteioleilblehiaaGreatDoorAudit8
namespace Go.Proofs.YteioleilblehiaaGreatDoor
open Go.RowKit

def CkPost (w : World) (l : List (Int × Int)) (e : Ending) (w' : World) : Prop := ∃ v, e = .returned v ∧ w'.ownsRow w.heap.size 44 2 v l.length (flatP l) ∧ Below w.heap.size w w'
theorem own_shape {w : World} {base : Nat} {e : TypeId} {size n : Nat} {v : Value} {xs : List Value} (h : w.ownsRow base e size v n xs) : ∃ A c, v = .slice A n c := by
  rcases h.2 with ⟨rfl, rfl⟩ | ⟨g, cap, cur, rfl, _⟩
  · exact ⟨_, _, rfl⟩
  · exact ⟨_, _, rfl⟩
theorem tag_snoc {T : List Int} {k : Nat} (h : k < T.length) (kind : Int) : tagP kind (T.take (k + 1)) = tagP kind (T.take k) ++ [(kind, T.getD k 0)] := by
  unfold tagP
  rw [List.take_succ_eq_append_getElem h, List.map_append]
  have e : T.getD k 0 = T[k] := by rw [List.getD_eq_getElem?_getD, List.getElem?_eq_getElem h]; rfl
  rw [e]; rfl
theorem in_step {w wr w8 : World} {dims : Int} {a1 : Option Addr} {n1 c1 : Nat} {a2 : Option Addr} {n2 c2 : Nat} {a3 : Option Addr} {n3 c3 : Nat} {a4 : Option Addr} {n4 c4 : Nat} {g5 : Nat} {kind : Int} {fn vT : Value} {T : List Int} {pre : List (Int × Int)} {v v8 : Value} {k : Nat} {id : Int} {o : Obj}
    (hk : k < T.length) (hid : T.getD k 0 = id) (hbl : Below w.heap.size w wr) (hB : BoxAt wr w.heap.size dims a1 n1 c1 a2 n2 c2 a3 n3 c3 a4 n4 c4) (h5 : wr.heap[g5]? = some (.cells #[.int .i64 kind, fn] 61 (0, 0)))
    (hT : wr.ownsRow w.heap.size 3 1 vT T.length (T.map (Value.int .i64))) (hown : wr.ownsRow w.heap.size 44 2 v (pre ++ tagP kind (T.take k)).length (flatP (pre ++ tagP kind (T.take k))))
    (hg8 : (wr.alloc o).grownBy w8 v.ownBlock) (hown8 : w8.ownsRow w.heap.size 44 2 v8 ((pre ++ tagP kind (T.take k)) ++ [(kind, id)]).length (flatP ((pre ++ tagP kind (T.take k)) ++ [(kind, id)]))) :
    InRel w (fun W => BoxAt W w.heap.size dims a1 n1 c1 a2 n2 c2 a3 n3 c3 a4 n4 c4) g5 kind fn vT T pre v8 (.int .i64 ((k : Int) + 1)) w8 := by
  have hb2 : Below w.heap.size w (wr.alloc o) := bel_alloc hbl o
  refine ⟨k + 1, hk, by go_num, hb2.grown hg8 hb2.size (fun g h => (hown.lt g h).1), gr_block hg8 (blk_old hB o) (own_blk hown hB (by decide)), gr_block hg8 (blk_old h5 o) (own_blk hown h5 (by decide)), ?_, ?_⟩
  · exact (hT.alloc o).kept hg8 (own_ne hT hown (by decide))
  · rw [tag_snoc hk, hid, ← List.append_assoc]
    exact hown8
theorem part_at_0 (w : World) : (Instr.index 62 partsV (.int .i64 0)).run Tryz.prog w = .ok (.agg #[.int .i64 5, .func (.func 33) #[] #[]]) w := by kernel_rfl
theorem part_at_1 (w : World) : (Instr.index 62 partsV (.int .i64 1)).run Tryz.prog w = .ok (.agg #[.int .i64 1, .func (.func 34) #[] #[]]) w := by kernel_rfl
theorem part_at_2 (w : World) : (Instr.index 62 partsV (.int .i64 2)).run Tryz.prog w = .ok (.agg #[.int .i64 2, .func (.func 35) #[] #[]]) w := by kernel_rfl
theorem part_at_3 (w : World) : (Instr.index 62 partsV (.int .i64 3)).run Tryz.prog w = .ok (.agg #[.int .i64 3, .func (.func 36) #[] #[]]) w := by kernel_rfl
theorem part_at_4 (w : World) : (Instr.index 62 partsV (.int .i64 4)).run Tryz.prog w = .ok (.agg #[.int .i64 4, .func (.func 37) #[] #[]]) w := by kernel_rfl

set_option maxHeartbeats 16000000 in
set_option maxRecDepth 100000 in
theorem audit_Check (dims : Int) (a1 a2 a3 a4 : Option Addr) (n1 c1 n2 c2 n3 c3 n4 c4 : Nat) (T0 T1 T2 T3 T4 : List Int) (w : World) (hl : T0.length + T1.length + T2.length + T3.length + T4.length ≤ 900000000)
    (h0 : ∀ W, Below w.heap.size w W → Calls Tryz.prog 33 #[.agg #[.int .i64 dims, .slice a1 n1 c1, .slice a2 n2 c2, .slice a3 n3 c3, .slice a4 n4 c4]] W (IntsPost W none T0))
    (h1 : ∀ W, Below w.heap.size w W → Calls Tryz.prog 34 #[.agg #[.int .i64 dims, .slice a1 n1 c1, .slice a2 n2 c2, .slice a3 n3 c3, .slice a4 n4 c4]] W (IntsPost W none T1))
    (h2 : ∀ W, Below w.heap.size w W → Calls Tryz.prog 35 #[.agg #[.int .i64 dims, .slice a1 n1 c1, .slice a2 n2 c2, .slice a3 n3 c3, .slice a4 n4 c4]] W (IntsPost W none T2))
    (h3 : ∀ W, Below w.heap.size w W → Calls Tryz.prog 36 #[.agg #[.int .i64 dims, .slice a1 n1 c1, .slice a2 n2 c2, .slice a3 n3 c3, .slice a4 n4 c4]] W (IntsPost W none T3))
    (h4 : ∀ W, Below w.heap.size w W → Calls Tryz.prog 37 #[.agg #[.int .i64 dims, .slice a1 n1 c1, .slice a2 n2 c2, .slice a3 n3 c3, .slice a4 n4 c4]] W (IntsPost W none T4))
    : Calls Tryz.prog 9 #[.agg #[.int .i64 dims, .slice a1 n1 c1, .slice a2 n2 c2, .slice a3 n3 c3, .slice a4 n4 c4]] w (CkPost w (tagP 5 T0 ++ tagP 1 T1 ++ tagP 2 T2 ++ tagP 3 T3 ++ tagP 4 T4)) := by
  have H0 := Lib.hid h0
  have H1 := Lib.hid h1
  have H2 := Lib.hid h2
  have H3 := Lib.hid h3
  have H4 := Lib.hid h4
  clear h0 h1 h2 h3 h4
  have ix0 := part_at_0
  have ix1 := part_at_1
  have ix2 := part_at_2
  have ix3 := part_at_3
  have ix4 := part_at_4
  obtain ⟨PV, hPV⟩ : ∃ PV, partsV = PV := ⟨_, rfl⟩
  rw [hPV] at ix0 ix1 ix2 ix3 ix4
  have HPV := Lib.hid hPV
  clear hPV
  go_enter Tryz.func9, Tryz.ntmps9
  have Hbx := Lib.hid (blk_new w (.cells #[.int .i64 dims, .slice a1 n1 c1, .slice a2 n2 c2, .slice a3 n3 c3, .slice a4 n4 c4] 33))
  go_wp2_with (go_at_call 22; refine (parts_ok _).mono ?_; rintro e wr ⟨rfl, hb0⟩; rw [HPV.out])
  have HB := Lib.hid (blk_keep hb0 Hbx.out)
  have Hbl := Lib.hid (bel_trans (bel_alloc (Below.refl _ w) _) hb0)
  have Hown := Lib.hid (show wr.ownsRow w.heap.size 44 2 (.slice none 0 0) ([] : List (Int × Int)).length (flatP []) from World.ownsRow_nil wr w.heap.size 44 2)
  clear hb0
  refine wp_loop_rounds 6 ?_
  rw [rounds_succ]
  have x0 : wr.cell? ⟨w.heap.size, 0, none⟩ = some (.int .i64 dims) := blk_cell HB.out 0
  have x1 : wr.cell? ⟨w.heap.size, 1, none⟩ = some (.slice a1 n1 c1) := blk_cell HB.out 1
  have x2 : wr.cell? ⟨w.heap.size, 2, none⟩ = some (.slice a2 n2 c2) := blk_cell HB.out 2
  have x3 : wr.cell? ⟨w.heap.size, 3, none⟩ = some (.slice a3 n3 c3) := blk_cell HB.out 3
  have x4 : wr.cell? ⟨w.heap.size, 4, none⟩ = some (.slice a4 n4 c4) := blk_cell HB.out 4
  have hszb : w.heap.size < wr.heap.size := blk_lt HB.out
  go_wp2_with (go_at_call 33; refine (H0.out _ (bel_trans Hbl.out (bel_alloc (Below.refl _ _) _))).mono ?_; rintro e wq ⟨vT, rfl, hT, hg⟩; obtain ⟨A5, c5, e5⟩ := own_shape hT; subst e5)
  have hbq := bel_trans (bel_alloc (Below.refl _ wr) (.cells #[.int .i64 5, .func (.func 33) #[] #[]] 61)) (bel_gr hg)
  have HT := Lib.hid (own_base (base' := w.heap.size) hT (by simp; omega))
  have Hq := Lib.hid hbq
  have H5 := Lib.hid (gr_block hg (blk_new wr (.cells #[.int .i64 5, .func (.func 33) #[] #[]] 61)) (by simp))
  clear x0 x1 x2 x3 x4 hT hg hbq
  go_loopw [3, 17] (InRel w (fun W => BoxAt W w.heap.size dims a1 n1 c1 a2 n2 c2 a3 n3 c3 a4 n4 c4) wr.heap.size 5 (.func (.func 33) #[] #[]) (.slice A5 T0.length c5) T0 ([])) (fun _ i _ => T0.length - (intOf i).toNat)
  case atStart => exact ⟨0, Nat.zero_le _, rfl, bel_trans Hbl.out Hq.out, blk_keep Hq.out HB.out, H5.out, HT.out, by rw [show ([]) ++ tagP 5 (T0.take 0) = ([]) by simp [tagP]]; exact owns_below Hown.out Hq.out⟩
  case round =>
    clear HB Hbl Hown HT Hq H5
    obtain ⟨k, hk, rfl, hbl, hB, h5, hT, hown⟩ := hrel
    have HB := Lib.hid hB
    have Hbl := Lib.hid hbl
    have H5 := Lib.hid h5
    have HT := Lib.hid hT
    have Hown := Lib.hid hown
    clear hB hbl h5 hT hown
    by_cases hlt : k < T0.length
    · obtain ⟨a', c', e', hcc⟩ := ints_at HT.out
      cases e'
      obtain ⟨b, off, e2, hx⟩ := hcc k hlt
      have e3 := e2
      subst e3
      obtain ⟨id, eid⟩ : ∃ id, T0.getD k 0 = id := ⟨_, rfl⟩
      rw [eid] at hx
      have Eid := Lib.hid eid
      have y0 := blk_cell H5.out 0
      have y0' : wr.cell? _ = some (.int .i64 5) := y0
      have hlen : (([]) ++ tagP 5 (T0.take k)).length ≤ 1000000000 := by simp [tagP]; omega
      clear eid hcc y0 e2
      go_wp2_with (at_builtin; refine app2 _ rfl _ _ rfl w.heap.size u3 _ rfl (Hown.out.alloc _) _ rfl 5 id (by simp) (by simp) hlen (by have := Hbl.out.size; simp; omega) ?_; intro v8 w8 hown8 hg8; have Hown8 := Lib.hid hown8; have Hg8 := Lib.hid hg8; clear hown8 hg8)
      go_roundw
      case rel => exact in_step hlt Eid.out Hbl.out HB.out H5.out HT.out Hown.out Hg8.out Hown8.out
      case measure => simp [intOf]; omega
    · obtain rfl : k = T0.length := by omega
      rw [List.take_length] at Hown
      clear HT H5
      go_wp2
      rw [List.nil_append] at Hown
      rw [rounds_succ]
      have x0 : wr.cell? ⟨w.heap.size, 0, none⟩ = some (.int .i64 dims) := blk_cell HB.out 0
      have x1 : wr.cell? ⟨w.heap.size, 1, none⟩ = some (.slice a1 n1 c1) := blk_cell HB.out 1
      have x2 : wr.cell? ⟨w.heap.size, 2, none⟩ = some (.slice a2 n2 c2) := blk_cell HB.out 2
      have x3 : wr.cell? ⟨w.heap.size, 3, none⟩ = some (.slice a3 n3 c3) := blk_cell HB.out 3
      have x4 : wr.cell? ⟨w.heap.size, 4, none⟩ = some (.slice a4 n4 c4) := blk_cell HB.out 4
      have hszb : w.heap.size < wr.heap.size := blk_lt HB.out
      go_wp2_with (go_at_call 34; refine (H1.out _ (bel_trans Hbl.out (bel_alloc (Below.refl _ _) _))).mono ?_; rintro e wq ⟨vT, rfl, hT, hg⟩; obtain ⟨A5, c5, e5⟩ := own_shape hT; subst e5)
      have hbq := bel_trans (bel_alloc (Below.refl _ wr) (.cells #[.int .i64 1, .func (.func 34) #[] #[]] 61)) (bel_gr hg)
      have HT := Lib.hid (own_base (base' := w.heap.size) hT (by simp; omega))
      have Hq := Lib.hid hbq
      have H5 := Lib.hid (gr_block hg (blk_new wr (.cells #[.int .i64 1, .func (.func 34) #[] #[]] 61)) (by simp))
      clear x0 x1 x2 x3 x4 hT hg hbq
      go_loopw [3, 17] (InRel w (fun W => BoxAt W w.heap.size dims a1 n1 c1 a2 n2 c2 a3 n3 c3 a4 n4 c4) wr.heap.size 1 (.func (.func 34) #[] #[]) (.slice A5 T1.length c5) T1 (tagP 5 T0)) (fun _ i _ => T1.length - (intOf i).toNat)
      case atStart => exact ⟨0, Nat.zero_le _, rfl, bel_trans Hbl.out Hq.out, blk_keep Hq.out HB.out, H5.out, HT.out, by rw [show (tagP 5 T0) ++ tagP 1 (T1.take 0) = (tagP 5 T0) by simp [tagP]]; exact owns_below Hown.out Hq.out⟩
      case round =>
        clear HB Hbl Hown HT Hq H5
        obtain ⟨k, hk, rfl, hbl, hB, h5, hT, hown⟩ := hrel
        have HB := Lib.hid hB
        have Hbl := Lib.hid hbl
        have H5 := Lib.hid h5
        have HT := Lib.hid hT
        have Hown := Lib.hid hown
        clear hB hbl h5 hT hown
        by_cases hlt : k < T1.length
        · obtain ⟨a', c', e', hcc⟩ := ints_at HT.out
          cases e'
          obtain ⟨b, off, e2, hx⟩ := hcc k hlt
          have e3 := e2
          subst e3
          obtain ⟨id, eid⟩ : ∃ id, T1.getD k 0 = id := ⟨_, rfl⟩
          rw [eid] at hx
          have Eid := Lib.hid eid
          have y0 := blk_cell H5.out 0
          have y0' : wr.cell? _ = some (.int .i64 1) := y0
          have hlen : ((tagP 5 T0) ++ tagP 1 (T1.take k)).length ≤ 1000000000 := by simp [tagP]; omega
          clear eid hcc y0 e2
          go_wp2_with (at_builtin; refine app2 _ rfl _ _ rfl w.heap.size u3 _ rfl (Hown.out.alloc _) _ rfl 1 id (by simp) (by simp) hlen (by have := Hbl.out.size; simp; omega) ?_; intro v8 w8 hown8 hg8; have Hown8 := Lib.hid hown8; have Hg8 := Lib.hid hg8; clear hown8 hg8)
          go_roundw
          case rel => exact in_step hlt Eid.out Hbl.out HB.out H5.out HT.out Hown.out Hg8.out Hown8.out
          case measure => simp [intOf]; omega
        · obtain rfl : k = T1.length := by omega
          rw [List.take_length] at Hown
          clear HT H5
          go_wp2
          rw [rounds_succ]
          have x0 : wr.cell? ⟨w.heap.size, 0, none⟩ = some (.int .i64 dims) := blk_cell HB.out 0
          have x1 : wr.cell? ⟨w.heap.size, 1, none⟩ = some (.slice a1 n1 c1) := blk_cell HB.out 1
          have x2 : wr.cell? ⟨w.heap.size, 2, none⟩ = some (.slice a2 n2 c2) := blk_cell HB.out 2
          have x3 : wr.cell? ⟨w.heap.size, 3, none⟩ = some (.slice a3 n3 c3) := blk_cell HB.out 3
          have x4 : wr.cell? ⟨w.heap.size, 4, none⟩ = some (.slice a4 n4 c4) := blk_cell HB.out 4
          have hszb : w.heap.size < wr.heap.size := blk_lt HB.out
          go_wp2_with (go_at_call 35; refine (H2.out _ (bel_trans Hbl.out (bel_alloc (Below.refl _ _) _))).mono ?_; rintro e wq ⟨vT, rfl, hT, hg⟩; obtain ⟨A5, c5, e5⟩ := own_shape hT; subst e5)
          have hbq := bel_trans (bel_alloc (Below.refl _ wr) (.cells #[.int .i64 2, .func (.func 35) #[] #[]] 61)) (bel_gr hg)
          have HT := Lib.hid (own_base (base' := w.heap.size) hT (by simp; omega))
          have Hq := Lib.hid hbq
          have H5 := Lib.hid (gr_block hg (blk_new wr (.cells #[.int .i64 2, .func (.func 35) #[] #[]] 61)) (by simp))
          clear x0 x1 x2 x3 x4 hT hg hbq
          go_loopw [3, 17] (InRel w (fun W => BoxAt W w.heap.size dims a1 n1 c1 a2 n2 c2 a3 n3 c3 a4 n4 c4) wr.heap.size 2 (.func (.func 35) #[] #[]) (.slice A5 T2.length c5) T2 (tagP 5 T0 ++ tagP 1 T1)) (fun _ i _ => T2.length - (intOf i).toNat)
          case atStart => exact ⟨0, Nat.zero_le _, rfl, bel_trans Hbl.out Hq.out, blk_keep Hq.out HB.out, H5.out, HT.out, by rw [show (tagP 5 T0 ++ tagP 1 T1) ++ tagP 2 (T2.take 0) = (tagP 5 T0 ++ tagP 1 T1) by simp [tagP]]; exact owns_below Hown.out Hq.out⟩
          case round =>
            clear HB Hbl Hown HT Hq H5
            obtain ⟨k, hk, rfl, hbl, hB, h5, hT, hown⟩ := hrel
            have HB := Lib.hid hB
            have Hbl := Lib.hid hbl
            have H5 := Lib.hid h5
            have HT := Lib.hid hT
            have Hown := Lib.hid hown
            clear hB hbl h5 hT hown
            by_cases hlt : k < T2.length
            · obtain ⟨a', c', e', hcc⟩ := ints_at HT.out
              cases e'
              obtain ⟨b, off, e2, hx⟩ := hcc k hlt
              have e3 := e2
              subst e3
              obtain ⟨id, eid⟩ : ∃ id, T2.getD k 0 = id := ⟨_, rfl⟩
              rw [eid] at hx
              have Eid := Lib.hid eid
              have y0 := blk_cell H5.out 0
              have y0' : wr.cell? _ = some (.int .i64 2) := y0
              have hlen : ((tagP 5 T0 ++ tagP 1 T1) ++ tagP 2 (T2.take k)).length ≤ 1000000000 := by simp [tagP]; omega
              clear eid hcc y0 e2
              go_wp2_with (at_builtin; refine app2 _ rfl _ _ rfl w.heap.size u3 _ rfl (Hown.out.alloc _) _ rfl 2 id (by simp) (by simp) hlen (by have := Hbl.out.size; simp; omega) ?_; intro v8 w8 hown8 hg8; have Hown8 := Lib.hid hown8; have Hg8 := Lib.hid hg8; clear hown8 hg8)
              go_roundw
              case rel => exact in_step hlt Eid.out Hbl.out HB.out H5.out HT.out Hown.out Hg8.out Hown8.out
              case measure => simp [intOf]; omega
            · obtain rfl : k = T2.length := by omega
              rw [List.take_length] at Hown
              clear HT H5
              go_wp2
              rw [rounds_succ]
              have x0 : wr.cell? ⟨w.heap.size, 0, none⟩ = some (.int .i64 dims) := blk_cell HB.out 0
              have x1 : wr.cell? ⟨w.heap.size, 1, none⟩ = some (.slice a1 n1 c1) := blk_cell HB.out 1
              have x2 : wr.cell? ⟨w.heap.size, 2, none⟩ = some (.slice a2 n2 c2) := blk_cell HB.out 2
              have x3 : wr.cell? ⟨w.heap.size, 3, none⟩ = some (.slice a3 n3 c3) := blk_cell HB.out 3
              have x4 : wr.cell? ⟨w.heap.size, 4, none⟩ = some (.slice a4 n4 c4) := blk_cell HB.out 4
              have hszb : w.heap.size < wr.heap.size := blk_lt HB.out
              go_wp2_with (go_at_call 36; refine (H3.out _ (bel_trans Hbl.out (bel_alloc (Below.refl _ _) _))).mono ?_; rintro e wq ⟨vT, rfl, hT, hg⟩; obtain ⟨A5, c5, e5⟩ := own_shape hT; subst e5)
              have hbq := bel_trans (bel_alloc (Below.refl _ wr) (.cells #[.int .i64 3, .func (.func 36) #[] #[]] 61)) (bel_gr hg)
              have HT := Lib.hid (own_base (base' := w.heap.size) hT (by simp; omega))
              have Hq := Lib.hid hbq
              have H5 := Lib.hid (gr_block hg (blk_new wr (.cells #[.int .i64 3, .func (.func 36) #[] #[]] 61)) (by simp))
              clear x0 x1 x2 x3 x4 hT hg hbq
              go_loopw [3, 17] (InRel w (fun W => BoxAt W w.heap.size dims a1 n1 c1 a2 n2 c2 a3 n3 c3 a4 n4 c4) wr.heap.size 3 (.func (.func 36) #[] #[]) (.slice A5 T3.length c5) T3 (tagP 5 T0 ++ tagP 1 T1 ++ tagP 2 T2)) (fun _ i _ => T3.length - (intOf i).toNat)
              case atStart => exact ⟨0, Nat.zero_le _, rfl, bel_trans Hbl.out Hq.out, blk_keep Hq.out HB.out, H5.out, HT.out, by rw [show (tagP 5 T0 ++ tagP 1 T1 ++ tagP 2 T2) ++ tagP 3 (T3.take 0) = (tagP 5 T0 ++ tagP 1 T1 ++ tagP 2 T2) by simp [tagP]]; exact owns_below Hown.out Hq.out⟩
              case round =>
                clear HB Hbl Hown HT Hq H5
                obtain ⟨k, hk, rfl, hbl, hB, h5, hT, hown⟩ := hrel
                have HB := Lib.hid hB
                have Hbl := Lib.hid hbl
                have H5 := Lib.hid h5
                have HT := Lib.hid hT
                have Hown := Lib.hid hown
                clear hB hbl h5 hT hown
                by_cases hlt : k < T3.length
                · obtain ⟨a', c', e', hcc⟩ := ints_at HT.out
                  cases e'
                  obtain ⟨b, off, e2, hx⟩ := hcc k hlt
                  have e3 := e2
                  subst e3
                  obtain ⟨id, eid⟩ : ∃ id, T3.getD k 0 = id := ⟨_, rfl⟩
                  rw [eid] at hx
                  have Eid := Lib.hid eid
                  have y0 := blk_cell H5.out 0
                  have y0' : wr.cell? _ = some (.int .i64 3) := y0
                  have hlen : ((tagP 5 T0 ++ tagP 1 T1 ++ tagP 2 T2) ++ tagP 3 (T3.take k)).length ≤ 1000000000 := by simp [tagP]; omega
                  clear eid hcc y0 e2
                  go_wp2_with (at_builtin; refine app2 _ rfl _ _ rfl w.heap.size u3 _ rfl (Hown.out.alloc _) _ rfl 3 id (by simp) (by simp) hlen (by have := Hbl.out.size; simp; omega) ?_; intro v8 w8 hown8 hg8; have Hown8 := Lib.hid hown8; have Hg8 := Lib.hid hg8; clear hown8 hg8)
                  go_roundw
                  case rel => exact in_step hlt Eid.out Hbl.out HB.out H5.out HT.out Hown.out Hg8.out Hown8.out
                  case measure => simp [intOf]; omega
                · obtain rfl : k = T3.length := by omega
                  rw [List.take_length] at Hown
                  clear HT H5
                  go_wp2
                  rw [rounds_succ]
                  have x0 : wr.cell? ⟨w.heap.size, 0, none⟩ = some (.int .i64 dims) := blk_cell HB.out 0
                  have x1 : wr.cell? ⟨w.heap.size, 1, none⟩ = some (.slice a1 n1 c1) := blk_cell HB.out 1
                  have x2 : wr.cell? ⟨w.heap.size, 2, none⟩ = some (.slice a2 n2 c2) := blk_cell HB.out 2
                  have x3 : wr.cell? ⟨w.heap.size, 3, none⟩ = some (.slice a3 n3 c3) := blk_cell HB.out 3
                  have x4 : wr.cell? ⟨w.heap.size, 4, none⟩ = some (.slice a4 n4 c4) := blk_cell HB.out 4
                  have hszb : w.heap.size < wr.heap.size := blk_lt HB.out
                  go_wp2_with (go_at_call 37; refine (H4.out _ (bel_trans Hbl.out (bel_alloc (Below.refl _ _) _))).mono ?_; rintro e wq ⟨vT, rfl, hT, hg⟩; obtain ⟨A5, c5, e5⟩ := own_shape hT; subst e5)
                  have hbq := bel_trans (bel_alloc (Below.refl _ wr) (.cells #[.int .i64 4, .func (.func 37) #[] #[]] 61)) (bel_gr hg)
                  have HT := Lib.hid (own_base (base' := w.heap.size) hT (by simp; omega))
                  have Hq := Lib.hid hbq
                  have H5 := Lib.hid (gr_block hg (blk_new wr (.cells #[.int .i64 4, .func (.func 37) #[] #[]] 61)) (by simp))
                  clear x0 x1 x2 x3 x4 hT hg hbq
                  go_loopw [3, 17] (InRel w (fun W => BoxAt W w.heap.size dims a1 n1 c1 a2 n2 c2 a3 n3 c3 a4 n4 c4) wr.heap.size 4 (.func (.func 37) #[] #[]) (.slice A5 T4.length c5) T4 (tagP 5 T0 ++ tagP 1 T1 ++ tagP 2 T2 ++ tagP 3 T3)) (fun _ i _ => T4.length - (intOf i).toNat)
                  case atStart => exact ⟨0, Nat.zero_le _, rfl, bel_trans Hbl.out Hq.out, blk_keep Hq.out HB.out, H5.out, HT.out, by rw [show (tagP 5 T0 ++ tagP 1 T1 ++ tagP 2 T2 ++ tagP 3 T3) ++ tagP 4 (T4.take 0) = (tagP 5 T0 ++ tagP 1 T1 ++ tagP 2 T2 ++ tagP 3 T3) by simp [tagP]]; exact owns_below Hown.out Hq.out⟩
                  case round =>
                    clear HB Hbl Hown HT Hq H5
                    obtain ⟨k, hk, rfl, hbl, hB, h5, hT, hown⟩ := hrel
                    have HB := Lib.hid hB
                    have Hbl := Lib.hid hbl
                    have H5 := Lib.hid h5
                    have HT := Lib.hid hT
                    have Hown := Lib.hid hown
                    clear hB hbl h5 hT hown
                    by_cases hlt : k < T4.length
                    · obtain ⟨a', c', e', hcc⟩ := ints_at HT.out
                      cases e'
                      obtain ⟨b, off, e2, hx⟩ := hcc k hlt
                      have e3 := e2
                      subst e3
                      obtain ⟨id, eid⟩ : ∃ id, T4.getD k 0 = id := ⟨_, rfl⟩
                      rw [eid] at hx
                      have Eid := Lib.hid eid
                      have y0 := blk_cell H5.out 0
                      have y0' : wr.cell? _ = some (.int .i64 4) := y0
                      have hlen : ((tagP 5 T0 ++ tagP 1 T1 ++ tagP 2 T2 ++ tagP 3 T3) ++ tagP 4 (T4.take k)).length ≤ 1000000000 := by simp [tagP]; omega
                      clear eid hcc y0 e2
                      go_wp2_with (at_builtin; refine app2 _ rfl _ _ rfl w.heap.size u3 _ rfl (Hown.out.alloc _) _ rfl 4 id (by simp) (by simp) hlen (by have := Hbl.out.size; simp; omega) ?_; intro v8 w8 hown8 hg8; have Hown8 := Lib.hid hown8; have Hg8 := Lib.hid hg8; clear hown8 hg8)
                      go_roundw
                      case rel => exact in_step hlt Eid.out Hbl.out HB.out H5.out HT.out Hown.out Hg8.out Hown8.out
                      case measure => simp [intOf]; omega
                    · obtain rfl : k = T4.length := by omega
                      rw [List.take_length] at Hown
                      clear HT H5
                      go_wp2
                      rw [rounds_succ]
                      go_wp2
                      go_ret
                      exact ⟨_, rfl, Hown.out, Hbl.out⟩
end Go.Proofs.YteioleilblehiaaGreatDoor
