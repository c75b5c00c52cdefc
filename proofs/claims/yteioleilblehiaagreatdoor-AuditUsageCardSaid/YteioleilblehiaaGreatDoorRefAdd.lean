/- The reference's Add at amounts, by contract. -/
import Derived.Test.YteioleilblehiaaGreatDoorRefVec
import Derived.Test.YteioleilblehiaaGreatDoorVadd
import Derived.Handy
import Derived.Deep.RegionWith
namespace Go.Proofs.YteioleilblehiaaGreatDoor
open Go.RowKit

theorem ofInt_i64' (a : Nat) (ha : a < 9223372036854775808) : (BitVec.ofInt 64 (a : Int)).toNat = a := by
  rw [BitVec.ofInt_natCast, BitVec.toNat_ofNat]; exact Nat.mod_eq_of_lt (by omega)
theorem low32 (n : Int) (h0 : 0 ≤ n) (h1 : n ≤ 9223372036854775807) : bits .and .i64 n 4294967295 = n % 4294967296 := by
  obtain ⟨a, rfl⟩ := Int.eq_ofNat_of_zero_le h0
  have e : a &&& 4294967295 = a % 4294967296 := Nat.and_two_pow_sub_one_eq_mod a 32
  show IntKind.i64.wrap ((BitVec.ofInt 64 (a : Int) &&& BitVec.ofInt 64 ((4294967295 : Nat) : Int)).toNat : Int) = _
  rw [BitVec.toNat_and, ofInt_i64' a (by omega), ofInt_i64' 4294967295 (by omega), IntKind.wrap_i64, e]
  omega
set_option maxRecDepth 100000 in
theorem refOf (n : Int) (w : World) (h0 : 0 ≤ n) (h1 : n ≤ 9223372036854775807) :
    Calls Tryz.prog 19 #[.int .i64 n] w fun e w' => e = .returned (.agg #[.int .i64 (n / 4294967296), .int .i64 (n % 4294967296)]) ∧ Below w.heap.size w w' := by
  have hl := low32 n h0 h1
  go_enter Tryz.func19, Tryz.ntmps19
  go_wp2
  go_returns
  exact ⟨rfl, bel_alloc (Below.refl _ _) _⟩
set_option maxRecDepth 100000 in
theorem refPlus (a b c d : Int) (w : World) (h0 : 0 ≤ a) (h1 : a ≤ 2000000000) (h2 : 0 ≤ c) (h3 : c ≤ 2000000000) (l0 : 0 ≤ b) (l1 : b < 4294967296) (l2 : 0 ≤ d) (l3 : d < 4294967296) :
    Calls Tryz.prog 20 #[.agg #[.int .i64 a, .int .i64 b], .agg #[.int .i64 c, .int .i64 d]] w fun e w' => e = .returned (.agg #[.int .i64 (a + c + (b + d) / 4294967296), .int .i64 ((b + d) % 4294967296)]) ∧ Below w.heap.size w w' := by
  have hl := low32 (b + d) (by omega) (by omega)
  go_enter Tryz.func20, Tryz.ntmps20
  go_wp2
  go_returns
  exact ⟨rfl, bel_alloc (bel_alloc (bel_alloc (Below.refl _ _) _) _) _⟩
set_option maxRecDepth 100000 in
theorem refValue (a b : Int) (w : World) (h0 : 0 ≤ a) (h1 : a ≤ 2000000000) (l0 : 0 ≤ b) (l1 : b < 4294967296) :
    Calls Tryz.prog 21 #[.agg #[.int .i64 a, .int .i64 b]] w fun e w' => e = .returned (.tuple #[.int .i64 (a * 4294967296 + b), .bool true]) ∧ Below w.heap.size w w' := by
  have g1 : decide (a < -2147483648) = false := by simp; omega
  have g2 : decide (2147483647 < a) = false := by simp; omega
  go_enter Tryz.func21, Tryz.ntmps21
  go_wp2
  go_returns
  exact ⟨rfl, bel_alloc (Below.refl _ _) _⟩

/-- A small sum of a column. -/
def pSum (L : List (List Int)) (k i : Nat) : Int := sumL ((colOf L k).take i)
theorem sumL_nn (l : List Int) (m : Int) (h : ∀ x, x ∈ l → 0 ≤ x ∧ x ≤ m) : 0 ≤ sumL l ∧ sumL l ≤ l.length * m := by
  induction l with
  | nil => simp [sumL]
  | cons y r ih =>
    have h1 := ih (fun x hx => h x (by simp [hx]))
    have h2 := h y (by simp)
    simp only [sumL, List.length_cons]
    rw [Int.natCast_add, Int.add_mul]
    omega
theorem pSum_bd {L : List (List Int)} {k n : Nat} (hk : k < n) (he : ∀ r, r ∈ L → r.length = n) (hb : ∀ r, r ∈ L → ∀ x, x ∈ r → 0 ≤ x ∧ x ≤ 1000000000000000) (hn : L.length ≤ 1000) (i : Nat) : 0 ≤ pSum L k i ∧ pSum L k i ≤ 1000000000000000000 := by
  have h := sumL_nn ((colOf L k).take i) 1000000000000000 (fun x hx => by
    have hx := List.mem_of_mem_take hx
    obtain ⟨r, hr, rfl⟩ := List.mem_map.1 hx
    refine hb r hr _ ?_
    have hl : k < r.length := by rw [he r hr]; exact hk
    rw [List.getD_eq_getElem?_getD, List.getElem?_eq_getElem hl]; exact List.getElem_mem _)
  have hl : ((colOf L k).take i).length ≤ 1000 := by rw [List.length_take]; unfold colOf; rw [List.length_map]; omega
  unfold pSum
  refine ⟨h.1, ?_⟩
  have : (((colOf L k).take i).length : Int) * 1000000000000000 ≤ 1000 * 1000000000000000 := by omega
  omega
theorem blk2 {w : World} {g : Nat} {a b : Value} {ty : TypeId} (h : w.heap[g]? = some (.cells #[a, b] ty (0, 0))) : w.cell? ⟨g, 0, none⟩ = some a ∧ w.cell? ⟨g, 1, none⟩ = some b ∧ w.frozen? ⟨g, 0, none⟩ = false ∧ w.frozen? ⟨g, 1, none⟩ = false := by
  simp [World.cell?, World.frozen?, h]
theorem getD_mem {α : Type} (l : List α) (d : α) (i : Nat) (h : i < l.length) : l.getD i d ∈ l := by
  rw [List.getD_eq_getElem?_getD, List.getElem?_eq_getElem h]; exact List.getElem_mem _
theorem blk_set2 {w : World} {g : Nat} {a b : Value} {ty : TypeId} (h : w.heap[g]? = some (.cells #[a, b] ty (0, 0))) (u v : Value) : ((w.setCell ⟨g, 0, none⟩ u).setCell ⟨g, 1, none⟩ v).heap[g]? = some (.cells #[u, v] ty (0, 0)) := by
  simp [World.setCell, Array.getElem?_modify, h]
def RIn (W1 : World) (N : Nat) (L : List (List Int)) (k : Nat) (i : Value) (wr : World) : Prop :=
  ∃ j : Nat, j ≤ L.length ∧ i = .int .i64 j ∧ Below N W1 wr ∧ wr.heap[N]? = some (.cells #[.int .i64 (pSum L k j / 4294967296), .int .i64 (pSum L k j % 4294967296)] 54 (0, 0))
theorem sumsL_succ (L : List (List Int)) (k : Nat) : sumsL L (k + 1) = sumsL L k ++ [sumL (colOf L k)] := by
  simp [sumsL, List.range_succ]
def ROut (w : World) (L : List (List Int)) (n : Nat) (v : Value) (i : Value) (wr : World) : Prop :=
  ∃ k : Nat, k ≤ n ∧ i = .int .i64 k ∧ Below w.heap.size w wr ∧ wr.ownsRow w.heap.size 2 1 v k ((sumsL L k).map (Value.int .i64))
def RLen (w : World) (L : List (List Int)) (i : Value) (wr : World) : Prop := ∃ k : Nat, k ≤ L.length ∧ i = .int .i64 k ∧ Below w.heap.size w wr
def RPost (w : World) (L : List (List Int)) (n : Nat) (e : Ending) (w' : World) : Prop :=
  ∃ v, e = .returned (.tuple #[v, .bool true]) ∧ I64s w' v (sumsL L n) ∧ Below w.heap.size w w'

set_option maxHeartbeats 4000000 in
set_option maxRecDepth 100000 in
theorem refAdd (v : Value) (L : List (List Int)) (n : Nat) (w : World) (h : SlRows w v L) (hn : L.length ≤ 1000) (h0 : 0 < L.length) (he : ∀ r, r ∈ L → r.length = n) (hnm : n ≤ 1000000000)
    (hb : ∀ r, r ∈ L → ∀ x, x ∈ r → 0 ≤ x ∧ x ≤ 1000000000000000) :
    Calls Tryz.prog 8 #[v] w (RPost w L n) := by
  have h00 : (L.getD 0 []).length = n := he _ (by rw [List.getD_eq_getElem?_getD, List.getElem?_eq_getElem h0]; exact List.getElem_mem _)
  obtain ⟨a, cap, rfl, hc⟩ := h
  obtain ⟨b, off, u0, rfl, hcell, cs⟩ := hc 0 h0
  obtain ⟨a0, cap0, rfl, hc0⟩ := cs
  rw [Nat.add_zero] at hcell
  rw [h00] at hcell
  have Hc := Lib.hid hc
  have He := Lib.hid he
  have Hb := Lib.hid hb
  clear hc hc0 he hb h00
  have hq : ((L.length : Int) == 0) = false := by rw [beq_eq_false_iff_ne]; omega
  have hlt : b < w.heap.size := cell_lt hcell
  have Hcell := Lib.hid hcell
  clear hcell
  go_enter Tryz.func8, Tryz.ntmps8
  go_wp2
  go_loopw [4] (RLen w L) (fun i _ => L.length - (intOf i).toNat)
  case atStart => exact ⟨0, Nat.zero_le _, rfl, Below.refl _ _⟩
  case round =>
    obtain ⟨k, hk, rfl, hbl⟩ := hrel
    have Hbl := Lib.hid hbl
    by_cases hlt2 : k < L.length
    · obtain ⟨b', o', u, e', hx, cs⟩ := Hc.out k hlt2
      cases e'
      have hm : L.getD k [] ∈ L := by rw [List.getD_eq_getElem?_getD, List.getElem?_eq_getElem hlt2]; exact List.getElem_mem _
      have hlk := He.out _ hm
      obtain ⟨a2, cap2, rfl, hc2⟩ := cs
      rw [hlk] at hx
      rw [← hbl.cell (cell_lt hx)] at hx
      have hy := Hcell.out
      rw [← hbl.cell (cell_lt hy)] at hy
      clear hm hlk hc2 hbl
      have hnn : ((n : Int) != (n : Int)) = false := by simp
      go_wp2
      go_quiet (fail)
      go_wp2
      go_roundw
      case rel => exact ⟨k + 1, by omega, by go_num, bel_drewN Hbl.out _⟩
      case measure => simp [intOf]; omega
    · clear hbl
      go_wp2
      go_loopw [5, 6] (ROut w L n) (fun _ i _ => n - (intOf i).toNat)
      case atStart => exact ⟨0, Nat.zero_le _, rfl, Hbl.out, by simpa [sumsL] using World.ownsRow_nil wr w.heap.size 2 1⟩
      case round =>
        obtain ⟨k2, hk2, rfl, hb2, hown⟩ := hrel
        have Hb2 := Lib.hid hb2
        have Hown := Lib.hid hown
        have hx := Hcell.out
        rw [← hb2.cell (cell_lt hx)] at hx
        clear hb2 hown
        by_cases hlt3 : k2 < n
        · have hlt3' : decide ((k2 : Int) < n) = true := by simpa using hlt3
          go_wp2_with (go_at_call 19; refine (refOf _ _ (by omega) (by omega)).mono ?_; rintro e w1 ⟨rfl, hb3⟩)
          have HB3 := Lib.hid (hb3)
          clear hb3
          go_loopw [8] (RIn w1 w1.heap.size L k2) (fun i _ => L.length - (intOf i).toNat)
          case atStart => exact ⟨0, Nat.zero_le _, rfl, (Below.refl _ _).alloc (Nat.le_refl _) _, by rw [blk_new]; simp [pSum, sumL]⟩
          case round =>
            obtain ⟨j, hj, rfl, hb4, hblk⟩ := hrel
            have Hb4 := Lib.hid hb4
            have Hblk := Lib.hid hblk
            by_cases hlt4 : j < L.length
            · obtain ⟨b', o', u, e', hx2, cs⟩ := Hc.out j hlt4
              cases e'
              have hm : L.getD j [] ∈ L := by rw [List.getD_eq_getElem?_getD, List.getElem?_eq_getElem hlt4]; exact List.getElem_mem _
              have hlk := He.out _ hm
              obtain ⟨a2, cap2, rfl, hc2⟩ := cs
              rw [hlk] at hx2 hc2
              obtain ⟨b2, o2, rfl, hx3⟩ := hc2 k2 hlt3
              have hbx := Hb.out _ hm ((L.getD j []).getD k2 0) (getD_mem _ _ _ (by rw [hlk]; exact hlt3))
              have hsn := col_snoc (L := L) k2 hlt4
              obtain ⟨x, ex⟩ : ∃ x, (L.getD j []).getD k2 0 = x := ⟨_, rfl⟩
              rw [ex] at hbx hx3 hsn
              have hbs := pSum_bd hlt3 He.out Hb.out hn j
              have hsn' : pSum L k2 (j + 1) = pSum L k2 j + x := hsn
              obtain ⟨s, es⟩ : ∃ s, pSum L k2 j = s := ⟨_, rfl⟩
              rw [es] at hbs hsn' hblk
              have Hsn := Lib.hid hsn'
              have hbw : Below w.heap.size w wr := bel_trans Hb2.out (bel_trans HB3.out hb4)
              rw [← hbw.cell (cell_lt hx2)] at hx2
              rw [← hbw.cell (cell_lt hx3)] at hx3
              obtain ⟨y0, y1, f0, f1⟩ := blk2 hblk
              have Hblk2 := Lib.hid hblk
              obtain ⟨hi, eh⟩ : ∃ hi, s / 4294967296 = hi := ⟨_, rfl⟩
              obtain ⟨lo, el⟩ : ∃ lo, s % 4294967296 = lo := ⟨_, rfl⟩
              rw [eh, el] at hblk
              rw [eh] at y0
              rw [el] at y1
              have hhb : 0 ≤ hi ∧ hi ≤ 2000000000 := by omega
              have hlb : 0 ≤ lo ∧ lo < 4294967296 := by omega
              have Eh := Lib.hid eh
              have El := Lib.hid el
              obtain ⟨h01, h02⟩ := hhb
              obtain ⟨l01, l02⟩ := hlb
              obtain ⟨x01, x02⟩ := hbx
              have HPl := Lib.hid (fun W => refPlus hi lo (x / 4294967296) (x % 4294967296) W (by omega) (by omega) (by omega) (by omega) (by omega) (by omega) (by omega) (by omega))
              have Hblk3 := Lib.hid hblk
              clear hm hlk hc2 ex es eh el hsn hsn' hbs hbw hb4 hblk
              go_wp2
              go_region_with (first
                | (go_at_call 19; refine (refOf x _ (by omega) (by omega)).mono ?_; rintro e w5 ⟨rfl, hb5⟩; clear y0 y1 f0 f1; obtain ⟨y0, y1, f0, f1⟩ := blk2 (blk_keep hb5 Hblk3.out))
                | (go_at_call 20; refine (HPl.out _).mono ?_; rintro e w6 ⟨rfl, hb6⟩; clear y0 y1 f0 f1; obtain ⟨y0, y1, f0, f1⟩ := blk2 (blk_keep hb6 (blk_keep hb5 Hblk3.out))))
              all_goals go_wp2
              all_goals go_roundw
              all_goals first
                | (case rel =>
                    refine ⟨j + 1, by omega, by go_num, ?_, ?_⟩
                    · exact ((Hb4.out.drew.trans ((bel_trans hb5 hb6).mono (Nat.le_of_lt (blk_lt Hblk3.out)))).setCell (Nat.le_refl _) _).setCell (Nat.le_refl _) _
                    · rw [blk_set2 (blk_keep hb6 (blk_keep hb5 Hblk3.out)), Hsn.out]
                      have e1 := Eh.out
                      have e2 := El.out
                      rw [show hi + x / 4294967296 + (lo + x % 4294967296) / 4294967296 = (s + x) / 4294967296 by omega, show (lo + x) % 4294967296 = (s + x) % 4294967296 by omega])
                | (case measure => simp [intOf]; omega)
            · obtain rfl : j = L.length := by omega
              have hbs := pSum_bd hlt3 He.out Hb.out hn L.length
              have hps : pSum L k2 L.length = sumL (colOf L k2) := by unfold pSum; rw [List.take_of_length_le (by unfold colOf; simp)]
              rw [hps] at hblk hbs
              obtain ⟨s, es⟩ : ∃ s, sumL (colOf L k2) = s := ⟨_, rfl⟩
              rw [es] at hbs hblk
              obtain ⟨y0, y1, f0, f1⟩ := blk2 hblk
              have Es := Lib.hid es
              have HV := Lib.hid (fun W => by have := refValue (s / 4294967296) (s % 4294967296) W (by omega) (by omega) (by omega) (by omega); rw [show s / 4294967296 * 4294967296 + s % 4294967296 = s by omega] at this; exact this)
              clear hps es hblk hb4 hbs
              go_wp2_with (first
                | (go_at_call 21; refine (HV.out _).mono ?_; rintro e w7 ⟨rfl, hb7⟩; have Hown7 := Lib.hid (owns_below (owns_below Hown.out HB3.out) (Hb4.out.trans (hb7.mono (Nat.le_of_lt (blk_lt Hblk.out))))); have hsz7 : w.heap.size ≤ w7.heap.size := Nat.le_trans (Nat.le_trans Hb2.out.size HB3.out.size) (Nat.le_trans Hb4.out.size hb7.size))
                | (at_builtin; refine app1 _ rfl _ _ 29 rfl 2 (.int .i64 0) 8 Tryz.underlying29 info64 rfl (by decide) w.heap.size _ k2 _ rfl (Hown7.out.alloc _) _ rfl (.int .i64 s) (by simp) rfl (by omega) (by simp; omega) ?_; intro v8 w8 hown8 hg8; have Hown8 := Lib.hid hown8; have Hg8 := Lib.hid hg8; clear hown8 hg8))
              go_roundw
              case rel =>
                refine ⟨k2 + 1, by omega, by go_num, ?_, ?_⟩
                · exact (bel_alloc (bel_trans Hb2.out (bel_trans HB3.out (bel_trans Hb4.out hb7))) _).grown Hg8.out (by simp; omega) (fun k hk => (Hown7.out.lt k hk).1)
                · rw [sumsL_succ, Es.out, List.map_append]
                  exact Hown8.out
              case measure => simp [intOf]; omega
        · obtain rfl : k2 = n := by omega
          have hlt3' : decide ((k2 : Int) < k2) = false := by simp
          go_wp2
          go_ret2
          have hln : (sumsL L k2).length = k2 := by simp [sumsL]
          exact ⟨_, rfl, I64s.of_owns (base := w.heap.size) (by rw [hln]; exact Hown.out), Hb2.out⟩
end Go.Proofs.YteioleilblehiaaGreatDoor
