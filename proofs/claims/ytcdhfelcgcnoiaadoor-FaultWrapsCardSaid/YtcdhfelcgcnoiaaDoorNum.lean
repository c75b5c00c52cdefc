/- strconv.Itoa, whatever the table of powers of ten holds. -/
import Derived.Test.YtcdhfelcgcnoiaaDoorBlk
import Derived.Test.YtcdhfelcgcnoiaaDoorItoa
namespace Go.Proofs.YtcdhfelcgcnoiaaDoor
open Go.RowKit Go.Sort Go.Lib

/-- The table of powers of ten holds the numbers T. -/
def TabAt (w : World) (T : Nat → Nat) : Prop := ∃ cs ty fr, w.heap[3]? = some (.cells cs ty fr) ∧ ∀ i, i < 20 → cs[i]? = some (.int .u64 (T i)) ∧ T i < 18446744073709551616
theorem TabAt.below {w w' : World} {T : Nat → Nat} (h : TabAt w T) (hb : Below w.heap.size w w') : TabAt w' T := by
  obtain ⟨cs, ty, fr, h, h'⟩ := h
  exact ⟨cs, ty, fr, blk_keep hb h, h'⟩
theorem TabAt.cell {w : World} {T : Nat → Nat} (h : TabAt w T) (i : Nat) (hi : i < 20) : w.cell? ⟨3, i, none⟩ = some (.int .u64 (T i)) := by
  obtain ⟨cs, ty, fr, h, h'⟩ := h
  rw [blk_cell h, (h' i hi).1]
/-- What numDigits tells under the table T. -/
def ndT (T : Nat → Nat) (u : Nat) : Nat := Lib.l10 (Lib.bitLen u) + (if T (Lib.l10 (Lib.bitLen u)) ≤ u then 1 else 0)
theorem l10_lt (u : Nat) (h1 : 1 ≤ u) (h2 : u < 18446744073709551616) : Lib.l10 (Lib.bitLen u) < 20 := by
  have := (Lib.numDigits_eq u h1 h2).2
  omega
theorem lt_ndT (T : Nat → Nat) (u : Nat) (h1 : 1 ≤ u) (h2 : u < 18446744073709551616) : u < 10 ^ (ndT T u + 1) := by
  obtain ⟨a, _⟩ := Lib.numDigits_eq u h1 h2
  have h3 := Lib.lt_pow_nDigits u
  have h4 : Lib.nDigits u ≤ ndT T u + 1 := by unfold ndT; split at a <;> split <;> omega
  exact Nat.lt_of_lt_of_le h3 (Nat.pow_le_pow_right (by decide) h4)
theorem ndT_le (T : Nat → Nat) (u : Nat) (h1 : 1 ≤ u) (h2 : u < 18446744073709551616) : ndT T u ≤ 20 := by
  have := l10_lt u h1 h2
  unfold ndT; split <;> omega

set_option maxHeartbeats 2000000 in
set_option maxRecDepth 100000 in
theorem numDigitsT (T : Nat → Nat) (u : Nat) (h1 : 1 ≤ u) (h2 : u < 18446744073709551616) (w : World) (htab : TabAt w T) :
    Calls Tryd.prog 51 #[.int .u64 u] w fun e w' => e = .returned (.int .i64 (ndT T u)) ∧ w' = w := by
  have hL : Lib.bitLen u ≤ 64 := Lib.bitLen_le u 64 (Nat.le_refl _) h2
  have h19 := l10_lt u h1 h2
  have hcell := htab.cell _ h19
  have hto : ((u : Int)).toNat = u := by omega
  have hN : ndT T u = Lib.l10 (Lib.bitLen u) + (if T (Lib.l10 (Lib.bitLen u)) ≤ u then 1 else 0) := rfl
  generalize ndT T u = N at hN ⊢
  generalize hq : Lib.l10 (Lib.bitLen u) = q at h19 hcell hN
  generalize T q = t at hcell hN
  have HN := Lib.hid hN
  clear hN htab
  go_enter Tryd.func51, Tryd.ntmps51
  go_wp2_with (first
    | (go_at_call 55; refine (Tryd.bits_Len64 _ _ (by omega) (by omega)).mono ?_; rintro e w' ⟨rfl, rfl⟩)
    | (go_at_call 54; refine (Tryd.internal_strconv_log10Pow2 _ (by first | exact hL | (rw [hto]; exact hL)) _).mono ?_; rintro e w' ⟨rfl, rfl⟩)
    | (go_at_call 56; refine (Tryd.internal_strconv_bool2_int _ _).mono ?_; rintro e w' ⟨rfl, rfl⟩))
  all_goals go_ret
  all_goals (
    refine ⟨?_, rfl⟩
    have hN := HN.out
    congr 2
    split at hN <;> simp_all <;> omega)

/-- The text of an int under the table T. -/
def itT (T : Nat → Nat) (n : Int) : List UInt8 :=
  if 0 ≤ n ∧ n < 100 then Lib.decDigits n.toNat
  else if n < 0 then 45 :: (resF (ndT T n.natAbs) n.natAbs (Array.replicate (ndT T n.natAbs) 0)).toList
  else (resF (ndT T n.natAbs) n.natAbs (Array.replicate (ndT T n.natAbs) 0)).toList
theorem itT_len (T : Nat → Nat) (n : Int) (h0 : -9223372036854775808 ≤ n) (h1 : n ≤ 9223372036854775807) : (itT T n).length ≤ 21 := by
  unfold itT
  split
  · rename_i h
    rw [Lib.decDigits_length]
    by_cases h' : n.toNat < 10
    · rw [Lib.nDigits_small h']; omega
    · rw [Lib.nDigits_big h', Lib.nDigits_small (by omega)]; omega
  · have h2 := ndT_le T n.natAbs (by omega) (by omega)
    split
    · simp [resF_size]; omega
    · simp [resF_size]; omega
theorem resF_get (k v : Nat) (d : Array UInt8) (j : Nat) (hj : j < (resF k v d).toList.length) : (resF k v d).toList[j] = (resF k v d)[j]! := by
  rw [getElem!_pos _ j (by simpa using hj)]
  simp

set_option maxHeartbeats 6400000 in
set_option maxRecDepth 100000 in
theorem formatIntT (T : Nat → Nat) (n : Int) (h0 : -9223372036854775808 ≤ n) (h1 : n ≤ 9223372036854775807) (w : World) (htab : TabAt w T) :
    Calls Tryd.prog 49 #[.int .i64 n, .int .i64 10] w fun e w' => e = .returned (.string ⟨(itT T n).toArray⟩) ∧ Below w.heap.size w w' := by
  by_cases hs : 0 ≤ n ∧ n < 100
  · obtain ⟨i, rfl⟩ : ∃ i : Nat, n = i := ⟨n.toNat, by omega⟩
    have hi : i < 100 := by omega
    have e1 : itT T (i : Int) = Lib.decDigits i := by unfold itT; rw [if_pos hs]; rfl
    rw [e1]
    exact (Tryd.internal_strconv_FormatInt_10_small i hi w).mono fun e w' h => ⟨h.1, by rw [h.2]; exact Below.refl _ _⟩
  · obtain ⟨u, hu⟩ : ∃ u : Nat, n.natAbs = u := ⟨_, rfl⟩
    have hu1 : 1 ≤ u := by omega
    have hu64 : u < 18446744073709551616 := by omega
    have hnd := ndT_le T u hu1 hu64
    have hlt := lt_ndT T u hu1 hu64
    have HND := Lib.hid (fun W (h : TabAt W T) => numDigitsT T u hu1 hu64 W h)
    have HT := Lib.hid (htab.below (bel_alloc (Below.refl _ w) (.cells Lib.zeros24 102)))
    generalize hq : ndT T u = q at hnd hlt HND
    have hal : Tryd.prog.arrayLen 102 = 24 := by kernel_rfl
    have hH0 := Lib.holds_zero w 102 q (by omega)
    have hfmt := fmtBase10 w.heap.size 1 23 u (Array.replicate q 0) (w.alloc (.cells Lib.zeros24 102)) hH0 (by rw [Array.size_replicate]; exact hlt) hu64 (by rw [Array.size_replicate]; omega)
    rw [Array.size_replicate] at hfmt
    have HH0 := Lib.hid hH0
    have hsz := resF_size q u (Array.replicate q 0)
    rw [Array.size_replicate] at hsz
    have e1 : itT T n = if n < 0 then 45 :: (resF q u (Array.replicate q 0)).toList else (resF q u (Array.replicate q 0)).toList := by unfold itT; rw [if_neg hs, hu, hq]
    generalize resF q u (Array.replicate q 0) = dk at hfmt hsz e1
    rw [e1]
    have hsl1 : ∀ W, (Instr.sliceAt 102 (.pointer (some ⟨w.heap.size, 0, none⟩)) (some (.int .i64 1)) (some (.int .i64 (1 + (q : Int)))) none).run Tryd.prog W = .ok (.slice (some ⟨w.heap.size, 1, none⟩) q 23) W := fun W => by
      rw [run_sliceAt_array_lh W 102 ⟨w.heap.size, 0, none⟩ (by simp [Program.arrayLen, Program.elem, Tryd.underlying102]) .i64 .i64 1 (1 + (q : Int)) (by omega) (by omega) (by rw [hal]; omega)]
      go_simp
      omega
    clear hH0 htab e1 hlt hq
    have hget : ∀ k j (hj : j < dk.toList.length), ((putRow (fun (b : UInt8) => Value.int .u8 (b.toNat : Int)) (w.alloc (.cells Lib.zeros24 102)) w.heap.size 1 dk).drewN k).cell? ⟨w.heap.size, 1 + j, none⟩ = some (.int .u8 (dk.toList[j].toNat : Int)) := fun k j hj => by
      have e : dk.toList[j] = dk[j]! := by rw [getElem!_pos _ j (by simpa using hj)]; simp
      rw [e, World.cell?_drewN]
      exact cell?_putRow (fun (b : UInt8) => Value.int .u8 (b.toNat : Int)) _ w.heap.size 1 _ dk HH0.out (by rw [hsz, Array.size_replicate]) j (by simpa using hj)
    have HG := Lib.hid hget
    clear hget
    by_cases hneg : n < 0
    · rw [if_pos hneg]
      have hwr : IntKind.u64.wrap (-IntKind.u64.wrap n) = (u : Int) := by rw [IntKind.wrap_u64, IntKind.wrap_u64]; omega
      clear hu
      go_enter Tryd.func49, Tryd.ntmps49
      go_wp2_with (go_at_call 51; refine (HND.out _ HT.out).mono ?_; rintro e w' ⟨rfl, rfl⟩)
      go_at_call 52
      refine hfmt.mono ?_
      rintro e w' ⟨rfl, k, rfl⟩
      have hc0 : ((putRow (fun (b : UInt8) => Value.int .u8 (b.toNat : Int)) (w.alloc (.cells Lib.zeros24 102)) w.heap.size 1 dk).drewN k).cell? ⟨w.heap.size, 0, none⟩ = some (.int .u8 0) := by
        rw [World.cell?_drewN, cell?_putRow_other _ _ _ _ _ _ (Or.inr (Or.inl (Nat.zero_lt_one))), World.cell?_alloc_new]
        exact Lib.zeros24_at 0 (by omega)
      have hf0 : ((putRow (fun (b : UInt8) => Value.int .u8 (b.toNat : Int)) (w.alloc (.cells Lib.zeros24 102)) w.heap.size 1 dk).drewN k).frozen? ⟨w.heap.size, 0, none⟩ = false := by
        rw [World.frozen?_drewN, frozen?_putRow]
        exact World.frozen?_alloc_new _ _ _ _
      have hsl2 : ∀ W, (Instr.sliceAt 102 (.pointer (some ⟨w.heap.size, 0, none⟩)) none (some (.int .i64 (1 + (q : Int)))) none).run Tryd.prog W = .ok (.slice (some ⟨w.heap.size, 0, none⟩) (1 + q) 24) W := fun W => by
        rw [run_sliceAt_array_h W 102 ⟨w.heap.size, 0, none⟩ (by simp [Program.arrayLen, Program.elem, Tryd.underlying102]) .i64 (1 + (q : Int)) (by omega) (by rw [hal]; omega)]
        go_simp
        omega
      clear hal
      have hcv : (convert 106 9 (.slice (some ⟨w.heap.size, 0, none⟩) (1 + q) 24)).run Tryd.prog (((putRow (fun (b : UInt8) => Value.int .u8 (b.toNat : Int)) (w.alloc (.cells Lib.zeros24 102)) w.heap.size 1 dk).drewN k).setCell ⟨w.heap.size, 0, none⟩ (.int .u8 45)) = .ok (.string ⟨(45 :: dk.toList).toArray⟩) (((putRow (fun (b : UInt8) => Value.int .u8 (b.toNat : Int)) (w.alloc (.cells Lib.zeros24 102)) w.heap.size 1 dk).drewN k).setCell ⟨w.heap.size, 0, none⟩ (.int .u8 45)) := by
        have h := run_convert_bytes_back (P := Tryd.prog) (((putRow (fun (b : UInt8) => Value.int .u8 (b.toNat : Int)) (w.alloc (.cells Lib.zeros24 102)) w.heap.size 1 dk).drewN k).setCell ⟨w.heap.size, 0, none⟩ (.int .u8 45)) 106 9 5 ⟨w.heap.size, 0, none⟩ 24 (45 :: dk.toList) Tryd.underlying106 Tryd.underlying5 Tryd.underlying9 (fun j hj => by
          rw [Lib.add_plain]
          cases j with
          | zero => exact World.cell?_setCell_same _ _ _ hc0
          | succ i =>
            have hi : i < dk.toList.length := by simpa using hj
            rw [World.cell?_setCell_other _ _ _ _ (by simp), List.getElem_cons_succ, show 0 + (i + 1) = 1 + i by omega]
            exact HG.out k i hi)
        have el : (45 :: dk.toList).length = 1 + q := by simp [hsz]; omega
        rw [el] at h
        exact h
      go_wp2
      go_ret
      refine ⟨rfl, ?_⟩
      obtain ⟨os, eo⟩ := Lib.fin_neg w (.cells Lib.zeros24 102) dk k (.int .u8 45)
      rw [eo]
      exact bel_grow _ _
    · rw [if_neg hneg]
      obtain rfl : n = (u : Int) := by omega
      clear hu
      go_enter Tryd.func49, Tryd.ntmps49
      go_wp2_with (go_at_call 51; refine (HND.out _ HT.out).mono ?_; rintro e w' ⟨rfl, rfl⟩)
      go_at_call 52
      refine hfmt.mono ?_
      rintro e w' ⟨rfl, k, rfl⟩
      have hcv : (convert 106 9 (.slice (some ⟨w.heap.size, 1, none⟩) q 23)).run Tryd.prog ((putRow (fun (b : UInt8) => Value.int .u8 (b.toNat : Int)) (w.alloc (.cells Lib.zeros24 102)) w.heap.size 1 dk).drewN k) = .ok (.string ⟨dk.toList.toArray⟩) ((putRow (fun (b : UInt8) => Value.int .u8 (b.toNat : Int)) (w.alloc (.cells Lib.zeros24 102)) w.heap.size 1 dk).drewN k) := by
        have h := run_convert_bytes_back (P := Tryd.prog) ((putRow (fun (b : UInt8) => Value.int .u8 (b.toNat : Int)) (w.alloc (.cells Lib.zeros24 102)) w.heap.size 1 dk).drewN k) 106 9 5 ⟨w.heap.size, 1, none⟩ 23 dk.toList Tryd.underlying106 Tryd.underlying5 Tryd.underlying9 (fun j hj => by
          rw [Lib.add_plain]
          exact HG.out k j hj)
        have el : dk.toList.length = q := by simp [hsz]
        rw [el] at h
        exact h
      go_wp2
      go_ret
      refine ⟨rfl, ?_⟩
      obtain ⟨os, eo⟩ := Lib.fin_pos w (.cells Lib.zeros24 102) dk k
      rw [eo]
      exact bel_grow _ _

set_option maxRecDepth 100000 in
/-- strconv.Itoa. -/
theorem itoaT (T : Nat → Nat) (n : Int) (h0 : -9223372036854775808 ≤ n) (h1 : n ≤ 9223372036854775807) (w : World) (htab : TabAt w T) :
    Calls Tryd.prog 47 #[.int .i64 n] w fun e w' => e = .returned (.string ⟨(itT T n).toArray⟩) ∧ Below w.heap.size w w' := by
  have HF := Lib.hid (formatIntT T n h0 h1 w htab)
  clear htab
  have HI : Calls Tryd.prog 48 #[.int .i64 n] w fun e w' => e = .returned (.string ⟨(itT T n).toArray⟩) ∧ Below w.heap.size w w' := by
    generalize (itT T n).toArray = s at HF ⊢
    go_enter Tryd.func48, Tryd.ntmps48
    go_wp2_with (go_at_call 49; refine HF.out.mono ?_; rintro e w' ⟨rfl, hb⟩)
    go_ret
    exact ⟨rfl, hb⟩
  have HH := Lib.hid HI
  clear HI HF
  generalize (itT T n).toArray = s at HH ⊢
  go_enter Tryd.func47, Tryd.ntmps47
  go_wp2_with (go_at_call 48; refine HH.out.mono ?_; rintro e w' ⟨rfl, hb⟩)
  go_ret
  exact ⟨rfl, hb⟩
end Go.Proofs.YtcdhfelcgcnoiaaDoor
