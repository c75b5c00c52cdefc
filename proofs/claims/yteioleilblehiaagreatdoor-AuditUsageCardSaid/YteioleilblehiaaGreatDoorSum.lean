/- vec.sum: the sum of a column, in 128 bits; by contract. -/
import Derived.Test.YteioleilblehiaaGreatDoorRws
import Derived.Laws.Externs
import Derived.KernelRfl
namespace Go.Proofs.YteioleilblehiaaGreatDoor
open Go.RowKit

theorem add64 (x y c : Int) (hx : 0 ≤ x) (hy : 0 ≤ y) (hc0 : 0 ≤ c) (hc : c ≤ 1) (w : World) :
    (callFunc 44 #[.int .u64 x, .int .u64 y, .int .u64 c]).run Tryz.prog w =
      .ok (.value (.tuple #[.int .u64 ((x + y + c) % 18446744073709551616), .int .u64 ((x + y + c) / 18446744073709551616)])) w := by
  rw [run_callFunc_extern (by kernel_rfl : Tryz.prog.funcs[44]? = some Tryz.f44) (by kernel_rfl) (by kernel_rfl) (by kernel_rfl) (e := add64Entry) (by kernel_rfl), run_add64 x y c hx hy hc0 hc]
  rfl

/-- The numbers of column i. -/
def colOf (L : List (List Int)) (i : Nat) : List Int := L.map fun r => r.getD i 0
def sumL : List Int → Int
  | [] => 0
  | x :: r => x + sumL r
theorem sumL_snoc (l : List Int) (x : Int) : sumL (l ++ [x]) = sumL l + x := by
  induction l with
  | nil => simp [sumL]
  | cons y r ih => simp only [List.cons_append, sumL, ih]; omega
theorem col_snoc {L : List (List Int)} {k : Nat} (i : Nat) (h : k < L.length) : sumL ((colOf L i).take (k + 1)) = sumL ((colOf L i).take k) + (L.getD k []).getD i 0 := by
  have hl : k < (colOf L i).length := by unfold colOf; simpa using h
  rw [List.take_succ_eq_append_getElem hl, sumL_snoc]
  congr 1
  unfold colOf
  simp [List.getD_eq_getElem?_getD, List.getElem?_eq_getElem h]
theorem sumL_bd (l : List Int) (h : ∀ x, x ∈ l → -9223372036854775808 ≤ x ∧ x ≤ 9223372036854775807) : -9223372036854775808 * (l.length : Int) ≤ sumL l ∧ sumL l ≤ 9223372036854775808 * (l.length : Int) := by
  induction l with
  | nil => simp [sumL]
  | cons y r ih =>
    have h1 := ih (fun x hx => h x (by simp [hx]))
    have h2 := h y (by simp)
    simp only [sumL, List.length_cons]
    omega
def fitsB (s : Int) : Bool := decide (-9223372036854775808 ≤ s) && decide (s ≤ 9223372036854775807)
theorem fits_fin (s lo hi n z : Int) (h1 : -9223372036854775808000000000 ≤ s) (h2 : s ≤ 9223372036854775808000000000) (hlo : lo = s % 18446744073709551616) (hhi : hi = s / 18446744073709551616 % 18446744073709551616)
    (hn : n = (lo + 9223372036854775808) % 18446744073709551616 - 9223372036854775808) (hz : z = n / 9223372036854775808 % 18446744073709551616) : (hi == z) = fitsB s := by
  have hq : ∃ q, s / 18446744073709551616 = q := ⟨_, rfl⟩
  obtain ⟨q, hq⟩ := hq
  rw [hq] at hhi
  have hs : s = 18446744073709551616 * q + lo := by omega
  have hl : 0 ≤ lo ∧ lo < 18446744073709551616 := by omega
  clear hlo hq
  have hqb : -1000000000 ≤ q ∧ q < 1000000000 := by omega
  have hn2 : n = if lo < 9223372036854775808 then lo else lo - 18446744073709551616 := by split <;> omega
  have hz2 : z = if lo < 9223372036854775808 then 0 else 18446744073709551615 := by split at hn2 <;> simp [*] <;> omega
  have hh2 : hi = if 0 ≤ q then q else q + 18446744073709551616 := by split <;> omega
  clear hn hz hhi hn2
  rw [Bool.eq_iff_iff]
  unfold fitsB
  simp only [beq_iff_eq, Bool.and_eq_true, decide_eq_true_eq]
  split at hz2 <;> split at hh2 <;> omega
def SumRel (L : List (List Int)) (i : Nat) (hi lo k : Value) : Prop :=
  ∃ n : Nat, n ≤ L.length ∧ k = .int .i64 n ∧ lo = .int .u64 (sumL ((colOf L i).take n) % 18446744073709551616) ∧ hi = .int .u64 (sumL ((colOf L i).take n) / 18446744073709551616 % 18446744073709551616)

set_option maxHeartbeats 4000000 in
set_option maxRecDepth 100000 in
theorem vec_sum (v : Value) (L : List (List Int)) (i : Nat) (w : World) (h : SlRows w v L) (hn : L.length ≤ 1000000000) (hi : ∀ r, r ∈ L → i < r.length) (_him : i ≤ 1000000000)
    (hb : ∀ r, r ∈ L → -9223372036854775808 ≤ r.getD i 0 ∧ r.getD i 0 ≤ 9223372036854775807) :
    Calls Tryz.prog 32 #[v, .int .i64 i] w fun e w' => e = .returned (.tuple #[.int .i64 (wrap64 (sumL (colOf L i))), .bool (fitsB (sumL (colOf L i)))]) ∧ w = w' := by
  obtain ⟨a, cap, rfl, hc⟩ := h
  have Hc := Lib.hid hc; clear hc
  have Hi := Lib.hid hi; clear hi
  have Hb := Lib.hid hb; clear hb
  go_enter Tryz.func32, Tryz.ntmps32
  go_wp2
  go_loop [6, 7, 14] (SumRel L i) (fun _ _ k => L.length - (intOf k).toNat)
  case atStart => exact ⟨0, Nat.zero_le _, rfl, rfl, rfl⟩
  case round =>
    obtain ⟨n, hnl, rfl, rfl, rfl⟩ := hrel
    by_cases hlt : n < L.length
    · obtain ⟨b, off, u, rfl, hcell, cs⟩ := Hc.out n hlt
      obtain ⟨a2, cap2, rfl, hc2⟩ := cs
      have hm : L.getD n [] ∈ L := by rw [List.getD_eq_getElem?_getD, List.getElem?_eq_getElem hlt]; exact List.getElem_mem _
      have hil := Hi.out _ hm
      obtain ⟨b2, off2, rfl, hcell2⟩ := hc2 i hil
      obtain ⟨hx1, hx2⟩ := Hb.out _ hm
      have Hsn := Lib.hid (col_snoc i hlt)
      clear hm hc2
      generalize (L.getD n []).getD i 0 = x at *
      generalize (L.getD n []).length = m at *
      generalize sumL ((colOf L i).take n) = s at *
      obtain ⟨lo, hlo⟩ : ∃ lo, s % 18446744073709551616 = lo := ⟨_, rfl⟩
      obtain ⟨hi, hhi⟩ : ∃ hi, s / 18446744073709551616 % 18446744073709551616 = hi := ⟨_, rfl⟩
      rw [hlo, hhi]
      obtain ⟨y, hy⟩ : ∃ y, IntKind.u64.wrap x = y := ⟨_, rfl⟩
      have hy' := IntKind.wrap_u64 x
      rw [hy] at hy'
      have a1 := add64 lo y 0 (by omega) (by omega) (by omega) (by omega) w
      obtain ⟨l1, hl1⟩ : ∃ l1, (lo + y + 0) % 18446744073709551616 = l1 := ⟨_, rfl⟩
      obtain ⟨c1, hc1⟩ : ∃ c1, (lo + y + 0) / 18446744073709551616 = c1 := ⟨_, rfl⟩
      rw [hl1, hc1] at a1
      obtain ⟨z, hz⟩ : ∃ z, IntKind.u64.wrap (x / 9223372036854775808) = z := ⟨_, rfl⟩
      have hz' := IntKind.wrap_u64 (x / 9223372036854775808)
      rw [hz] at hz'
      have a2 := add64 hi z c1 (by omega) (by omega) (by omega) (by omega) w
      obtain ⟨h1, hh1⟩ : ∃ h1, (hi + z + c1) % 18446744073709551616 = h1 := ⟨_, rfl⟩
      rw [hh1] at a2
      have e1 : l1 = (s + x) % 18446744073709551616 := by omega
      have e2 : h1 = (s + x) / 18446744073709551616 % 18446744073709551616 := by omega
      have E1 := Lib.hid e1
      have E2 := Lib.hid e2
      clear hy' hlo hhi hl1 hc1 hz' hh1 e1 e2
      go_wp2
      go_round
      case rel => exact ⟨n + 1, by omega, by go_num, by rw [Hsn.out, E1.out], by rw [Hsn.out, E2.out]⟩
      case measure => simp [intOf]; omega
    · obtain rfl : n = L.length := by omega
      have hbd := sumL_bd (colOf L i) (fun x hx => by
        obtain ⟨r, hr, rfl⟩ := List.mem_map.1 hx
        exact Hb.out r hr)
      have hcl : (colOf L i).length = L.length := by simp [colOf]
      have htk : (colOf L i).take L.length = colOf L i := List.take_of_length_le (by omega)
      rw [htk]
      rw [hcl] at hbd
      clear htk hcl
      obtain ⟨s, hs⟩ : ∃ s, sumL (colOf L i) = s := ⟨_, rfl⟩
      rw [hs] at hbd ⊢
      have Hs := Lib.hid hs
      clear hs
      obtain ⟨lo, hlo⟩ : ∃ lo, s % 18446744073709551616 = lo := ⟨_, rfl⟩
      obtain ⟨hi, hhi⟩ : ∃ hi, s / 18446744073709551616 % 18446744073709551616 = hi := ⟨_, rfl⟩
      rw [hlo, hhi]
      obtain ⟨n, hn⟩ : ∃ n, IntKind.i64.wrap lo = n := ⟨_, rfl⟩
      have hn' := IntKind.wrap_i64 lo
      rw [hn] at hn'
      obtain ⟨z, hz⟩ : ∃ z, IntKind.u64.wrap (n / 9223372036854775808) = z := ⟨_, rfl⟩
      have hz' := IntKind.wrap_u64 (n / 9223372036854775808)
      rw [hz] at hz'
      have e1 : n = wrap64 s := by unfold wrap64; omega
      have e2 : (hi == z) = fitsB s := fits_fin s lo hi n z (by omega) (by omega) hlo.symm hhi.symm hn' hz'
      have E1 := Lib.hid e1
      have E2 := Lib.hid e2
      clear hlo hhi hn' hz' e1 e2 hbd
      go_wp2
      go_ret2
      exact ⟨by rw [Hs.out, E1.out, E2.out]; rfl, rfl⟩
end Go.Proofs.YteioleilblehiaaGreatDoor
