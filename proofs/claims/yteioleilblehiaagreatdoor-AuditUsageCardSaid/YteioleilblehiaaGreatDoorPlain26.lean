/- The plain law of AuditUsage: what leaving out a pod does to the sums. -/
import Derived.Test.YteioleilblehiaaGreatDoorUsage
import Derived.Test.YteioleilblehiaaGreatDoorRefAdd
namespace Go.Proofs.YteioleilblehiaaGreatDoor
open Go.RowKit

theorem badAt_neg {xs : List Int} : ∀ {i : Int}, 0 ≤ i → badAt i xs < 0 → ∀ y, y ∈ xs → badN y = false := by
  induction xs with
  | nil => intro i _ _ y hy; simp at hy
  | cons x r ih =>
    intro i hi h y hy
    unfold badAt at h
    cases hx : badN x with
    | true => rw [hx] at h; simp at h; omega
    | false =>
      rw [hx] at h
      simp only [Bool.false_eq_true, if_false] at h
      rcases List.mem_cons.1 hy with rfl | hy
      · exact hx
      · exact ih (by omega) h y hy
theorem badV_ok {xs : List Int} (h : badV xs = false) : ∀ y, y ∈ xs → 0 ≤ y ∧ y ≤ 1099511627776 := by
  intro y hy
  unfold badV at h
  have := badAt_neg (Int.le_refl 0) (by simpa using h) y hy
  unfold badN at this
  simp at this
  omega
structure SmallView (x : ViewR) : Prop where
  dims : x.dims ≤ 20
  pods : x.pods.length ≤ 100
  req : ∀ p, p ∈ x.pods → ∀ y, y ∈ p.req → 0 ≤ y ∧ y ≤ 1099511627776
theorem small_of_few {x : ViewR} (h : few26 x = true) : SmallView x := by
  unfold few26 smallV few6 at h
  simp only [Bool.and_eq_true, decide_eq_true_eq, Bool.not_eq_true', decide_eq_false_iff_not, List.all_eq_true] at h
  obtain ⟨⟨⟨⟨⟨⟨⟨_, h1⟩, _⟩, _⟩, _⟩, h2⟩, _⟩, h3⟩ := h
  exact ⟨by omega, by omega, fun p hp => badV_ok (h3 p hp)⟩
theorem filter_erase {ps : List PodR} {k : Nat} (hk : k < ps.length) (f : PodR → Bool) : ps.filter f = (ps.take k).filter f ++ (if f (ps.getD k pod0) then [ps.getD k pod0] else []) ++ (ps.drop (k + 1)).filter f ∧ (ps.eraseIdx k).filter f = (ps.take k).filter f ++ (ps.drop (k + 1)).filter f := by
  constructor
  · have e : ps = ps.take k ++ (ps.getD k pod0 :: ps.drop (k + 1)) := by
      have : ps.getD k pod0 = ps[k] := by rw [List.getD_eq_getElem?_getD, List.getElem?_eq_getElem hk]; rfl
      rw [this, List.getElem_cons_drop, List.take_append_drop]
    conv => lhs; rw [e]
    rw [List.filter_append, List.filter_cons]
    split <;> simp
  · rw [List.eraseIdx_eq_take_drop_succ, List.filter_append]
theorem rows_same {ps : List PodR} {k : Nat} (hk : k < ps.length) (node dims : Int) (h : selB node dims (ps.getD k pod0) = false) : rowsOf (ps.eraseIdx k) node dims = rowsOf ps node dims := by
  obtain ⟨e1, e2⟩ := filter_erase hk (selB node dims)
  unfold rowsOf
  rw [e1, e2, h]
  simp
theorem usage_same {dims : Int} {ns : List NodeR} {ps : List PodR} {acs ks : List Int} {k : Nat} (hk : k < ps.length) (node : Int) (h : selB node dims (ps.getD k pod0) = false) : usageL ⟨dims, ns, ps.eraseIdx k, acs, ks⟩ node = usageL ⟨dims, ns, ps, acs, ks⟩ node := by
  unfold usageL
  simp only [rows_same hk node dims h]
theorem sumL_app (a b : List Int) : sumL (a ++ b) = sumL a + sumL b := by
  induction a with
  | nil => simp [sumL]
  | cons x r ih => simp only [List.cons_append, sumL, ih]; omega
theorem rows_less {ps : List PodR} {k : Nat} (hk : k < ps.length) (node dims : Int) (h : selB node dims (ps.getD k pod0) = true) (i : Nat) : sumL (colOf (rowsOf ps node dims) i) = sumL (colOf (rowsOf (ps.eraseIdx k) node dims) i) + (ps.getD k pod0).req.getD i 0 := by
  obtain ⟨e1, e2⟩ := filter_erase hk (selB node dims)
  unfold rowsOf
  rw [e1, e2, h]
  simp only [if_true, colOf, List.map_cons, List.map_append, List.map_nil, sumL, sumL_app]
  omega
theorem rows_in {dims node : Int} {ps : List PodR} (h2 : ∀ p, p ∈ ps → ∀ y, y ∈ p.req → 0 ≤ y ∧ y ≤ 1099511627776) : ∀ r, r ∈ rowsOf ps node dims → ∀ y, y ∈ r → 0 ≤ y ∧ y ≤ 1099511627776 := by
  intro r hr y hy
  unfold rowsOf at hr
  rcases List.mem_cons.1 hr with rfl | hr
  · have := List.eq_of_mem_replicate hy
    omega
  · obtain ⟨p, hp, rfl⟩ := List.mem_map.1 hr
    exact h2 p (List.mem_filter.1 hp).1 y hy
theorem col_bd {dims node : Int} {ps : List PodR} (h1 : ps.length ≤ 100) (h2 : ∀ p, p ∈ ps → ∀ y, y ∈ p.req → 0 ≤ y ∧ y ≤ 1099511627776) (i : Nat) (hi : i < dims.toNat) : 0 ≤ sumL (colOf (rowsOf ps node dims) i) ∧ sumL (colOf (rowsOf ps node dims) i) ≤ 1000000000000000 := by
  have h := sumL_nn (colOf (rowsOf ps node dims) i) 1099511627776 (fun x hx => by
    obtain ⟨r, hr, rfl⟩ := List.mem_map.1 hx
    exact rows_in h2 r hr _ (getD_mem _ _ _ (by rw [rows_len node dims ps r hr]; exact hi)))
  have hl : (colOf (rowsOf ps node dims) i).length ≤ 101 := by
    unfold colOf rowsOf
    rw [List.length_map, List.length_cons, List.length_map]
    have := List.length_filter_le (selB node dims) ps
    omega
  have : ((colOf (rowsOf ps node dims) i).length : Int) * 1099511627776 ≤ 101 * 1099511627776 := by omega
  omega
theorem usage_eq {dims : Int} {ns : List NodeR} {ps : List PodR} {acs ks : List Int} (h1 : ps.length ≤ 100) (h2 : ∀ p, p ∈ ps → ∀ y, y ∈ p.req → 0 ≤ y ∧ y ≤ 1099511627776) (node : Int) :
    usageL ⟨dims, ns, ps, acs, ks⟩ node = sumsL (rowsOf ps node dims) dims.toNat := by
  show (if addB (rowsOf ps node dims) dims.toNat then sumsL (rowsOf ps node dims) dims.toNat else []) = _
  rw [if_pos]
  refine addB_yes (fun j hj => ?_)
  have := col_bd (node := node) h1 h2 j hj
  unfold fitsB
  simp
  omega
theorem sumsL_getD (L : List (List Int)) (n i : Nat) (hi : i < n) : (sumsL L n).getD i 0 = sumL (colOf L i) := by
  simp [sumsL, List.getD_eq_getElem?_getD, hi]
/-- With the pod left out, and its request put to it again. -/
theorem usage_add {dims : Int} {ns : List NodeR} {ps : List PodR} {acs ks : List Int} {k : Nat} (hk : k < ps.length) (h1 : ps.length ≤ 100) (h2 : ∀ p, p ∈ ps → ∀ y, y ∈ p.req → 0 ≤ y ∧ y ≤ 1099511627776) (node : Int) (h : selB node dims (ps.getD k pod0) = true) :
    usageL ⟨dims, ns, ps, acs, ks⟩ node = sumsL [usageL ⟨dims, ns, ps.eraseIdx k, acs, ks⟩ node, (ps.getD k pod0).req] dims.toNat := by
  have g1 : (ps.eraseIdx k).length ≤ 100 := Nat.le_trans (List.length_eraseIdx_le ps k) h1
  have g2 : ∀ p, p ∈ ps.eraseIdx k → ∀ y, y ∈ p.req → 0 ≤ y ∧ y ≤ 1099511627776 := fun p hp => h2 p (List.mem_of_mem_eraseIdx hp)
  rw [usage_eq h1 h2, usage_eq g1 g2]
  unfold sumsL
  refine List.map_congr_left (fun i hi => ?_)
  rw [rows_less hk node dims h i]
  rw [List.mem_range] at hi
  have := sumsL_getD (rowsOf (ps.eraseIdx k) node dims) dims.toNat i hi
  unfold sumsL at this
  simp only [colOf, List.map_cons, List.map_nil, sumL] at this ⊢
  rw [this]
  omega
/-- What the reference's Add asks of the two rows. -/
theorem add_rows {dims : Int} {ns : List NodeR} {ps : List PodR} {acs ks : List Int} {k : Nat} (hk : k < ps.length) (h1 : ps.length ≤ 100) (h2 : ∀ p, p ∈ ps → ∀ y, y ∈ p.req → 0 ≤ y ∧ y ≤ 1099511627776) (node : Int) (h : selB node dims (ps.getD k pod0) = true) :
    (∀ r, r ∈ [usageL ⟨dims, ns, ps.eraseIdx k, acs, ks⟩ node, (ps.getD k pod0).req] → r.length = dims.toNat) ∧ (∀ r, r ∈ [usageL ⟨dims, ns, ps.eraseIdx k, acs, ks⟩ node, (ps.getD k pod0).req] → ∀ x, x ∈ r → 0 ≤ x ∧ x ≤ 1000000000000000) := by
  have g1 : (ps.eraseIdx k).length ≤ 100 := Nat.le_trans (List.length_eraseIdx_le ps k) h1
  have g2 : ∀ p, p ∈ ps.eraseIdx k → ∀ y, y ∈ p.req → 0 ≤ y ∧ y ≤ 1099511627776 := fun p hp => h2 p (List.mem_of_mem_eraseIdx hp)
  rw [usage_eq g1 g2]
  constructor
  · intro r hr
    rcases List.mem_cons.1 hr with rfl | hr
    · simp [sumsL]
    · rcases List.mem_cons.1 hr with rfl | hr
      · unfold selB at h
        simp only [Bool.and_eq_true, beq_iff_eq] at h
        have := h.2
        omega
      · simp at hr
  · intro r hr x hx
    rcases List.mem_cons.1 hr with rfl | hr
    · unfold sumsL at hx
      obtain ⟨i, hi, rfl⟩ := List.mem_map.1 hx
      rw [List.mem_range] at hi
      exact col_bd g1 g2 i hi
    · rcases List.mem_cons.1 hr with rfl | hr
      · have := h2 _ (getD_mem ps pod0 k hk) x hx
        omega
      · simp at hr
theorem usage_len {dims : Int} {ns : List NodeR} {ps : List PodR} {acs ks : List Int} (h1 : ps.length ≤ 100) (h2 : ∀ p, p ∈ ps → ∀ y, y ∈ p.req → 0 ≤ y ∧ y ≤ 1099511627776) (node : Int) : (usageL ⟨dims, ns, ps, acs, ks⟩ node).length = dims.toNat := by
  rw [usage_eq h1 h2]
  simp [sumsL]
end Go.Proofs.YteioleilblehiaaGreatDoor
