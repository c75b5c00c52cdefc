/- A slice of pods without one of them. -/
import Derived.Test.YteioleilblehiaaGreatDoorUsage
import Derived.Deep.RegionLaw
import Derived.WideShapes
namespace Go.Proofs.YteioleilblehiaaGreatDoor
open Go.RowKit

def podCell (rv : Value) (p : PodR) : Nat → Value
  | 0 => .int .i64 p.id
  | 1 => .int .i64 p.prio
  | 2 => .bool p.pre
  | 3 => .int .i64 p.grace
  | 4 => rv
  | 5 => .int .i64 p.arr
  | 6 => .int .i64 p.phase
  | 7 => .int .i64 p.node
  | _ => .int .i64 p.dl
theorem PodAt.cell {w : World} {b o : Nat} {rv : Value} {p : PodR} (h : PodAt w b o rv p) (j : Nat) (hj : j < 9) : w.cell? ⟨b, o + j, none⟩ = some (podCell rv p j) := by
  obtain ⟨h0, h1, h2, h3, h4, h5, h6, h7, h8, hs⟩ := h
  match j, hj with
  | 0, _ => exact h0
  | 1, _ => exact h1
  | 2, _ => exact h2
  | 3, _ => exact h3
  | 4, _ => exact h4
  | 5, _ => exact h5
  | 6, _ => exact h6
  | 7, _ => exact h7
  | 8, _ => exact h8
theorem PodAt.of_cells {w : World} {b o : Nat} {rv : Value} {p : PodR} (h : ∀ j, j < 9 → w.cell? ⟨b, o + j, none⟩ = some (podCell rv p j)) (hs : I64s w rv p.req) : PodAt w b o rv p :=
  ⟨h 0 (by omega), h 1 (by omega), h 2 (by omega), h 3 (by omega), h 4 (by omega), h 5 (by omega), h 6 (by omega), h 7 (by omega), h 8 (by omega), hs⟩
theorem podCell_one {w : World} {rv : Value} {p : PodR} (hs : I64s w rv p.req) (j : Nat) : (podCell rv p j).oneCell' = true := by
  obtain ⟨a, c, rfl, _⟩ := hs
  unfold podCell
  split <;> rfl

/-- append of cells that are there, as a step of a region that draws its order. -/
theorem step_own {P : Program} (w : World) {ops : Array Oper} {o : Oper} {a : Act} {K : Act → World → Prop} {Q : Exit → Act → World → Prop} {E : Prop} (hgd : o.guard = none) (s x : Operand) (t : TypeId)
    (ho : o.op = .call { callee := .builtin .append, args := #[s, x], argTypes := #[t, t] })
    (base : Nat) (e : TypeId) (i : TypeInfo) (z : Value) (size bytes : Nat) (ht : P.underlying t = some (.slice e)) (hi : P.info? e = some i) (hz : i.zero = some z)
    (hsize : i.size = size) (hby : i.bytes = bytes) (hzs : z.cells.size = size) (hsz : 0 < size)
    (v : Value) (n : Nat) (xs : List Value) (hs : a.eval s = v) (hown : w.ownsRow base e size v n xs)
    (ad : Addr) (m c : Nat) (news : List Value) (hx : a.eval x = .slice (some ad) m c) (hl : news.length = m * size) (hnews : ∀ j u, news[j]? = some u → w.cell? (ad.add j) = some u) (h1 : ∀ u ∈ news, u.oneCell' = true)
    (h63 : n + m ≤ maxLen) (hbytes : (n + m) * bytes ≤ 140737488355328) (hbase : base ≤ w.heap.size)
    (h : ∀ v' w', w'.ownsRow base e size v' (n + m) (xs ++ news) → w.grownBy w' v.ownBlock → K (a.put o.dst v') w') :
    if Region.wanted o (yielded ops a.tmps) = true then Oper.wp P o a w K Q else E := by
  have hw : Region.wanted o (yielded ops a.tmps) = true := by simp [Region.wanted, hgd]
  rw [if_pos hw]
  exact wp_append_own w s x t ho base e i z size bytes ht hi hz hsize hby hzs hsz v n xs hs hown ad m c news hx hl hnews h1 h63 hbytes hbase fun v' w' h2 h3 _ => h v' w' h2 h3

theorem own_form {w : World} {base : Nat} {e : TypeId} {size n : Nat} {v : Value} {xs : List Value} (h : w.ownsRow base e size v n xs) : ∃ A c, v = .slice A n c := by
  rcases h.2 with ⟨rfl, rfl⟩ | ⟨g, cap, cur, rfl, _⟩
  · exact ⟨_, _, rfl⟩
  · exact ⟨_, _, rfl⟩
theorem src_cells {W : World} {b off n : Nat} {g : Nat → Value} (h : ∀ j, j < n → W.cell? ⟨b, off + j, none⟩ = some (g j)) (m s o2 : Nat) (hm : s + m ≤ n) (ho : 0 < m → o2 = off + s) :
    ∀ j u, ((List.range m).map fun j => g (j + s))[j]? = some u → W.cell? ((⟨b, o2, none⟩ : Addr).add j) = some u := by
  intro j u hu
  rw [List.getElem?_map, Option.map_eq_some_iff] at hu
  obtain ⟨i, hi, rfl⟩ := hu
  obtain ⟨hj, e⟩ := List.getElem?_eq_some_iff.1 hi
  rw [List.length_range] at hj
  rw [List.getElem_range] at e
  subst e
  rw [WideShapes.add_plain, ho (by omega), Nat.add_assoc, h _ (by omega), Nat.add_comm s]
theorem src_one {n : Nat} {g : Nat → Value} (h : ∀ j, j < n → (g j).oneCell' = true) (m s : Nat) (hm : s + m ≤ n) : ∀ u ∈ ((List.range m).map fun j => g (j + s)), u.oneCell' = true := by
  intro u hu
  obtain ⟨i, hi, rfl⟩ := List.mem_map.1 hu
  rw [List.mem_range] at hi
  exact h _ (by omega)
def gCell (rvf : Nat → Value) (ps : List PodR) (j : Nat) : Value := podCell (rvf (j / 9)) (ps.getD (j / 9) pod0) (j % 9)
theorem gCell_at {w : World} {b off : Nat} {rvf : Nat → Value} {ps : List PodR} (h : ∀ i, i < ps.length → PodAt w b (off + i * 9) (rvf i) (ps.getD i pod0)) (j : Nat) (hj : j < ps.length * 9) : w.cell? ⟨b, off + j, none⟩ = some (gCell rvf ps j) := by
  have := (h (j / 9) (by omega)).cell (j % 9) (by omega)
  rw [show off + j / 9 * 9 + j % 9 = off + j by omega] at this
  exact this
theorem gCell_one {w : World} {b off : Nat} {rvf : Nat → Value} {ps : List PodR} (h : ∀ i, i < ps.length → PodAt w b (off + i * 9) (rvf i) (ps.getD i pod0)) (j : Nat) (hj : j < ps.length * 9) : (gCell rvf ps j).oneCell' = true :=
  podCell_one (h (j / 9) (by omega)).2.2.2.2.2.2.2.2.2 _
/-- The pods without the one at place k, in a row of the call's own. -/
theorem less_pods {w W : World} {base b off k : Nat} {rvf : Nat → Value} {ps : List PodR} {v : Value} (hk : k < ps.length) (h : ∀ i, i < ps.length → PodAt w b (off + i * 9) (rvf i) (ps.getD i pod0)) (hb : Below w.heap.size w W)
    (hown : W.ownsRow base 31 9 v (k + (ps.length - (k + 1))) (((List.range (k * 9)).map fun j => gCell rvf ps (j + 0)) ++ ((List.range ((ps.length - (k + 1)) * 9)).map fun j => gCell rvf ps (j + (k + 1) * 9)))) : Pods W v (ps.eraseIdx k) := by
  have hl : (ps.eraseIdx k).length = k + (ps.length - (k + 1)) := by rw [List.length_eraseIdx, if_pos hk]; omega
  rcases hown.2 with ⟨rfl, h0⟩ | ⟨g, cap, cur, rfl, hbs, hg, hn, hm, hs, ht⟩
  · have : ps.eraseIdx k = [] := List.length_eq_zero_iff.1 (by omega)
    rw [this]
    exact Pods.nil W
  · rw [← hl] at ht hown ⊢
    refine ⟨_, cap, rfl, fun i hi => ?_⟩
    have hi2 : (if i < k then i else i + 1) < ps.length := by split <;> omega
    have he : (ps.eraseIdx k).getD i pod0 = ps.getD (if i < k then i else i + 1) pod0 := by
      rw [List.getD_eq_getElem?_getD, List.getElem?_eraseIdx, List.getD_eq_getElem?_getD]
      split <;> rfl
    have hpa := h _ hi2
    rw [he]
    refine ⟨g, 0, rvf (if i < k then i else i + 1), rfl, PodAt.of_cells (fun j hj => ?_) (hpa.2.2.2.2.2.2.2.2.2.below hb)⟩
    have e : cur[i * 9 + j]? = some (podCell (rvf (if i < k then i else i + 1)) (ps.getD (if i < k then i else i + 1) pod0) j) := by
      have e1 : (cur.toList.take ((ps.eraseIdx k).length * 9))[i * 9 + j]? = cur.toList[i * 9 + j]? := by rw [List.getElem?_take, if_pos (by omega)]
      rw [← Array.getElem?_toList, ← e1, ht]
      by_cases hik : i < k
      · rw [List.getElem?_append_left (by simp; omega), List.getElem?_map, List.getElem?_range (by omega), if_pos hik]
        simp only [Option.map_some, gCell, Nat.add_zero]
        rw [show (i * 9 + j) / 9 = i by omega, show (i * 9 + j) % 9 = j by omega]
      · rw [List.getElem?_append_right (by simp; omega), List.getElem?_map, List.length_map, List.length_range, List.getElem?_range (by omega), if_neg hik]
        simp only [Option.map_some, gCell]
        rw [show (i * 9 + j - k * 9 + (k + 1) * 9) / 9 = i + 1 by omega, show (i * 9 + j - k * 9 + (k + 1) * 9) % 9 = j by omega]
    rw [show 0 + i * 9 + j = i * 9 + j by omega]
    simp [World.cell?, hg, e]
end Go.Proofs.YteioleilblehiaaGreatDoor
