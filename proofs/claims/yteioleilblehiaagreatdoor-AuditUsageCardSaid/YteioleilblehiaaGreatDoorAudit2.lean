/- phase.Name, audit.Name and the predicates of audit's parts, by contract. -/
import Derived.Test.YteioleilblehiaaGreatDoorMaps
import Derived.Test.YteioleilblehiaaGreatDoorPhase
import Derived.Test.YteioleilblehiaaGreatDoorPods
namespace Go.Proofs.YteioleilblehiaaGreatDoor
open Go.RowKit

def PhNames (w : World) : Prop := ∃ ty fr, w.heap[1]? = some (.cells #[.string ⟨#[]⟩, .string ⟨#[112, 101, 110, 100, 105, 110, 103]⟩, .string ⟨#[110, 111, 109, 105, 110, 97, 116, 101, 100]⟩, .string ⟨#[98, 111, 117, 110, 100]⟩, .string ⟨#[116, 101, 114, 109, 105, 110, 97, 116, 105, 110, 103]⟩, .string ⟨#[103, 111, 110, 101]⟩] ty fr)
def AuNames (w : World) : Prop := ∃ ty fr, w.heap[0]? = some (.cells #[.string ⟨#[]⟩, .string ⟨#[99, 97, 112, 97, 99, 105, 116, 121]⟩, .string ⟨#[112, 104, 97, 115, 101]⟩, .string ⟨#[112, 108, 97, 99, 101]⟩, .string ⟨#[108, 105, 115, 116, 115]⟩, .string ⟨#[116, 119, 105, 99, 101]⟩] ty fr)
theorem PhNames.block {w W : World} (h : PhNames w) (hb : W.heap[1]? = w.heap[1]?) : PhNames W := by
  obtain ⟨ty, fr, h⟩ := h
  exact ⟨ty, fr, hb.trans h⟩
theorem PhNames.below {w W : World} (h : PhNames w) (hb : Below w.heap.size w W) : PhNames W := by
  obtain ⟨ty, fr, h⟩ := h
  exact ⟨ty, fr, blk_keep hb h⟩
theorem AuNames.below {w W : World} (h : AuNames w) (hb : Below w.heap.size w W) : AuNames W := by
  obtain ⟨ty, fr, h⟩ := h
  exact ⟨ty, fr, blk_keep hb h⟩
theorem PhNames.grown {w W : World} {row : Option Nat} (h : PhNames w) (hg : w.grownBy W row) (hr : some 1 ≠ row) : PhNames W := by
  obtain ⟨ty, fr, h⟩ := h
  exact ⟨ty, fr, (hg.block _ (blk_lt h) hr).trans h⟩

theorem phase_Name_1 (w : World) (h : PhNames w) : Calls Tryz.prog 48 #[.int .i64 1] w fun e w' => e = .returned (.string ⟨#[112, 101, 110, 100, 105, 110, 103]⟩) ∧ w = w' := by
  obtain ⟨ty, fr, h⟩ := h
  have hc : w.cell? ⟨1, 1, none⟩ = some (.string ⟨#[112, 101, 110, 100, 105, 110, 103]⟩) := blk_cell h 1
  clear h
  go_enter Tryz.func48, Tryz.ntmps48
  go_wp2
  go_ret
  exact ⟨rfl, rfl⟩
theorem phase_Name_2 (w : World) (h : PhNames w) : Calls Tryz.prog 48 #[.int .i64 2] w fun e w' => e = .returned (.string ⟨#[110, 111, 109, 105, 110, 97, 116, 101, 100]⟩) ∧ w = w' := by
  obtain ⟨ty, fr, h⟩ := h
  have hc : w.cell? ⟨1, 2, none⟩ = some (.string ⟨#[110, 111, 109, 105, 110, 97, 116, 101, 100]⟩) := blk_cell h 2
  clear h
  go_enter Tryz.func48, Tryz.ntmps48
  go_wp2
  go_ret
  exact ⟨rfl, rfl⟩
theorem phase_Name_3 (w : World) (h : PhNames w) : Calls Tryz.prog 48 #[.int .i64 3] w fun e w' => e = .returned (.string ⟨#[98, 111, 117, 110, 100]⟩) ∧ w = w' := by
  obtain ⟨ty, fr, h⟩ := h
  have hc : w.cell? ⟨1, 3, none⟩ = some (.string ⟨#[98, 111, 117, 110, 100]⟩) := blk_cell h 3
  clear h
  go_enter Tryz.func48, Tryz.ntmps48
  go_wp2
  go_ret
  exact ⟨rfl, rfl⟩
theorem phase_Name_4 (w : World) (h : PhNames w) : Calls Tryz.prog 48 #[.int .i64 4] w fun e w' => e = .returned (.string ⟨#[116, 101, 114, 109, 105, 110, 97, 116, 105, 110, 103]⟩) ∧ w = w' := by
  obtain ⟨ty, fr, h⟩ := h
  have hc : w.cell? ⟨1, 4, none⟩ = some (.string ⟨#[116, 101, 114, 109, 105, 110, 97, 116, 105, 110, 103]⟩) := blk_cell h 4
  clear h
  go_enter Tryz.func48, Tryz.ntmps48
  go_wp2
  go_ret
  exact ⟨rfl, rfl⟩
theorem phase_Name_5 (w : World) (h : PhNames w) : Calls Tryz.prog 48 #[.int .i64 5] w fun e w' => e = .returned (.string ⟨#[103, 111, 110, 101]⟩) ∧ w = w' := by
  obtain ⟨ty, fr, h⟩ := h
  have hc : w.cell? ⟨1, 5, none⟩ = some (.string ⟨#[103, 111, 110, 101]⟩) := blk_cell h 5
  clear h
  go_enter Tryz.func48, Tryz.ntmps48
  go_wp2
  go_ret
  exact ⟨rfl, rfl⟩
theorem phase_Name_0 (w : World) (h : PhNames w) : Calls Tryz.prog 48 #[.int .i64 0] w fun e w' => e = .returned (.string ⟨#[]⟩) ∧ w = w' := by
  obtain ⟨ty, fr, h⟩ := h
  have hc : w.cell? ⟨1, 0, none⟩ = some (.string ⟨#[]⟩) := blk_cell h 0
  clear h
  go_enter Tryz.func48, Tryz.ntmps48
  go_wp2
  go_ret
  exact ⟨rfl, rfl⟩
theorem phase_Name_out (n : Int) (w : World) (h : n < 0 ∨ 5 < n) : Calls Tryz.prog 48 #[.int .i64 n] w fun e w' => e = .returned (.string ⟨#[]⟩) ∧ w = w' := by
  by_cases h0 : n < 0
  · have h0' : decide (n < 0) = true := by simpa using h0
    clear h
    go_enter Tryz.func48, Tryz.ntmps48
    go_wp2
    go_ret
    exact ⟨rfl, rfl⟩
  · have h0' : decide (n < 0) = false := by simpa using h0
    have h1 : 6 ≤ n := by omega
    have h1' : decide (6 ≤ n) = true := by simpa using h1
    clear h
    go_enter Tryz.func48, Tryz.ntmps48
    go_wp2
    go_ret
    exact ⟨rfl, rfl⟩
theorem audit_Name_5 (w : World) (h : AuNames w) : Calls Tryz.prog 11 #[.int .i64 5] w fun e w' => e = .returned (.string ⟨#[116, 119, 105, 99, 101]⟩) ∧ w = w' := by
  obtain ⟨ty, fr, h⟩ := h
  have hc : w.cell? ⟨0, 5, none⟩ = some (.string ⟨#[116, 119, 105, 99, 101]⟩) := blk_cell h 5
  clear h
  go_enter Tryz.func11, Tryz.ntmps11
  go_wp2
  go_ret
  exact ⟨rfl, rfl⟩

def phaseBad (dims : Int) (p : PodR) : Bool := (decide (p.phase < 1) || decide (5 < p.phase)) || (!placedB p.phase && (p.node != -1)) || ((p.phase == 4) != (p.dl != -1)) || ((p.req.length : Int) != max dims 0)
set_option maxHeartbeats 4000000 in
set_option maxRecDepth 100000 in
theorem phases_1 (dims : Int) (c1 : Nat) (p : PodR) (ar : Option Addr) (cr : Nat) (w : World) (hd : w.cell? ⟨c1, 0, none⟩ = some (.int .i64 dims)) (hN : PhNames w) :
    Calls Tryz.prog 47 #[.agg #[.int .i64 p.id, .int .i64 p.prio, .bool p.pre, .int .i64 p.grace, .slice ar p.req.length cr, .int .i64 p.arr, .int .i64 p.phase, .int .i64 p.node, .int .i64 p.dl], .pointer (some ⟨c1, 0, none⟩)] w fun e w' =>
      e = .returned (.bool (phaseBad dims p)) ∧ Below w.heap.size w w' := by
  have HN := Lib.hid (fun W (hb : Below w.heap.size w W) => hN.below hb)
  have hlt : c1 < w.heap.size := cell_lt hd
  obtain ⟨id, prio, pre, grace, req, arr, phase, node, dl⟩ := p
  have HP := Lib.hid (fun W => phase_Placed phase W)
  have hmx : ∀ x : Int, (if dims < 0 then (0 : Int) else dims) = max dims 0 := fun _ => by split <;> omega
  clear hN hmx
  unfold phaseBad
  simp only
  generalize req.length = rl
  obtain ⟨q2, h2⟩ : ∃ q, (node != -1) = q := ⟨_, rfl⟩
  obtain ⟨q3, h3⟩ : ∃ q, (dl != -1) = q := ⟨_, rfl⟩
  obtain ⟨q5, h5⟩ : ∃ q, ((rl : Int) != max dims 0) = q := ⟨_, rfl⟩
  rw [h2, h3, h5]
  have h5' : (dims < 0 ∧ ((rl : Int) != 0) = q5) ∨ (¬ dims < 0 ∧ ((rl : Int) != dims) = q5) := by
    by_cases hd0 : dims < 0
    · exact .inl ⟨hd0, by rw [← h5, show max dims 0 = 0 by omega]⟩
    · exact .inr ⟨hd0, by rw [← h5, show max dims 0 = dims by omega]⟩
  clear h5
  by_cases ho : phase < 0 ∨ 5 < phase
  · have HNm := Lib.hid (fun W (_ : Below w.heap.size w W) => phase_Name_out phase W ho)
    have hpl : placedB phase = false := by unfold placedB; simp; omega
    have hp4 : (phase == 4) = false := by simp; omega
    have hb1 : (decide (phase < 1) || decide (5 < phase)) = true := by simp; omega
    rw [hpl] at HP
    rw [hb1]
    clear ho hpl hb1
    rcases h5' with ⟨hd0, h5⟩ | ⟨hd0, h5⟩
    all_goals
      cases q2 <;> cases q3 <;> cases q5
      all_goals
        go_enter Tryz.func47, Tryz.ntmps47
        go_wp2_with (first
          | (go_at_call 28; refine (HP.out _).mono ?_; rintro e w' ⟨rfl, rfl⟩)
          | (go_at_call 48; refine (HNm.out _ (bel_alloc (Below.refl _ _) _)).mono ?_; rintro e w' ⟨rfl, rfl⟩))
        go_ret
        exact ⟨by simp [placedB], bel_alloc (Below.refl _ _) _⟩
  · have hp : phase = 0 ∨ phase = 1 ∨ phase = 2 ∨ phase = 3 ∨ phase = 4 ∨ phase = 5 := by omega
    clear ho
    rcases hp with rfl | rfl | rfl | rfl | rfl | rfl
    · have HNm := Lib.hid (fun W (hb : Below w.heap.size w W) => phase_Name_0 W (HN.out W hb))
      rw [show placedB 0 = false from rfl] at HP
      rcases h5' with ⟨hd0, h5⟩ | ⟨hd0, h5⟩
      all_goals
        cases q2 <;> cases q3 <;> cases q5
      all_goals
        go_enter Tryz.func47, Tryz.ntmps47
        go_wp2_with (first
          | (go_at_call 28; refine (HP.out _).mono ?_; rintro e w' ⟨rfl, rfl⟩)
          | (go_at_call 48; refine (HNm.out _ (bel_alloc (Below.refl _ _) _)).mono ?_; rintro e w' ⟨rfl, rfl⟩))
        go_ret
        exact ⟨by simp [placedB], bel_alloc (Below.refl _ _) _⟩
    · have HNm := Lib.hid (fun W (hb : Below w.heap.size w W) => phase_Name_1 W (HN.out W hb))
      rw [show placedB 1 = false from rfl] at HP
      rcases h5' with ⟨hd0, h5⟩ | ⟨hd0, h5⟩
      all_goals
        cases q2 <;> cases q3 <;> cases q5
      all_goals
        go_enter Tryz.func47, Tryz.ntmps47
        go_wp2_with (first
          | (go_at_call 28; refine (HP.out _).mono ?_; rintro e w' ⟨rfl, rfl⟩)
          | (go_at_call 48; refine (HNm.out _ (bel_alloc (Below.refl _ _) _)).mono ?_; rintro e w' ⟨rfl, rfl⟩))
        go_ret
        exact ⟨by simp [placedB], bel_alloc (Below.refl _ _) _⟩
    · have HNm := Lib.hid (fun W (hb : Below w.heap.size w W) => phase_Name_2 W (HN.out W hb))
      rw [show placedB 2 = true from rfl] at HP
      rcases h5' with ⟨hd0, h5⟩ | ⟨hd0, h5⟩
      all_goals
        cases q2 <;> cases q3 <;> cases q5
      all_goals
        go_enter Tryz.func47, Tryz.ntmps47
        go_wp2_with (first
          | (go_at_call 28; refine (HP.out _).mono ?_; rintro e w' ⟨rfl, rfl⟩)
          | (go_at_call 48; refine (HNm.out _ (bel_alloc (Below.refl _ _) _)).mono ?_; rintro e w' ⟨rfl, rfl⟩))
        go_ret
        exact ⟨by simp [placedB], bel_alloc (Below.refl _ _) _⟩
    · have HNm := Lib.hid (fun W (hb : Below w.heap.size w W) => phase_Name_3 W (HN.out W hb))
      rw [show placedB 3 = true from rfl] at HP
      rcases h5' with ⟨hd0, h5⟩ | ⟨hd0, h5⟩
      all_goals
        cases q2 <;> cases q3 <;> cases q5
      all_goals
        go_enter Tryz.func47, Tryz.ntmps47
        go_wp2_with (first
          | (go_at_call 28; refine (HP.out _).mono ?_; rintro e w' ⟨rfl, rfl⟩)
          | (go_at_call 48; refine (HNm.out _ (bel_alloc (Below.refl _ _) _)).mono ?_; rintro e w' ⟨rfl, rfl⟩))
        go_ret
        exact ⟨by simp [placedB], bel_alloc (Below.refl _ _) _⟩
    · have HNm := Lib.hid (fun W (hb : Below w.heap.size w W) => phase_Name_4 W (HN.out W hb))
      rw [show placedB 4 = true from rfl] at HP
      rcases h5' with ⟨hd0, h5⟩ | ⟨hd0, h5⟩
      all_goals
        cases q2 <;> cases q3 <;> cases q5
      all_goals
        go_enter Tryz.func47, Tryz.ntmps47
        go_wp2_with (first
          | (go_at_call 28; refine (HP.out _).mono ?_; rintro e w' ⟨rfl, rfl⟩)
          | (go_at_call 48; refine (HNm.out _ (bel_alloc (Below.refl _ _) _)).mono ?_; rintro e w' ⟨rfl, rfl⟩))
        go_ret
        exact ⟨by simp [placedB], bel_alloc (Below.refl _ _) _⟩
    · have HNm := Lib.hid (fun W (hb : Below w.heap.size w W) => phase_Name_5 W (HN.out W hb))
      rw [show placedB 5 = false from rfl] at HP
      rcases h5' with ⟨hd0, h5⟩ | ⟨hd0, h5⟩
      all_goals
        cases q2 <;> cases q3 <;> cases q5
      all_goals
        go_enter Tryz.func47, Tryz.ntmps47
        go_wp2_with (first
          | (go_at_call 28; refine (HP.out _).mono ?_; rintro e w' ⟨rfl, rfl⟩)
          | (go_at_call 48; refine (HNm.out _ (bel_alloc (Below.refl _ _) _)).mono ?_; rintro e w' ⟨rfl, rfl⟩))
        go_ret
        exact ⟨by simp [placedB], bel_alloc (Below.refl _ _) _⟩
end Go.Proofs.YteioleilblehiaaGreatDoor
