/- hammocklaw02.awake: true. -/
import Derived.Test.YtcdhfelcgcnoiaaDoorTxt
namespace Go.Proofs.YtcdhfelcgcnoiaaDoor
open Go.RowKit

/-- The table fault.names as the program's text lays it. -/
def NamesAt (w : World) : Prop := ∃ ty fr, w.heap[1]? = some (.cells #[.string ⟨#[]⟩, .string ⟨#[107, 105, 110, 100]⟩, .string ⟨#[105, 100]⟩, .string ⟨#[97, 109, 111, 117, 110, 116]⟩, .string ⟨#[110, 117, 109, 98, 101, 114]⟩, .string ⟨#[117, 110, 107, 110, 111, 119, 110]⟩, .string ⟨#[100, 117, 112, 108, 105, 99, 97, 116, 101]⟩, .string ⟨#[102, 117, 108, 108]⟩, .string ⟨#[112, 104, 97, 115, 101]⟩, .string ⟨#[115, 121, 110, 116, 97, 120]⟩, .string ⟨#[111, 118, 101, 114, 102, 108, 111, 119]⟩] ty fr)
theorem NamesAt.below {w w' : World} (h : NamesAt w) (hb : Below w.heap.size w w') : NamesAt w' := by
  obtain ⟨ty, fr, h⟩ := h
  exact ⟨ty, fr, blk_keep hb h⟩
theorem name7 (w : World) (h : NamesAt w) : Calls Tryd.prog 17 #[.int .i64 7] w fun e w' => e = .returned (.string ⟨#[102, 117, 108, 108]⟩) ∧ w = w' := by
  obtain ⟨ty, fr, h⟩ := h
  have hc := blk_cell h 7
  simp at hc
  clear h
  go_enter Tryd.func17, Tryd.ntmps17
  go_wp2
  go_ret
  exact ⟨rfl, rfl⟩
theorem it7 (T : Nat → Nat) : itT T 7 = [55] := by
  unfold itT
  rw [if_pos (by decide), show (7 : Int).toNat = 7 from rfl, Lib.decDigits_one (by decide)]
  rfl
theorem txt_pod7 (T : Nat → Nat) : (Er.placed 4 (.fault 7 7)).txt T = ⟨#[112, 111, 100, 58, 32, 101, 114, 114, 111, 114, 32, 55]⟩ := by
  have e1 : (Er.placed 4 (.fault 7 7)).txt T = kname 4 ++ ⟨#[58, 32]⟩ ++ (⟨#[101, 114, 114, 111, 114, 32]⟩ ++ ⟨(itT T 7).toArray⟩) := by
    simp [Er.txt, ctxt]
  rw [e1, it7]
  unfold kname
  rfl
theorem errF_p (k : Int) (x : Er) : (Er.placed k x).errF = 63 := rfl

set_option maxHeartbeats 8000000 in
set_option maxRecDepth 100000 in
theorem awake02 (T : Nat → Nat) (w : World) (he : ErrTy w) (hk : KindsAt w) (hn : NamesAt w) (ht : TabAt w T) : Calls Tryd.prog 5 #[] w fun e w' => e = .returned (.bool true) ∧ Below w.heap.size w w' := by
  have HN := Lib.hid (fun W => new_er 7 7 W)
  have HI := Lib.hid (fun W => by have := in_er 4 (.fault 7 7) W; rw [Er.t_placed] at this; exact this)
  have HC := Lib.hid (fun W (hb : Below w.heap.size w W) => by have := Code_er (.placed 4 (.fault 7 7)) W (he.below hb); simp only [Er.cd, Er.t_placed] at this; exact this)
  have HA := Lib.hid (fun W (hb : Below w.heap.size w W) => by have := At_er (.placed 4 (.fault 7 7)) W (he.below hb); simp only [fltAt, Er.flt, Option.isSome_some, Er.t_placed] at this; exact this)
  have HP := Lib.hid (fun W (hb : Below w.heap.size w W) => by have := Place_er (.placed 4 (.fault 7 7)) W (he.below hb); simp only [plcK, Er.plc, Option.isSome_some, Er.t_placed] at this; exact this)
  have HT := Lib.hid (fun W (hb : Below w.heap.size w W) => by have := errTxt T (.placed 4 (.fault 7 7)) W (by unfold Er.okE Er.okE; omega) (by unfold Er.wraps Er.wraps; omega) (hk.below hb) (ht.below hb); rw [txt_pod7, errF_p] at this; exact this)
  have HH := Lib.hid (fun W (hb : Below w.heap.size w W) => by have := Harmless_er (.placed 4 (.fault 7 7)) W (he.below hb); rw [show harm (Er.placed 4 (.fault 7 7)).cd = true from rfl, Er.t_placed] at this; exact this)
  have HL := Lib.hid (fun W (hb : Below w.heap.size w W) => name7 W (hn.below hb))
  have HK := Lib.hid (fun W (hb : Below w.heap.size w W) => by have := kindName7 W (hk.below hb); rw [show kname 7 = ⟨#[99, 121, 99, 108, 101]⟩ from by unfold kname; rfl] at this; exact this)
  have hB := Lib.hid (Below.refl w.heap.size w)
  clear he hk hn ht
  generalize (Er.fault 7 7).t = ft at *
  generalize (Er.fault 7 7).v = fv at *
  generalize (Er.placed 4 (.fault 7 7)).v = ev at *
  go_enter Tryd.func5, Tryd.ntmps5
  go_wp2_with (first
    | (go_at_call 16; refine (HN.out _).mono ?_; rintro e w' ⟨rfl, rfl⟩)
    | (go_at_call 12; refine (HI.out _).mono ?_; rintro e w' ⟨rfl, rfl⟩)
    | (go_at_call 7; refine (HC.out _ hB.out).mono ?_; rintro e w' ⟨rfl, hb⟩; replace hB := Lib.hid (bel_trans hB.out hb); clear hb)
    | (go_at_call 7; refine (Code_nil _).mono ?_; rintro e w9 ⟨rfl, hb⟩; replace hB := Lib.hid (bel_trans hB.out hb); clear hb)
    | (go_at_call 8; refine (HA.out _ hB.out).mono ?_; rintro e w' ⟨rfl, hb⟩; replace hB := Lib.hid (bel_trans hB.out hb); clear hb)
    | (go_at_call 9; refine (HP.out _ hB.out).mono ?_; clear HC; rintro e w' ⟨rfl, hb⟩; replace hB := Lib.hid (bel_trans hB.out hb); clear hb))
  go_wp2_with (first
    | (go_at_call 63; refine (HT.out _ hB.out).mono ?_; rintro e w1 ⟨rfl, hb⟩; replace hB := Lib.hid (bel_trans hB.out hb); clear hb)
    | (go_at_call 10; refine (HH.out _ hB.out).mono ?_; clear HH; rintro e w2 ⟨rfl, hb⟩; replace hB := Lib.hid (bel_trans hB.out hb); clear hb)
    | (go_at_call 10; refine (Harmless_nil _).mono ?_; rintro e w3 ⟨rfl, hb⟩; replace hB := Lib.hid (bel_trans hB.out hb); clear hb)
    | (go_at_call 17; refine (HL.out _ hB.out).mono ?_; rintro e w4 ⟨rfl, rfl⟩)
    | (go_at_call 18; refine (HK.out _ hB.out).mono ?_; clear HI; rintro e w5 ⟨rfl, rfl⟩)
    | (go_at_call 12; refine (in_nil _ _).mono ?_; rintro e w6 ⟨rfl, rfl⟩))
  go_ret
  exact ⟨rfl, hB.out⟩
end Go.Proofs.YtcdhfelcgcnoiaaDoor
