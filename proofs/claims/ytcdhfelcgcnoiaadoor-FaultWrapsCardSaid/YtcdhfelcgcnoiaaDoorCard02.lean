/- The tied card of hammocklaw02.FaultWraps is proved: for every description and kind the law returns true, where errors.errorType, fault.names and fault.kinds hold what the program's text lays (tied); no other condition. -/
import Derived.Test.YtcdhfelcgcnoiaaDoorRow02
import Derived.Test.YtcdhfelcgcnoiaaDoorTie
import Derived.Test.YtcdhfelcgcnoiaaDoorCards
import Derived.SevenTiedAt
namespace Go.Proofs.YtcdhfelcgcnoiaaDoor
open Go

theorem faultWraps_holds : Rows.FaultWrapsCardSaid :=
  Claim7.holds_tied_plain_at .later [] [.handle, .data, .data] true Rows.faultWrapsCard.stood.harness true
    faultWraps_row (fun _ h => by cases h) (by kernel_rfl) (fun _ h => by cases h) faultWraps_row_tie rfl ⟨rfl, rfl⟩ (by kernel_rfl) rfl
    (fun f fn hf hfn => by
      obtain rfl : f = 4 := Option.some.inj ((show Tryd.prog.funcNamed "hammock/hammocklaw02.FaultWraps" = some 4 by kernel_rfl).symm.trans hf) |>.symm
      obtain rfl : fn = Tryd.f4 := (Option.some.inj (Tryd.func4.symm.trans hfn)).symm
      exact ⟨by kernel_rfl, fun j t ht => by
        rw [Tryd.params4] at ht
        match j with
        | 0 => obtain rfl : t = 24 := by simpa using ht.symm
               exact (show Tryd.prog.wantsStandIn 24 = false by kernel_rfl)
        | 1 => obtain rfl : t = 3 := by simpa using ht.symm
               exact (show Tryd.prog.wantsStandIn 3 = false by kernel_rfl)
        | j + 2 => simp at ht⟩)
    (by kernel_rfl)
#print axioms faultWraps_holds
end Go.Proofs.YtcdhfelcgcnoiaaDoor
