/- The tied card of hammocklaw26.AuditUsage is proved: for every view, every which and node the law returns true, where phase.names and audit.names hold what the program's text lays (tied); no other condition. -/
import Derived.Test.YteioleilblehiaaGreatDoorRow26
import Derived.Test.YteioleilblehiaaGreatDoorTie
import Derived.Test.YteioleilblehiaaGreatDoorCards
import Derived.SevenTiedAt
namespace Go.Proofs.YteioleilblehiaaGreatDoor
open Go

theorem auditUsage_holds : Rows.AuditUsageCardSaid :=
  Claim7.holds_tied_plain_at .later [] [.data, .data] true Rows.auditUsageCard.stood.harness false
    auditUsage_row (fun _ h => by cases h) (by kernel_rfl) (fun _ h => by cases h) auditUsage_row_tie rfl ⟨rfl, rfl⟩ (by kernel_rfl) rfl
    (fun f fn hf hfn => by
      obtain rfl : f = 3 := Option.some.inj ((show Tryz.prog.funcNamed "hammock/hammocklaw26.AuditUsage" = some 3 by kernel_rfl).symm.trans hf) |>.symm
      obtain rfl : fn = Tryz.f3 := (Option.some.inj (Tryz.func3.symm.trans hfn)).symm
      exact ⟨by kernel_rfl, fun j t ht => by
        rw [Tryz.params3] at ht
        match j with
        | 0 => obtain rfl : t = 26 := by simpa using ht.symm
               exact (show Tryz.prog.wantsStandIn 26 = false by kernel_rfl)
        | 1 => obtain rfl : t = 5 := by simpa using ht.symm
               exact (show Tryz.prog.wantsStandIn 5 = false by kernel_rfl)
        | 2 => obtain rfl : t = 3 := by simpa using ht.symm
               exact (show Tryz.prog.wantsStandIn 3 = false by kernel_rfl)
        | j + 3 => simp at ht⟩)
    (by kernel_rfl)
#print axioms auditUsage_holds
end Go.Proofs.YteioleilblehiaaGreatDoor
