/-
  NARROWER THAN 'FOR EVERY INPUT', by the rows' own cells (each row's printed sentence says how): FaultFinds: laid · FaultWraps: laid.
  DERIVED. THE GIVEN ROWS OF THIS SEAT. 2 by the template 'for every input the law returns true; each argument reads behind the call as it read before'; 0 by the template 'total and deterministic' (their statements: YtcdhfelcgcnoiaaDoorTotals.lean).
  GIVEN WITH THE SEED: the statements are not yours to turn. If you find one false, say at which input.
  Laid BY PROGRAM, IN A SANDBOX (cutbox-rows.mjs): the forced cells as the released guide's own fill.sh prints them over the translation bce998a0c919276c… (all of the seat's roots in one cut). By AI agents, Wed Nov 11 2026. No macro, syntax, notation, axiom, sorry.
-/
import Derived.Test.YtcdhfelcgcnoiaaDoorChecked
import GoSem.Claim
import GoSem.ClaimJoined
import GoSem.ClaimMapViews
import Derived.JoinedTies
import Derived.KernelRfl
namespace Go.Proofs.YtcdhfelcgcnoiaaDoor
/- THE CELL 'sum', in the pinned program and in every row, IS THE sha256 OF THE DUMP (.gsa) THAT YtcdhfelcgcnoiaaDoorProg.lean LOADS. Nothing in Lean hashes anything: it is a label: what it is worth is what the hold of that sum in a sandbox is worth. -/
noncomputable def Tryd.pinned : Pinned := { name := "ytcdhfelcgcnoiaadoor", sum := "bce998a0c919276cc44489d655f63caa4a588c8214cee1e4887a565673cbaf79", checked := Tryd.checked }
namespace Rows
def none {H : Type} : Left H := { results := [], args := [] }

/- WHAT THE LISTED PACKAGE-LEVEL VARIABLES READ AS WHEN THE CALL BEGINS. Each datum BY PROGRAM (the guide's laid-datum.mjs) off the statement by which the dump's own 'gosem.cut.vars' lays the variable. In a bare row this is a premise. The card (YtcdhfelcgcnoiaaDoorCards.lean) ties it to the program's text. -/
def laid_errors_errorType {H : Type} : DataW H := .iface "internal/reflectlite.rtype" (.agg [.ptr (.lit (.string [101, 114, 114, 111, 114]))])
def laid_hammock_fault_names {H : Type} : DataW H := .agg [.lit (.string []), .lit (.string [107, 105, 110, 100]), .lit (.string [105, 100]), .lit (.string [97, 109, 111, 117, 110, 116]), .lit (.string [110, 117, 109, 98, 101, 114]), .lit (.string [117, 110, 107, 110, 111, 119, 110]), .lit (.string [100, 117, 112, 108, 105, 99, 97, 116, 101]), .lit (.string [102, 117, 108, 108]), .lit (.string [112, 104, 97, 115, 101]), .lit (.string [115, 121, 110, 116, 97, 120]), .lit (.string [111, 118, 101, 114, 102, 108, 111, 119])]
def laid_hammock_fault_kinds {H : Type} : DataW H := .agg [.lit (.string []), .lit (.string [99, 108, 97, 115, 115]), .lit (.string [110, 111, 100, 101]), .lit (.string [100, 114, 111, 112]), .lit (.string [112, 111, 100]), .lit (.string [100, 101, 108, 101, 116, 101]), .lit (.string [116, 105, 99, 107]), .lit (.string [99, 121, 99, 108, 101])]

/-- 'hammocklaw02.FaultFinds': WHATEVER THE INPUT: true; the input reads as it did. -/
def faultFindsSpec : ChangeSpec := { name := "faultFinds", fn := fun _ => fun
  | [d] => { results := [.lit (.bool true)], args := [d] }
  | _ => none }
def faultFindsRow : OpenClaim := { program := "ytcdhfelcgcnoiaadoor", sum := "bce998a0c919276cc44489d655f63caa4a588c8214cee1e4887a565673cbaf79", func := "hammock/hammocklaw02.FaultFinds", spec := "faultFinds", inPlace := ["internal/reflectlite.ValueOf", "(internal/reflectlite.Value).Type", "(internal/reflectlite.Value).IsNil", "internal/reflectlite.TypeOf", "(internal/reflectlite.Value).Elem", "(internal/reflectlite.Value).Set"], unfollowed := true, recurses := true, named := ["errors.errorType", "hammock/fault.names", "hammock/fault.kinds"], apart := false, laid := [("errors.errorType", laid_errors_errorType), ("hammock/fault.names", laid_hammock_fault_names), ("hammock/fault.kinds", laid_hammock_fault_kinds)] }
def FaultFindsSaid : Prop := faultFindsRow.holds Tryd.pinned (OpenSpec.ofChange faultFindsSpec)

/-- ITS FALSE NEIGHBOUR: 'it returns false'. Refute it at one input. -/
def faultFindsWrong : ChangeSpec := { name := "faultFinds", fn := fun _ => fun
  | [d] => { results := [.lit (.bool false)], args := [d] }
  | _ => none }
def FaultFindsWrongFalsely : Prop := faultFindsRow.holds Tryd.pinned (OpenSpec.ofChange faultFindsWrong)

/-- 'hammocklaw02.FaultWraps': WHATEVER THE INPUT: true; the input reads as it did. -/
def faultWrapsSpec : ChangeSpec := { name := "faultWraps", fn := fun _ => fun
  | [d1, d2] => { results := [.lit (.bool true)], args := [d1, d2] }
  | _ => none }
def faultWrapsRow : OpenClaim := { program := "ytcdhfelcgcnoiaadoor", sum := "bce998a0c919276cc44489d655f63caa4a588c8214cee1e4887a565673cbaf79", func := "hammock/hammocklaw02.FaultWraps", spec := "faultWraps", inPlace := ["internal/reflectlite.ValueOf", "(internal/reflectlite.Value).Type", "(internal/reflectlite.Value).IsNil", "internal/reflectlite.TypeOf", "(internal/reflectlite.Value).Elem", "(internal/reflectlite.Value).Set"], unfollowed := true, recurses := true, named := ["errors.errorType", "hammock/fault.names", "hammock/fault.kinds"], apart := false, laid := [("errors.errorType", laid_errors_errorType), ("hammock/fault.names", laid_hammock_fault_names), ("hammock/fault.kinds", laid_hammock_fault_kinds)] }
def FaultWrapsSaid : Prop := faultWrapsRow.holds Tryd.pinned (OpenSpec.ofChange faultWrapsSpec)

/-- ITS FALSE NEIGHBOUR: 'it returns false'. Refute it at one input. -/
def faultWrapsWrong : ChangeSpec := { name := "faultWraps", fn := fun _ => fun
  | [d1, d2] => { results := [.lit (.bool false)], args := [d1, d2] }
  | _ => none }
def FaultWrapsWrongFalsely : Prop := faultWrapsRow.holds Tryd.pinned (OpenSpec.ofChange faultWrapsWrong)

/- THE SECOND FORM. 'bulk': how many values and letters a reading holds, each counted each time it is reached (what is shared counts as often as it is met; a slice's spare places count too). A statement '..UptoSaid' is the law's where the arguments, and the package variables that the reading takes, are together of bulk at most 1048576: NARROWER than '..Said'. Prove '..Said' where nothing that the law and all that it calls make is longer than what came in: it says more and counts as full. Else prove '..UptoSaid'. A law counts once. -/
mutual
def uptoBulk {H : Type} : DataW H → Nat
  | .lit (.string bytes) => bytes.length + 1
  | .lit _ => 1
  | .nil => 1
  | .ptr d => uptoBulk d + 1
  | .slice elems spare => uptoBulkAll elems + uptoBulkAll spare + 1
  | .agg parts => uptoBulkAll parts + 1
  | .iface _ d => uptoBulk d + 1
  | .map entries => uptoBulkEntries entries + 1
  | .held _ => 1
def uptoBulkAll {H : Type} : List (DataW H) → Nat
  | [] => 0
  | d :: r => uptoBulk d + uptoBulkAll r
def uptoBulkEntries {H : Type} : List (Lit × DataW H) → Nat
  | [] => 0
  | x :: r => uptoBulkEntry x + uptoBulkEntries r
def uptoBulkEntry {H : Type} : Lit × DataW H → Nat
  | (.string bytes, d) => bytes.length + uptoBulk d + 1
  | (_, d) => uptoBulk d + 1
 end
def uptoSmall : (H : Type) → List (DataW H) → Bool := fun _ ds => decide (uptoBulkAll ds ≤ 1048576)
def OpenSpec.upto (s : _root_.Go.ChangeSpec) : _root_.Go.OpenSpec := { _root_.Go.OpenSpec.ofChange s with cond := some uptoSmall }

/-- 'hammocklaw02.FaultFinds', WHERE WHAT IT READS IS OF BULK AT MOST 1048576: true; the input reads as it did. -/
def faultFindsUptoRow : OpenClaim := { program := "ytcdhfelcgcnoiaadoor", sum := "bce998a0c919276cc44489d655f63caa4a588c8214cee1e4887a565673cbaf79", func := "hammock/hammocklaw02.FaultFinds", spec := "faultFinds", inPlace := ["internal/reflectlite.ValueOf", "(internal/reflectlite.Value).Type", "(internal/reflectlite.Value).IsNil", "internal/reflectlite.TypeOf", "(internal/reflectlite.Value).Elem", "(internal/reflectlite.Value).Set"], unfollowed := true, recurses := true, named := ["errors.errorType", "hammock/fault.names", "hammock/fault.kinds"], apart := false, laid := [("errors.errorType", laid_errors_errorType), ("hammock/fault.names", laid_hammock_fault_names), ("hammock/fault.kinds", laid_hammock_fault_kinds)], narrowed := true }
def FaultFindsUptoSaid : Prop := faultFindsUptoRow.holds Tryd.pinned (OpenSpec.upto faultFindsSpec)

/-- 'hammocklaw02.FaultWraps', WHERE WHAT IT READS IS OF BULK AT MOST 1048576: true; the input reads as it did. -/
def faultWrapsUptoRow : OpenClaim := { program := "ytcdhfelcgcnoiaadoor", sum := "bce998a0c919276cc44489d655f63caa4a588c8214cee1e4887a565673cbaf79", func := "hammock/hammocklaw02.FaultWraps", spec := "faultWraps", inPlace := ["internal/reflectlite.ValueOf", "(internal/reflectlite.Value).Type", "(internal/reflectlite.Value).IsNil", "internal/reflectlite.TypeOf", "(internal/reflectlite.Value).Elem", "(internal/reflectlite.Value).Set"], unfollowed := true, recurses := true, named := ["errors.errorType", "hammock/fault.names", "hammock/fault.kinds"], apart := false, laid := [("errors.errorType", laid_errors_errorType), ("hammock/fault.names", laid_hammock_fault_names), ("hammock/fault.kinds", laid_hammock_fault_kinds)], narrowed := true }
def FaultWrapsUptoSaid : Prop := faultWrapsUptoRow.holds Tryd.pinned (OpenSpec.upto faultWrapsSpec)

end Rows
end Go.Proofs.YtcdhfelcgcnoiaaDoor
