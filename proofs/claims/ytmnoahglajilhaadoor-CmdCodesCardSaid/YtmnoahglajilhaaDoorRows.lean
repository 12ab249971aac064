/-
  NARROWER THAN 'FOR EVERY INPUT', by the rows' own cells (each row's printed sentence says how): CmdCodes: laid · AlogCodes: laid · NetCodes: laid.
  DERIVED. THE GIVEN ROWS OF THIS SEAT. 3 by the template 'for every input the law returns true; each argument reads behind the call as it read before'; 0 by the template 'total and deterministic' (their statements: YtmnoahglajilhaaDoorTotals.lean).
  GIVEN WITH THE SEED: the statements are not yours to turn. If you find one false, say at which input.
  Laid BY PROGRAM, IN A SANDBOX (cutbox-rows.mjs): the forced cells as the released guide's own fill.sh prints them over the translation 118195ac5074e5e2… (all of the seat's roots in one cut). By AI agents, Wed Nov 11 2026. No macro, syntax, notation, axiom, sorry.
-/
import Derived.Test.YtmnoahglajilhaaDoorChecked
import GoSem.Claim
import GoSem.ClaimJoined
import GoSem.ClaimMapViews
import Derived.JoinedTies
import Derived.KernelRfl
namespace Go.Proofs.YtmnoahglajilhaaDoor
/- THE CELL 'sum', in the pinned program and in every row, IS THE sha256 OF THE DUMP (.gsa) THAT YtmnoahglajilhaaDoorProg.lean LOADS. Nothing in Lean hashes anything: it is a label: what it is worth is what the hold of that sum in a sandbox is worth. -/
noncomputable def Tryd.pinned : Pinned := { name := "ytmnoahglajilhaadoor", sum := "118195ac5074e5e2bdd45247ef6f42eb935974c546861dee779efb4deb086690", checked := Tryd.checked }
namespace Rows
def none {H : Type} : Left H := { results := [], args := [] }

/- WHAT THE LISTED PACKAGE-LEVEL VARIABLES READ AS WHEN THE CALL BEGINS. Each datum BY PROGRAM (the guide's laid-datum.mjs) off the statement by which the dump's own 'gosem.cut.vars' lays the variable. In a bare row this is a premise. The card (YtmnoahglajilhaaDoorCards.lean) ties it to the program's text. -/
def laid_errors_errorType {H : Type} : DataW H := .iface "internal/reflectlite.rtype" (.agg [.ptr (.lit (.string [101, 114, 114, 111, 114]))])

/-- 'agiolaw05.CmdCodes': WHATEVER THE INPUT: true; the input reads as it did. -/
def cmdCodesSpec : ChangeSpec := { name := "cmdCodes", fn := fun _ => fun
  | [d1, d2] => { results := [.lit (.bool true)], args := [d1, d2] }
  | _ => none }
def cmdCodesRow : OpenClaim := { program := "ytmnoahglajilhaadoor", sum := "118195ac5074e5e2bdd45247ef6f42eb935974c546861dee779efb4deb086690", func := "agio/agiolaw05.CmdCodes", spec := "cmdCodes", inPlace := ["internal/reflectlite.ValueOf", "(internal/reflectlite.Value).Type", "(internal/reflectlite.Value).IsNil", "internal/reflectlite.TypeOf", "(internal/reflectlite.Value).Elem", "(internal/reflectlite.Value).Set"], unfollowed := true, recurses := true, named := ["errors.errorType"], apart := false, laid := [("errors.errorType", laid_errors_errorType)] }
def CmdCodesSaid : Prop := cmdCodesRow.holds Tryd.pinned (OpenSpec.ofChange cmdCodesSpec)

/-- ITS FALSE NEIGHBOUR: 'it returns false'. Refute it at one input. -/
def cmdCodesWrong : ChangeSpec := { name := "cmdCodes", fn := fun _ => fun
  | [d1, d2] => { results := [.lit (.bool false)], args := [d1, d2] }
  | _ => none }
def CmdCodesWrongFalsely : Prop := cmdCodesRow.holds Tryd.pinned (OpenSpec.ofChange cmdCodesWrong)

/-- 'agiolaw07.AlogCodes': WHATEVER THE INPUT: true; the input reads as it did. -/
def alogCodesSpec : ChangeSpec := { name := "alogCodes", fn := fun _ => fun
  | [d1, d2] => { results := [.lit (.bool true)], args := [d1, d2] }
  | _ => none }
def alogCodesRow : OpenClaim := { program := "ytmnoahglajilhaadoor", sum := "118195ac5074e5e2bdd45247ef6f42eb935974c546861dee779efb4deb086690", func := "agio/agiolaw07.AlogCodes", spec := "alogCodes", inPlace := ["internal/reflectlite.ValueOf", "(internal/reflectlite.Value).Type", "(internal/reflectlite.Value).IsNil", "internal/reflectlite.TypeOf", "(internal/reflectlite.Value).Elem", "(internal/reflectlite.Value).Set"], unfollowed := true, recurses := true, named := ["errors.errorType"], apart := false, laid := [("errors.errorType", laid_errors_errorType)] }
def AlogCodesSaid : Prop := alogCodesRow.holds Tryd.pinned (OpenSpec.ofChange alogCodesSpec)

/-- ITS FALSE NEIGHBOUR: 'it returns false'. Refute it at one input. -/
def alogCodesWrong : ChangeSpec := { name := "alogCodes", fn := fun _ => fun
  | [d1, d2] => { results := [.lit (.bool false)], args := [d1, d2] }
  | _ => none }
def AlogCodesWrongFalsely : Prop := alogCodesRow.holds Tryd.pinned (OpenSpec.ofChange alogCodesWrong)

/-- 'agiolaw13.NetCodes': WHATEVER THE INPUT: true; the input reads as it did. -/
def netCodesSpec : ChangeSpec := { name := "netCodes", fn := fun _ => fun
  | [d1, d2] => { results := [.lit (.bool true)], args := [d1, d2] }
  | _ => none }
def netCodesRow : OpenClaim := { program := "ytmnoahglajilhaadoor", sum := "118195ac5074e5e2bdd45247ef6f42eb935974c546861dee779efb4deb086690", func := "agio/agiolaw13.NetCodes", spec := "netCodes", inPlace := ["internal/reflectlite.ValueOf", "(internal/reflectlite.Value).Type", "(internal/reflectlite.Value).IsNil", "internal/reflectlite.TypeOf", "(internal/reflectlite.Value).Elem", "(internal/reflectlite.Value).Set"], unfollowed := true, recurses := true, named := ["errors.errorType"], apart := false, laid := [("errors.errorType", laid_errors_errorType)] }
def NetCodesSaid : Prop := netCodesRow.holds Tryd.pinned (OpenSpec.ofChange netCodesSpec)

/-- ITS FALSE NEIGHBOUR: 'it returns false'. Refute it at one input. -/
def netCodesWrong : ChangeSpec := { name := "netCodes", fn := fun _ => fun
  | [d1, d2] => { results := [.lit (.bool false)], args := [d1, d2] }
  | _ => none }
def NetCodesWrongFalsely : Prop := netCodesRow.holds Tryd.pinned (OpenSpec.ofChange netCodesWrong)

/- THE SECOND FORM. 'bulk': how many values and letters a reading holds, each counted each time it is reached (what is shared counts as often as it is met; a slice's spare places count too). A statement '..UptoSaid' is the law's where the arguments, and the package variables that the reading takes, are together of bulk at most 1048576: NARROWER than '..Said'. Prove '..Said' where nothing that the law and all that it calls make is longer than what came in: it says more and counts as full. Else prove '..UptoSaid'. A law counts once. -/
mutual
def uptoBulk {H : Type} : DataW H → Nat
  | .lit (.string bytes) => bytes.length + 1
  | .lit _ => 1
  | .nil => 1
  | .ptr d => uptoBulk d + 1
  | .slice elems spare => uptoBulkAll elems + uptoBulkAll spare + 1
  | .agg parts => uptoBulkAll parts + 1
  | .iface _ d => uptoBulk d + 1
  | .map entries => uptoBulkEntries entries + 1
  | .held _ => 1
def uptoBulkAll {H : Type} : List (DataW H) → Nat
  | [] => 0
  | d :: r => uptoBulk d + uptoBulkAll r
def uptoBulkEntries {H : Type} : List (Lit × DataW H) → Nat
  | [] => 0
  | x :: r => uptoBulkEntry x + uptoBulkEntries r
def uptoBulkEntry {H : Type} : Lit × DataW H → Nat
  | (.string bytes, d) => bytes.length + uptoBulk d + 1
  | (_, d) => uptoBulk d + 1
 end
def uptoSmall : (H : Type) → List (DataW H) → Bool := fun _ ds => decide (uptoBulkAll ds ≤ 1048576)
def OpenSpec.upto (s : _root_.Go.ChangeSpec) : _root_.Go.OpenSpec := { _root_.Go.OpenSpec.ofChange s with cond := some uptoSmall }

/-- 'agiolaw05.CmdCodes', WHERE WHAT IT READS IS OF BULK AT MOST 1048576: true; the input reads as it did. -/
def cmdCodesUptoRow : OpenClaim := { program := "ytmnoahglajilhaadoor", sum := "118195ac5074e5e2bdd45247ef6f42eb935974c546861dee779efb4deb086690", func := "agio/agiolaw05.CmdCodes", spec := "cmdCodes", inPlace := ["internal/reflectlite.ValueOf", "(internal/reflectlite.Value).Type", "(internal/reflectlite.Value).IsNil", "internal/reflectlite.TypeOf", "(internal/reflectlite.Value).Elem", "(internal/reflectlite.Value).Set"], unfollowed := true, recurses := true, named := ["errors.errorType"], apart := false, laid := [("errors.errorType", laid_errors_errorType)], narrowed := true }
def CmdCodesUptoSaid : Prop := cmdCodesUptoRow.holds Tryd.pinned (OpenSpec.upto cmdCodesSpec)

/-- 'agiolaw07.AlogCodes', WHERE WHAT IT READS IS OF BULK AT MOST 1048576: true; the input reads as it did. -/
def alogCodesUptoRow : OpenClaim := { program := "ytmnoahglajilhaadoor", sum := "118195ac5074e5e2bdd45247ef6f42eb935974c546861dee779efb4deb086690", func := "agio/agiolaw07.AlogCodes", spec := "alogCodes", inPlace := ["internal/reflectlite.ValueOf", "(internal/reflectlite.Value).Type", "(internal/reflectlite.Value).IsNil", "internal/reflectlite.TypeOf", "(internal/reflectlite.Value).Elem", "(internal/reflectlite.Value).Set"], unfollowed := true, recurses := true, named := ["errors.errorType"], apart := false, laid := [("errors.errorType", laid_errors_errorType)], narrowed := true }
def AlogCodesUptoSaid : Prop := alogCodesUptoRow.holds Tryd.pinned (OpenSpec.upto alogCodesSpec)

/-- 'agiolaw13.NetCodes', WHERE WHAT IT READS IS OF BULK AT MOST 1048576: true; the input reads as it did. -/
def netCodesUptoRow : OpenClaim := { program := "ytmnoahglajilhaadoor", sum := "118195ac5074e5e2bdd45247ef6f42eb935974c546861dee779efb4deb086690", func := "agio/agiolaw13.NetCodes", spec := "netCodes", inPlace := ["internal/reflectlite.ValueOf", "(internal/reflectlite.Value).Type", "(internal/reflectlite.Value).IsNil", "internal/reflectlite.TypeOf", "(internal/reflectlite.Value).Elem", "(internal/reflectlite.Value).Set"], unfollowed := true, recurses := true, named := ["errors.errorType"], apart := false, laid := [("errors.errorType", laid_errors_errorType)], narrowed := true }
def NetCodesUptoSaid : Prop := netCodesUptoRow.holds Tryd.pinned (OpenSpec.upto netCodesSpec)

end Rows
end Go.Proofs.YtmnoahglajilhaaDoor
