/-
  NARROWER THAN 'FOR EVERY INPUT', by the rows' own cells (each row's printed sentence says how): WireLays: laid · WireOnce: laid · WireBack: laid · WireNobody: laid · WireFaults: laid · WireReads: laid · CmdCodes: laid · CmdBack: laid · CmdOnce: laid · CmdCuts: laid · CmdFields: laid · CmdKinds: laid · AlogCodes: laid · NetCodes: laid.
  DERIVED. THE GIVEN ROWS OF THIS SEAT. 14 by the template 'for every input the law returns true; each argument reads behind the call as it read before'; 0 by the template 'total and deterministic' (their statements: YtchlceolccfdhaaDoorTotals.lean).
  GIVEN WITH THE SEED: the statements are not yours to turn. If you find one false, say at which input.
  Laid BY PROGRAM, IN A SANDBOX (cutbox-rows.mjs): the forced cells as the released guide's own fill.sh prints them over the translation 2b90139b4da5e333… (all of the seat's roots in one cut). By AI agents, Wed Nov 11 2026. No macro, syntax, notation, axiom, sorry.
-/
import Derived.Test.YtchlceolccfdhaaDoorChecked
import GoSem.Claim
import GoSem.ClaimJoined
import GoSem.ClaimMapViews
import Derived.JoinedTies
import Derived.KernelRfl
namespace Go.Proofs.YtchlceolccfdhaaDoor
/- THE CELL 'sum', in the pinned program and in every row, IS THE sha256 OF THE DUMP (.gsa) THAT YtchlceolccfdhaaDoorProg.lean LOADS. Nothing in Lean hashes anything: it is a label: what it is worth is what the hold of that sum in a sandbox is worth. -/
noncomputable def Tryd.pinned : Pinned := { name := "ytchlceolccfdhaadoor", sum := "2b90139b4da5e333672c9f92095df38632057344652d350c4920d8239fbf5ca2", checked := Tryd.checked }
namespace Rows
def none {H : Type} : Left H := { results := [], args := [] }

/- WHAT THE LISTED PACKAGE-LEVEL VARIABLES READ AS WHEN THE CALL BEGINS. Each datum BY PROGRAM (the guide's laid-datum.mjs) off the statement by which the dump's own 'gosem.cut.vars' lays the variable. In a bare row this is a premise. The card (YtchlceolccfdhaaDoorCards.lean) ties it to the program's text. -/
def laid_errors_errorType {H : Type} : DataW H := .iface "internal/reflectlite.rtype" (.agg [.ptr (.lit (.string [101, 114, 114, 111, 114]))])

/-- 'agiolaw02.WireLays': WHATEVER THE INPUT: true; the input reads as it did. -/
def wireLaysSpec : ChangeSpec := { name := "wireLays", fn := fun _ => fun
  | [d] => { results := [.lit (.bool true)], args := [d] }
  | _ => none }
def wireLaysRow : OpenClaim := { program := "ytchlceolccfdhaadoor", sum := "2b90139b4da5e333672c9f92095df38632057344652d350c4920d8239fbf5ca2", func := "agio/agiolaw02.WireLays", spec := "wireLays", inPlace := ["internal/reflectlite.ValueOf", "(internal/reflectlite.Value).Type", "(internal/reflectlite.Value).IsNil", "internal/reflectlite.TypeOf", "(internal/reflectlite.Value).Elem", "(internal/reflectlite.Value).Set"], unfollowed := true, recurses := true, named := ["errors.errorType"], apart := false, laid := [("errors.errorType", laid_errors_errorType)] }
def WireLaysSaid : Prop := wireLaysRow.holds Tryd.pinned (OpenSpec.ofChange wireLaysSpec)

/-- ITS FALSE NEIGHBOUR: 'it returns false'. Refute it at one input. -/
def wireLaysWrong : ChangeSpec := { name := "wireLays", fn := fun _ => fun
  | [d] => { results := [.lit (.bool false)], args := [d] }
  | _ => none }
def WireLaysWrongFalsely : Prop := wireLaysRow.holds Tryd.pinned (OpenSpec.ofChange wireLaysWrong)

/-- 'agiolaw02.WireOnce': WHATEVER THE INPUT: true; the input reads as it did. -/
def wireOnceSpec : ChangeSpec := { name := "wireOnce", fn := fun _ => fun
  | [d] => { results := [.lit (.bool true)], args := [d] }
  | _ => none }
def wireOnceRow : OpenClaim := { program := "ytchlceolccfdhaadoor", sum := "2b90139b4da5e333672c9f92095df38632057344652d350c4920d8239fbf5ca2", func := "agio/agiolaw02.WireOnce", spec := "wireOnce", inPlace := ["internal/reflectlite.ValueOf", "(internal/reflectlite.Value).Type", "(internal/reflectlite.Value).IsNil", "internal/reflectlite.TypeOf", "(internal/reflectlite.Value).Elem", "(internal/reflectlite.Value).Set"], unfollowed := true, recurses := true, named := ["errors.errorType"], apart := false, laid := [("errors.errorType", laid_errors_errorType)] }
def WireOnceSaid : Prop := wireOnceRow.holds Tryd.pinned (OpenSpec.ofChange wireOnceSpec)

/-- ITS FALSE NEIGHBOUR: 'it returns false'. Refute it at one input. -/
def wireOnceWrong : ChangeSpec := { name := "wireOnce", fn := fun _ => fun
  | [d] => { results := [.lit (.bool false)], args := [d] }
  | _ => none }
def WireOnceWrongFalsely : Prop := wireOnceRow.holds Tryd.pinned (OpenSpec.ofChange wireOnceWrong)

/-- 'agiolaw02.WireBack': WHATEVER THE INPUT: true; the input reads as it did. -/
def wireBackSpec : ChangeSpec := { name := "wireBack", fn := fun _ => fun
  | [d] => { results := [.lit (.bool true)], args := [d] }
  | _ => none }
def wireBackRow : OpenClaim := { program := "ytchlceolccfdhaadoor", sum := "2b90139b4da5e333672c9f92095df38632057344652d350c4920d8239fbf5ca2", func := "agio/agiolaw02.WireBack", spec := "wireBack", inPlace := ["internal/reflectlite.ValueOf", "(internal/reflectlite.Value).Type", "(internal/reflectlite.Value).IsNil", "internal/reflectlite.TypeOf", "(internal/reflectlite.Value).Elem", "(internal/reflectlite.Value).Set"], unfollowed := true, recurses := true, named := ["errors.errorType"], apart := false, laid := [("errors.errorType", laid_errors_errorType)] }
def WireBackSaid : Prop := wireBackRow.holds Tryd.pinned (OpenSpec.ofChange wireBackSpec)

/-- ITS FALSE NEIGHBOUR: 'it returns false'. Refute it at one input. -/
def wireBackWrong : ChangeSpec := { name := "wireBack", fn := fun _ => fun
  | [d] => { results := [.lit (.bool false)], args := [d] }
  | _ => none }
def WireBackWrongFalsely : Prop := wireBackRow.holds Tryd.pinned (OpenSpec.ofChange wireBackWrong)

/-- 'agiolaw02.WireNobody': WHATEVER THE INPUT: true; the input reads as it did. -/
def wireNobodySpec : ChangeSpec := { name := "wireNobody", fn := fun _ => fun
  | [d] => { results := [.lit (.bool true)], args := [d] }
  | _ => none }
def wireNobodyRow : OpenClaim := { program := "ytchlceolccfdhaadoor", sum := "2b90139b4da5e333672c9f92095df38632057344652d350c4920d8239fbf5ca2", func := "agio/agiolaw02.WireNobody", spec := "wireNobody", inPlace := ["internal/reflectlite.ValueOf", "(internal/reflectlite.Value).Type", "(internal/reflectlite.Value).IsNil", "internal/reflectlite.TypeOf", "(internal/reflectlite.Value).Elem", "(internal/reflectlite.Value).Set"], unfollowed := true, recurses := true, named := ["errors.errorType"], apart := false, laid := [("errors.errorType", laid_errors_errorType)] }
def WireNobodySaid : Prop := wireNobodyRow.holds Tryd.pinned (OpenSpec.ofChange wireNobodySpec)

/-- ITS FALSE NEIGHBOUR: 'it returns false'. Refute it at one input. -/
def wireNobodyWrong : ChangeSpec := { name := "wireNobody", fn := fun _ => fun
  | [d] => { results := [.lit (.bool false)], args := [d] }
  | _ => none }
def WireNobodyWrongFalsely : Prop := wireNobodyRow.holds Tryd.pinned (OpenSpec.ofChange wireNobodyWrong)

/-- 'agiolaw02.WireFaults': WHATEVER THE INPUT: true; the input reads as it did. -/
def wireFaultsSpec : ChangeSpec := { name := "wireFaults", fn := fun _ => fun
  | [d1, d2] => { results := [.lit (.bool true)], args := [d1, d2] }
  | _ => none }
def wireFaultsRow : OpenClaim := { program := "ytchlceolccfdhaadoor", sum := "2b90139b4da5e333672c9f92095df38632057344652d350c4920d8239fbf5ca2", func := "agio/agiolaw02.WireFaults", spec := "wireFaults", inPlace := ["internal/reflectlite.ValueOf", "(internal/reflectlite.Value).Type", "(internal/reflectlite.Value).IsNil", "internal/reflectlite.TypeOf", "(internal/reflectlite.Value).Elem", "(internal/reflectlite.Value).Set"], unfollowed := true, recurses := true, named := ["errors.errorType"], apart := false, laid := [("errors.errorType", laid_errors_errorType)] }
def WireFaultsSaid : Prop := wireFaultsRow.holds Tryd.pinned (OpenSpec.ofChange wireFaultsSpec)

/-- ITS FALSE NEIGHBOUR: 'it returns false'. Refute it at one input. -/
def wireFaultsWrong : ChangeSpec := { name := "wireFaults", fn := fun _ => fun
  | [d1, d2] => { results := [.lit (.bool false)], args := [d1, d2] }
  | _ => none }
def WireFaultsWrongFalsely : Prop := wireFaultsRow.holds Tryd.pinned (OpenSpec.ofChange wireFaultsWrong)

/-- 'agiolaw02.WireReads': WHATEVER THE INPUT: true; the input reads as it did. -/
def wireReadsSpec : ChangeSpec := { name := "wireReads", fn := fun _ => fun
  | [d1, d2] => { results := [.lit (.bool true)], args := [d1, d2] }
  | _ => none }
def wireReadsRow : OpenClaim := { program := "ytchlceolccfdhaadoor", sum := "2b90139b4da5e333672c9f92095df38632057344652d350c4920d8239fbf5ca2", func := "agio/agiolaw02.WireReads", spec := "wireReads", inPlace := ["internal/reflectlite.ValueOf", "(internal/reflectlite.Value).Type", "(internal/reflectlite.Value).IsNil", "internal/reflectlite.TypeOf", "(internal/reflectlite.Value).Elem", "(internal/reflectlite.Value).Set"], unfollowed := true, recurses := true, named := ["errors.errorType"], apart := false, laid := [("errors.errorType", laid_errors_errorType)] }
def WireReadsSaid : Prop := wireReadsRow.holds Tryd.pinned (OpenSpec.ofChange wireReadsSpec)

/-- ITS FALSE NEIGHBOUR: 'it returns false'. Refute it at one input. -/
def wireReadsWrong : ChangeSpec := { name := "wireReads", fn := fun _ => fun
  | [d1, d2] => { results := [.lit (.bool false)], args := [d1, d2] }
  | _ => none }
def WireReadsWrongFalsely : Prop := wireReadsRow.holds Tryd.pinned (OpenSpec.ofChange wireReadsWrong)

/-- 'agiolaw05.CmdCodes': WHATEVER THE INPUT: true; the input reads as it did. -/
def cmdCodesSpec : ChangeSpec := { name := "cmdCodes", fn := fun _ => fun
  | [d1, d2] => { results := [.lit (.bool true)], args := [d1, d2] }
  | _ => none }
def cmdCodesRow : OpenClaim := { program := "ytchlceolccfdhaadoor", sum := "2b90139b4da5e333672c9f92095df38632057344652d350c4920d8239fbf5ca2", func := "agio/agiolaw05.CmdCodes", spec := "cmdCodes", inPlace := ["internal/reflectlite.ValueOf", "(internal/reflectlite.Value).Type", "(internal/reflectlite.Value).IsNil", "internal/reflectlite.TypeOf", "(internal/reflectlite.Value).Elem", "(internal/reflectlite.Value).Set"], unfollowed := true, recurses := true, named := ["errors.errorType"], apart := false, laid := [("errors.errorType", laid_errors_errorType)] }
def CmdCodesSaid : Prop := cmdCodesRow.holds Tryd.pinned (OpenSpec.ofChange cmdCodesSpec)

/-- ITS FALSE NEIGHBOUR: 'it returns false'. Refute it at one input. -/
def cmdCodesWrong : ChangeSpec := { name := "cmdCodes", fn := fun _ => fun
  | [d1, d2] => { results := [.lit (.bool false)], args := [d1, d2] }
  | _ => none }
def CmdCodesWrongFalsely : Prop := cmdCodesRow.holds Tryd.pinned (OpenSpec.ofChange cmdCodesWrong)

/-- 'agiolaw05.CmdBack': WHATEVER THE INPUT: true; the input reads as it did. -/
def cmdBackSpec : ChangeSpec := { name := "cmdBack", fn := fun _ => fun
  | [d] => { results := [.lit (.bool true)], args := [d] }
  | _ => none }
def cmdBackRow : OpenClaim := { program := "ytchlceolccfdhaadoor", sum := "2b90139b4da5e333672c9f92095df38632057344652d350c4920d8239fbf5ca2", func := "agio/agiolaw05.CmdBack", spec := "cmdBack", inPlace := ["internal/reflectlite.ValueOf", "(internal/reflectlite.Value).Type", "(internal/reflectlite.Value).IsNil", "internal/reflectlite.TypeOf", "(internal/reflectlite.Value).Elem", "(internal/reflectlite.Value).Set"], unfollowed := true, recurses := true, named := ["errors.errorType"], apart := false, laid := [("errors.errorType", laid_errors_errorType)] }
def CmdBackSaid : Prop := cmdBackRow.holds Tryd.pinned (OpenSpec.ofChange cmdBackSpec)

/-- ITS FALSE NEIGHBOUR: 'it returns false'. Refute it at one input. -/
def cmdBackWrong : ChangeSpec := { name := "cmdBack", fn := fun _ => fun
  | [d] => { results := [.lit (.bool false)], args := [d] }
  | _ => none }
def CmdBackWrongFalsely : Prop := cmdBackRow.holds Tryd.pinned (OpenSpec.ofChange cmdBackWrong)

/-- 'agiolaw05.CmdOnce': WHATEVER THE INPUT: true; the input reads as it did. -/
def cmdOnceSpec : ChangeSpec := { name := "cmdOnce", fn := fun _ => fun
  | [d] => { results := [.lit (.bool true)], args := [d] }
  | _ => none }
def cmdOnceRow : OpenClaim := { program := "ytchlceolccfdhaadoor", sum := "2b90139b4da5e333672c9f92095df38632057344652d350c4920d8239fbf5ca2", func := "agio/agiolaw05.CmdOnce", spec := "cmdOnce", inPlace := ["internal/reflectlite.ValueOf", "(internal/reflectlite.Value).Type", "(internal/reflectlite.Value).IsNil", "internal/reflectlite.TypeOf", "(internal/reflectlite.Value).Elem", "(internal/reflectlite.Value).Set"], unfollowed := true, recurses := true, named := ["errors.errorType"], apart := false, laid := [("errors.errorType", laid_errors_errorType)] }
def CmdOnceSaid : Prop := cmdOnceRow.holds Tryd.pinned (OpenSpec.ofChange cmdOnceSpec)

/-- ITS FALSE NEIGHBOUR: 'it returns false'. Refute it at one input. -/
def cmdOnceWrong : ChangeSpec := { name := "cmdOnce", fn := fun _ => fun
  | [d] => { results := [.lit (.bool false)], args := [d] }
  | _ => none }
def CmdOnceWrongFalsely : Prop := cmdOnceRow.holds Tryd.pinned (OpenSpec.ofChange cmdOnceWrong)

/-- 'agiolaw05.CmdCuts': WHATEVER THE INPUT: true; the input reads as it did. -/
def cmdCutsSpec : ChangeSpec := { name := "cmdCuts", fn := fun _ => fun
  | [d1, d2, d3] => { results := [.lit (.bool true)], args := [d1, d2, d3] }
  | _ => none }
def cmdCutsRow : OpenClaim := { program := "ytchlceolccfdhaadoor", sum := "2b90139b4da5e333672c9f92095df38632057344652d350c4920d8239fbf5ca2", func := "agio/agiolaw05.CmdCuts", spec := "cmdCuts", inPlace := ["internal/reflectlite.ValueOf", "(internal/reflectlite.Value).Type", "(internal/reflectlite.Value).IsNil", "internal/reflectlite.TypeOf", "(internal/reflectlite.Value).Elem", "(internal/reflectlite.Value).Set"], unfollowed := true, recurses := true, named := ["errors.errorType"], apart := false, laid := [("errors.errorType", laid_errors_errorType)] }
def CmdCutsSaid : Prop := cmdCutsRow.holds Tryd.pinned (OpenSpec.ofChange cmdCutsSpec)

/-- ITS FALSE NEIGHBOUR: 'it returns false'. Refute it at one input. -/
def cmdCutsWrong : ChangeSpec := { name := "cmdCuts", fn := fun _ => fun
  | [d1, d2, d3] => { results := [.lit (.bool false)], args := [d1, d2, d3] }
  | _ => none }
def CmdCutsWrongFalsely : Prop := cmdCutsRow.holds Tryd.pinned (OpenSpec.ofChange cmdCutsWrong)

/-- 'agiolaw05.CmdFields': WHATEVER THE INPUT: true; the input reads as it did. -/
def cmdFieldsSpec : ChangeSpec := { name := "cmdFields", fn := fun _ => fun
  | [d1, d2] => { results := [.lit (.bool true)], args := [d1, d2] }
  | _ => none }
def cmdFieldsRow : OpenClaim := { program := "ytchlceolccfdhaadoor", sum := "2b90139b4da5e333672c9f92095df38632057344652d350c4920d8239fbf5ca2", func := "agio/agiolaw05.CmdFields", spec := "cmdFields", inPlace := ["internal/reflectlite.ValueOf", "(internal/reflectlite.Value).Type", "(internal/reflectlite.Value).IsNil", "internal/reflectlite.TypeOf", "(internal/reflectlite.Value).Elem", "(internal/reflectlite.Value).Set"], unfollowed := true, recurses := true, named := ["errors.errorType"], apart := false, laid := [("errors.errorType", laid_errors_errorType)] }
def CmdFieldsSaid : Prop := cmdFieldsRow.holds Tryd.pinned (OpenSpec.ofChange cmdFieldsSpec)

/-- ITS FALSE NEIGHBOUR: 'it returns false'. Refute it at one input. -/
def cmdFieldsWrong : ChangeSpec := { name := "cmdFields", fn := fun _ => fun
  | [d1, d2] => { results := [.lit (.bool false)], args := [d1, d2] }
  | _ => none }
def CmdFieldsWrongFalsely : Prop := cmdFieldsRow.holds Tryd.pinned (OpenSpec.ofChange cmdFieldsWrong)

/-- 'agiolaw05.CmdKinds': WHATEVER THE INPUT: true; the input reads as it did. -/
def cmdKindsSpec : ChangeSpec := { name := "cmdKinds", fn := fun _ => fun
  | [d1, d2] => { results := [.lit (.bool true)], args := [d1, d2] }
  | _ => none }
def cmdKindsRow : OpenClaim := { program := "ytchlceolccfdhaadoor", sum := "2b90139b4da5e333672c9f92095df38632057344652d350c4920d8239fbf5ca2", func := "agio/agiolaw05.CmdKinds", spec := "cmdKinds", inPlace := ["internal/reflectlite.ValueOf", "(internal/reflectlite.Value).Type", "(internal/reflectlite.Value).IsNil", "internal/reflectlite.TypeOf", "(internal/reflectlite.Value).Elem", "(internal/reflectlite.Value).Set"], unfollowed := true, recurses := true, named := ["errors.errorType"], apart := false, laid := [("errors.errorType", laid_errors_errorType)] }
def CmdKindsSaid : Prop := cmdKindsRow.holds Tryd.pinned (OpenSpec.ofChange cmdKindsSpec)

/-- ITS FALSE NEIGHBOUR: 'it returns false'. Refute it at one input. -/
def cmdKindsWrong : ChangeSpec := { name := "cmdKinds", fn := fun _ => fun
  | [d1, d2] => { results := [.lit (.bool false)], args := [d1, d2] }
  | _ => none }
def CmdKindsWrongFalsely : Prop := cmdKindsRow.holds Tryd.pinned (OpenSpec.ofChange cmdKindsWrong)

/-- 'agiolaw07.AlogCodes': WHATEVER THE INPUT: true; the input reads as it did. -/
def alogCodesSpec : ChangeSpec := { name := "alogCodes", fn := fun _ => fun
  | [d1, d2] => { results := [.lit (.bool true)], args := [d1, d2] }
  | _ => none }
def alogCodesRow : OpenClaim := { program := "ytchlceolccfdhaadoor", sum := "2b90139b4da5e333672c9f92095df38632057344652d350c4920d8239fbf5ca2", func := "agio/agiolaw07.AlogCodes", spec := "alogCodes", inPlace := ["internal/reflectlite.ValueOf", "(internal/reflectlite.Value).Type", "(internal/reflectlite.Value).IsNil", "internal/reflectlite.TypeOf", "(internal/reflectlite.Value).Elem", "(internal/reflectlite.Value).Set"], unfollowed := true, recurses := true, named := ["errors.errorType"], apart := false, laid := [("errors.errorType", laid_errors_errorType)] }
def AlogCodesSaid : Prop := alogCodesRow.holds Tryd.pinned (OpenSpec.ofChange alogCodesSpec)

/-- ITS FALSE NEIGHBOUR: 'it returns false'. Refute it at one input. -/
def alogCodesWrong : ChangeSpec := { name := "alogCodes", fn := fun _ => fun
  | [d1, d2] => { results := [.lit (.bool false)], args := [d1, d2] }
  | _ => none }
def AlogCodesWrongFalsely : Prop := alogCodesRow.holds Tryd.pinned (OpenSpec.ofChange alogCodesWrong)

/-- 'agiolaw13.NetCodes': WHATEVER THE INPUT: true; the input reads as it did. -/
def netCodesSpec : ChangeSpec := { name := "netCodes", fn := fun _ => fun
  | [d1, d2] => { results := [.lit (.bool true)], args := [d1, d2] }
  | _ => none }
def netCodesRow : OpenClaim := { program := "ytchlceolccfdhaadoor", sum := "2b90139b4da5e333672c9f92095df38632057344652d350c4920d8239fbf5ca2", func := "agio/agiolaw13.NetCodes", spec := "netCodes", inPlace := ["internal/reflectlite.ValueOf", "(internal/reflectlite.Value).Type", "(internal/reflectlite.Value).IsNil", "internal/reflectlite.TypeOf", "(internal/reflectlite.Value).Elem", "(internal/reflectlite.Value).Set"], unfollowed := true, recurses := true, named := ["errors.errorType"], apart := false, laid := [("errors.errorType", laid_errors_errorType)] }
def NetCodesSaid : Prop := netCodesRow.holds Tryd.pinned (OpenSpec.ofChange netCodesSpec)

/-- ITS FALSE NEIGHBOUR: 'it returns false'. Refute it at one input. -/
def netCodesWrong : ChangeSpec := { name := "netCodes", fn := fun _ => fun
  | [d1, d2] => { results := [.lit (.bool false)], args := [d1, d2] }
  | _ => none }
def NetCodesWrongFalsely : Prop := netCodesRow.holds Tryd.pinned (OpenSpec.ofChange netCodesWrong)

/- THE SECOND FORM. 'bulk': how many values and letters a reading holds, each counted each time it is reached (what is shared counts as often as it is met; a slice's spare places count too). A statement '..UptoSaid' is the law's where the arguments, and the package variables that the reading takes, are together of bulk at most 1048576: NARROWER than '..Said'. Prove '..Said' where nothing that the law and all that it calls make is longer than what came in: it says more and counts as full. Else prove '..UptoSaid'. A law counts once. -/
mutual
def uptoBulk {H : Type} : DataW H → Nat
  | .lit (.string bytes) => bytes.length + 1
  | .lit _ => 1
  | .nil => 1
  | .ptr d => uptoBulk d + 1
  | .slice elems spare => uptoBulkAll elems + uptoBulkAll spare + 1
  | .agg parts => uptoBulkAll parts + 1
  | .iface _ d => uptoBulk d + 1
  | .map entries => uptoBulkEntries entries + 1
  | .held _ => 1
def uptoBulkAll {H : Type} : List (DataW H) → Nat
  | [] => 0
  | d :: r => uptoBulk d + uptoBulkAll r
def uptoBulkEntries {H : Type} : List (Lit × DataW H) → Nat
  | [] => 0
  | x :: r => uptoBulkEntry x + uptoBulkEntries r
def uptoBulkEntry {H : Type} : Lit × DataW H → Nat
  | (.string bytes, d) => bytes.length + uptoBulk d + 1
  | (_, d) => uptoBulk d + 1
 end
def uptoSmall : (H : Type) → List (DataW H) → Bool := fun _ ds => decide (uptoBulkAll ds ≤ 1048576)
def OpenSpec.upto (s : _root_.Go.ChangeSpec) : _root_.Go.OpenSpec := { _root_.Go.OpenSpec.ofChange s with cond := some uptoSmall }

/-- 'agiolaw02.WireLays', WHERE WHAT IT READS IS OF BULK AT MOST 1048576: true; the input reads as it did. -/
def wireLaysUptoRow : OpenClaim := { program := "ytchlceolccfdhaadoor", sum := "2b90139b4da5e333672c9f92095df38632057344652d350c4920d8239fbf5ca2", func := "agio/agiolaw02.WireLays", spec := "wireLays", inPlace := ["internal/reflectlite.ValueOf", "(internal/reflectlite.Value).Type", "(internal/reflectlite.Value).IsNil", "internal/reflectlite.TypeOf", "(internal/reflectlite.Value).Elem", "(internal/reflectlite.Value).Set"], unfollowed := true, recurses := true, named := ["errors.errorType"], apart := false, laid := [("errors.errorType", laid_errors_errorType)], narrowed := true }
def WireLaysUptoSaid : Prop := wireLaysUptoRow.holds Tryd.pinned (OpenSpec.upto wireLaysSpec)

/-- 'agiolaw02.WireOnce', WHERE WHAT IT READS IS OF BULK AT MOST 1048576: true; the input reads as it did. -/
def wireOnceUptoRow : OpenClaim := { program := "ytchlceolccfdhaadoor", sum := "2b90139b4da5e333672c9f92095df38632057344652d350c4920d8239fbf5ca2", func := "agio/agiolaw02.WireOnce", spec := "wireOnce", inPlace := ["internal/reflectlite.ValueOf", "(internal/reflectlite.Value).Type", "(internal/reflectlite.Value).IsNil", "internal/reflectlite.TypeOf", "(internal/reflectlite.Value).Elem", "(internal/reflectlite.Value).Set"], unfollowed := true, recurses := true, named := ["errors.errorType"], apart := false, laid := [("errors.errorType", laid_errors_errorType)], narrowed := true }
def WireOnceUptoSaid : Prop := wireOnceUptoRow.holds Tryd.pinned (OpenSpec.upto wireOnceSpec)

/-- 'agiolaw02.WireBack', WHERE WHAT IT READS IS OF BULK AT MOST 1048576: true; the input reads as it did. -/
def wireBackUptoRow : OpenClaim := { program := "ytchlceolccfdhaadoor", sum := "2b90139b4da5e333672c9f92095df38632057344652d350c4920d8239fbf5ca2", func := "agio/agiolaw02.WireBack", spec := "wireBack", inPlace := ["internal/reflectlite.ValueOf", "(internal/reflectlite.Value).Type", "(internal/reflectlite.Value).IsNil", "internal/reflectlite.TypeOf", "(internal/reflectlite.Value).Elem", "(internal/reflectlite.Value).Set"], unfollowed := true, recurses := true, named := ["errors.errorType"], apart := false, laid := [("errors.errorType", laid_errors_errorType)], narrowed := true }
def WireBackUptoSaid : Prop := wireBackUptoRow.holds Tryd.pinned (OpenSpec.upto wireBackSpec)

/-- 'agiolaw02.WireNobody', WHERE WHAT IT READS IS OF BULK AT MOST 1048576: true; the input reads as it did. -/
def wireNobodyUptoRow : OpenClaim := { program := "ytchlceolccfdhaadoor", sum := "2b90139b4da5e333672c9f92095df38632057344652d350c4920d8239fbf5ca2", func := "agio/agiolaw02.WireNobody", spec := "wireNobody", inPlace := ["internal/reflectlite.ValueOf", "(internal/reflectlite.Value).Type", "(internal/reflectlite.Value).IsNil", "internal/reflectlite.TypeOf", "(internal/reflectlite.Value).Elem", "(internal/reflectlite.Value).Set"], unfollowed := true, recurses := true, named := ["errors.errorType"], apart := false, laid := [("errors.errorType", laid_errors_errorType)], narrowed := true }
def WireNobodyUptoSaid : Prop := wireNobodyUptoRow.holds Tryd.pinned (OpenSpec.upto wireNobodySpec)

/-- 'agiolaw02.WireFaults', WHERE WHAT IT READS IS OF BULK AT MOST 1048576: true; the input reads as it did. -/
def wireFaultsUptoRow : OpenClaim := { program := "ytchlceolccfdhaadoor", sum := "2b90139b4da5e333672c9f92095df38632057344652d350c4920d8239fbf5ca2", func := "agio/agiolaw02.WireFaults", spec := "wireFaults", inPlace := ["internal/reflectlite.ValueOf", "(internal/reflectlite.Value).Type", "(internal/reflectlite.Value).IsNil", "internal/reflectlite.TypeOf", "(internal/reflectlite.Value).Elem", "(internal/reflectlite.Value).Set"], unfollowed := true, recurses := true, named := ["errors.errorType"], apart := false, laid := [("errors.errorType", laid_errors_errorType)], narrowed := true }
def WireFaultsUptoSaid : Prop := wireFaultsUptoRow.holds Tryd.pinned (OpenSpec.upto wireFaultsSpec)

/-- 'agiolaw02.WireReads', WHERE WHAT IT READS IS OF BULK AT MOST 1048576: true; the input reads as it did. -/
def wireReadsUptoRow : OpenClaim := { program := "ytchlceolccfdhaadoor", sum := "2b90139b4da5e333672c9f92095df38632057344652d350c4920d8239fbf5ca2", func := "agio/agiolaw02.WireReads", spec := "wireReads", inPlace := ["internal/reflectlite.ValueOf", "(internal/reflectlite.Value).Type", "(internal/reflectlite.Value).IsNil", "internal/reflectlite.TypeOf", "(internal/reflectlite.Value).Elem", "(internal/reflectlite.Value).Set"], unfollowed := true, recurses := true, named := ["errors.errorType"], apart := false, laid := [("errors.errorType", laid_errors_errorType)], narrowed := true }
def WireReadsUptoSaid : Prop := wireReadsUptoRow.holds Tryd.pinned (OpenSpec.upto wireReadsSpec)

/-- 'agiolaw05.CmdCodes', WHERE WHAT IT READS IS OF BULK AT MOST 1048576: true; the input reads as it did. -/
def cmdCodesUptoRow : OpenClaim := { program := "ytchlceolccfdhaadoor", sum := "2b90139b4da5e333672c9f92095df38632057344652d350c4920d8239fbf5ca2", func := "agio/agiolaw05.CmdCodes", spec := "cmdCodes", inPlace := ["internal/reflectlite.ValueOf", "(internal/reflectlite.Value).Type", "(internal/reflectlite.Value).IsNil", "internal/reflectlite.TypeOf", "(internal/reflectlite.Value).Elem", "(internal/reflectlite.Value).Set"], unfollowed := true, recurses := true, named := ["errors.errorType"], apart := false, laid := [("errors.errorType", laid_errors_errorType)], narrowed := true }
def CmdCodesUptoSaid : Prop := cmdCodesUptoRow.holds Tryd.pinned (OpenSpec.upto cmdCodesSpec)

/-- 'agiolaw05.CmdBack', WHERE WHAT IT READS IS OF BULK AT MOST 1048576: true; the input reads as it did. -/
def cmdBackUptoRow : OpenClaim := { program := "ytchlceolccfdhaadoor", sum := "2b90139b4da5e333672c9f92095df38632057344652d350c4920d8239fbf5ca2", func := "agio/agiolaw05.CmdBack", spec := "cmdBack", inPlace := ["internal/reflectlite.ValueOf", "(internal/reflectlite.Value).Type", "(internal/reflectlite.Value).IsNil", "internal/reflectlite.TypeOf", "(internal/reflectlite.Value).Elem", "(internal/reflectlite.Value).Set"], unfollowed := true, recurses := true, named := ["errors.errorType"], apart := false, laid := [("errors.errorType", laid_errors_errorType)], narrowed := true }
def CmdBackUptoSaid : Prop := cmdBackUptoRow.holds Tryd.pinned (OpenSpec.upto cmdBackSpec)

/-- 'agiolaw05.CmdOnce', WHERE WHAT IT READS IS OF BULK AT MOST 1048576: true; the input reads as it did. -/
def cmdOnceUptoRow : OpenClaim := { program := "ytchlceolccfdhaadoor", sum := "2b90139b4da5e333672c9f92095df38632057344652d350c4920d8239fbf5ca2", func := "agio/agiolaw05.CmdOnce", spec := "cmdOnce", inPlace := ["internal/reflectlite.ValueOf", "(internal/reflectlite.Value).Type", "(internal/reflectlite.Value).IsNil", "internal/reflectlite.TypeOf", "(internal/reflectlite.Value).Elem", "(internal/reflectlite.Value).Set"], unfollowed := true, recurses := true, named := ["errors.errorType"], apart := false, laid := [("errors.errorType", laid_errors_errorType)], narrowed := true }
def CmdOnceUptoSaid : Prop := cmdOnceUptoRow.holds Tryd.pinned (OpenSpec.upto cmdOnceSpec)

/-- 'agiolaw05.CmdCuts', WHERE WHAT IT READS IS OF BULK AT MOST 1048576: true; the input reads as it did. -/
def cmdCutsUptoRow : OpenClaim := { program := "ytchlceolccfdhaadoor", sum := "2b90139b4da5e333672c9f92095df38632057344652d350c4920d8239fbf5ca2", func := "agio/agiolaw05.CmdCuts", spec := "cmdCuts", inPlace := ["internal/reflectlite.ValueOf", "(internal/reflectlite.Value).Type", "(internal/reflectlite.Value).IsNil", "internal/reflectlite.TypeOf", "(internal/reflectlite.Value).Elem", "(internal/reflectlite.Value).Set"], unfollowed := true, recurses := true, named := ["errors.errorType"], apart := false, laid := [("errors.errorType", laid_errors_errorType)], narrowed := true }
def CmdCutsUptoSaid : Prop := cmdCutsUptoRow.holds Tryd.pinned (OpenSpec.upto cmdCutsSpec)

/-- 'agiolaw05.CmdFields', WHERE WHAT IT READS IS OF BULK AT MOST 1048576: true; the input reads as it did. -/
def cmdFieldsUptoRow : OpenClaim := { program := "ytchlceolccfdhaadoor", sum := "2b90139b4da5e333672c9f92095df38632057344652d350c4920d8239fbf5ca2", func := "agio/agiolaw05.CmdFields", spec := "cmdFields", inPlace := ["internal/reflectlite.ValueOf", "(internal/reflectlite.Value).Type", "(internal/reflectlite.Value).IsNil", "internal/reflectlite.TypeOf", "(internal/reflectlite.Value).Elem", "(internal/reflectlite.Value).Set"], unfollowed := true, recurses := true, named := ["errors.errorType"], apart := false, laid := [("errors.errorType", laid_errors_errorType)], narrowed := true }
def CmdFieldsUptoSaid : Prop := cmdFieldsUptoRow.holds Tryd.pinned (OpenSpec.upto cmdFieldsSpec)

/-- 'agiolaw05.CmdKinds', WHERE WHAT IT READS IS OF BULK AT MOST 1048576: true; the input reads as it did. -/
def cmdKindsUptoRow : OpenClaim := { program := "ytchlceolccfdhaadoor", sum := "2b90139b4da5e333672c9f92095df38632057344652d350c4920d8239fbf5ca2", func := "agio/agiolaw05.CmdKinds", spec := "cmdKinds", inPlace := ["internal/reflectlite.ValueOf", "(internal/reflectlite.Value).Type", "(internal/reflectlite.Value).IsNil", "internal/reflectlite.TypeOf", "(internal/reflectlite.Value).Elem", "(internal/reflectlite.Value).Set"], unfollowed := true, recurses := true, named := ["errors.errorType"], apart := false, laid := [("errors.errorType", laid_errors_errorType)], narrowed := true }
def CmdKindsUptoSaid : Prop := cmdKindsUptoRow.holds Tryd.pinned (OpenSpec.upto cmdKindsSpec)

/-- 'agiolaw07.AlogCodes', WHERE WHAT IT READS IS OF BULK AT MOST 1048576: true; the input reads as it did. -/
def alogCodesUptoRow : OpenClaim := { program := "ytchlceolccfdhaadoor", sum := "2b90139b4da5e333672c9f92095df38632057344652d350c4920d8239fbf5ca2", func := "agio/agiolaw07.AlogCodes", spec := "alogCodes", inPlace := ["internal/reflectlite.ValueOf", "(internal/reflectlite.Value).Type", "(internal/reflectlite.Value).IsNil", "internal/reflectlite.TypeOf", "(internal/reflectlite.Value).Elem", "(internal/reflectlite.Value).Set"], unfollowed := true, recurses := true, named := ["errors.errorType"], apart := false, laid := [("errors.errorType", laid_errors_errorType)], narrowed := true }
def AlogCodesUptoSaid : Prop := alogCodesUptoRow.holds Tryd.pinned (OpenSpec.upto alogCodesSpec)

/-- 'agiolaw13.NetCodes', WHERE WHAT IT READS IS OF BULK AT MOST 1048576: true; the input reads as it did. -/
def netCodesUptoRow : OpenClaim := { program := "ytchlceolccfdhaadoor", sum := "2b90139b4da5e333672c9f92095df38632057344652d350c4920d8239fbf5ca2", func := "agio/agiolaw13.NetCodes", spec := "netCodes", inPlace := ["internal/reflectlite.ValueOf", "(internal/reflectlite.Value).Type", "(internal/reflectlite.Value).IsNil", "internal/reflectlite.TypeOf", "(internal/reflectlite.Value).Elem", "(internal/reflectlite.Value).Set"], unfollowed := true, recurses := true, named := ["errors.errorType"], apart := false, laid := [("errors.errorType", laid_errors_errorType)], narrowed := true }
def NetCodesUptoSaid : Prop := netCodesUptoRow.holds Tryd.pinned (OpenSpec.upto netCodesSpec)

end Rows
end Go.Proofs.YtchlceolccfdhaaDoor
