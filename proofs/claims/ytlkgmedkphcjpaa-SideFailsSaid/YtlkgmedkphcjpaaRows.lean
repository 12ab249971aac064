/-
  No cell of these rows narrows 'for every input' (looked for: loops, veiled, ifaces, maps, wideKeys, modest, calm, conditions, laid).
  DERIVED. THE GIVEN ROWS OF THIS SEAT. 9 by the template 'for every input the law returns true; each argument reads behind the call as it read before'; 0 by the template 'total and deterministic' (their statements: YtlkgmedkphcjpaaTotals.lean).
  GIVEN WITH THE SEED: the statements are not yours to turn. If you find one false, say at which input.
  Laid BY PROGRAM, IN A SANDBOX (cutbox-rows.mjs): the forced cells as the released guide's own fill.sh prints them over the translation 3275ac6976700fd5… (all of the seat's roots in one cut). By AI agents, Wed Nov 11 2026. No macro, syntax, notation, axiom, sorry.
-/
import Derived.Test.YtlkgmedkphcjpaaChecked
import GoSem.Claim
import GoSem.ClaimJoined
import GoSem.ClaimMapViews
import Derived.JoinedTies
import Derived.KernelRfl
namespace Go.Proofs.Ytlkgmedkphcjpaa
/- THE CELL 'sum', in the pinned program and in every row, IS THE sha256 OF THE DUMP (.gsa) THAT YtlkgmedkphcjpaaProg.lean LOADS. Nothing in Lean hashes anything: it is a label: what it is worth is what the hold of that sum in a sandbox is worth. -/
noncomputable def Try.pinned : Pinned := { name := "ytlkgmedkphcjpaa", sum := "3275ac6976700fd589202bd96e94f731473a9ac35688ee23e042eceb00b5c551", checked := Try.checked }
namespace Rows
def none {H : Type} : Left H := { results := [], args := [] }

/-- 'agiolaw13.NetPlays': WHATEVER THE INPUT: true; the input reads as it did. -/
def netPlaysSpec : ChangeSpec := { name := "netPlays", fn := fun _ => fun
  | [d] => { results := [.lit (.bool true)], args := [d] }
  | _ => none }
def netPlaysRow : OpenClaim := { program := "ytlkgmedkphcjpaa", sum := "3275ac6976700fd589202bd96e94f731473a9ac35688ee23e042eceb00b5c551", func := "agio/agiolaw13.NetPlays", spec := "netPlays", unfollowed := true, recurses := true, apart := false }
def NetPlaysSaid : Prop := netPlaysRow.holds Try.pinned (OpenSpec.ofChange netPlaysSpec)

/-- ITS FALSE NEIGHBOUR: 'it returns false'. Refute it at one input. -/
def netPlaysWrong : ChangeSpec := { name := "netPlays", fn := fun _ => fun
  | [d] => { results := [.lit (.bool false)], args := [d] }
  | _ => none }
def NetPlaysWrongFalsely : Prop := netPlaysRow.holds Try.pinned (OpenSpec.ofChange netPlaysWrong)

/-- 'agiolaw20.SideRises': WHATEVER THE INPUT: true; the input reads as it did. -/
def sideRisesSpec : ChangeSpec := { name := "sideRises", fn := fun _ => fun
  | [d1, d2] => { results := [.lit (.bool true)], args := [d1, d2] }
  | _ => none }
def sideRisesRow : OpenClaim := { program := "ytlkgmedkphcjpaa", sum := "3275ac6976700fd589202bd96e94f731473a9ac35688ee23e042eceb00b5c551", func := "agio/agiolaw20.SideRises", spec := "sideRises", unfollowed := true, recurses := true, apart := false }
def SideRisesSaid : Prop := sideRisesRow.holds Try.pinned (OpenSpec.ofChange sideRisesSpec)

/-- ITS FALSE NEIGHBOUR: 'it returns false'. Refute it at one input. -/
def sideRisesWrong : ChangeSpec := { name := "sideRises", fn := fun _ => fun
  | [d1, d2] => { results := [.lit (.bool false)], args := [d1, d2] }
  | _ => none }
def SideRisesWrongFalsely : Prop := sideRisesRow.holds Try.pinned (OpenSpec.ofChange sideRisesWrong)

/-- 'agiolaw20.SideFails': WHATEVER THE INPUT: true; the input reads as it did. -/
def sideFailsSpec : ChangeSpec := { name := "sideFails", fn := fun _ => fun
  | [d1, d2, d3] => { results := [.lit (.bool true)], args := [d1, d2, d3] }
  | _ => none }
def sideFailsRow : OpenClaim := { program := "ytlkgmedkphcjpaa", sum := "3275ac6976700fd589202bd96e94f731473a9ac35688ee23e042eceb00b5c551", func := "agio/agiolaw20.SideFails", spec := "sideFails", unfollowed := true, recurses := true, apart := false }
def SideFailsSaid : Prop := sideFailsRow.holds Try.pinned (OpenSpec.ofChange sideFailsSpec)

/-- ITS FALSE NEIGHBOUR: 'it returns false'. Refute it at one input. -/
def sideFailsWrong : ChangeSpec := { name := "sideFails", fn := fun _ => fun
  | [d1, d2, d3] => { results := [.lit (.bool false)], args := [d1, d2, d3] }
  | _ => none }
def SideFailsWrongFalsely : Prop := sideFailsRow.holds Try.pinned (OpenSpec.ofChange sideFailsWrong)

/-- 'agiolaw20.SideSums': WHATEVER THE INPUT: true; the input reads as it did. -/
def sideSumsSpec : ChangeSpec := { name := "sideSums", fn := fun _ => fun
  | [d1, d2] => { results := [.lit (.bool true)], args := [d1, d2] }
  | _ => none }
def sideSumsRow : OpenClaim := { program := "ytlkgmedkphcjpaa", sum := "3275ac6976700fd589202bd96e94f731473a9ac35688ee23e042eceb00b5c551", func := "agio/agiolaw20.SideSums", spec := "sideSums", unfollowed := true, recurses := true, apart := false }
def SideSumsSaid : Prop := sideSumsRow.holds Try.pinned (OpenSpec.ofChange sideSumsSpec)

/-- ITS FALSE NEIGHBOUR: 'it returns false'. Refute it at one input. -/
def sideSumsWrong : ChangeSpec := { name := "sideSums", fn := fun _ => fun
  | [d1, d2] => { results := [.lit (.bool false)], args := [d1, d2] }
  | _ => none }
def SideSumsWrongFalsely : Prop := sideSumsRow.holds Try.pinned (OpenSpec.ofChange sideSumsWrong)

/-- 'agiolaw20.SideKeeps': WHATEVER THE INPUT: true; the input reads as it did. -/
def sideKeepsSpec : ChangeSpec := { name := "sideKeeps", fn := fun _ => fun
  | [d1, d2, d3, d4] => { results := [.lit (.bool true)], args := [d1, d2, d3, d4] }
  | _ => none }
def sideKeepsRow : OpenClaim := { program := "ytlkgmedkphcjpaa", sum := "3275ac6976700fd589202bd96e94f731473a9ac35688ee23e042eceb00b5c551", func := "agio/agiolaw20.SideKeeps", spec := "sideKeeps", unfollowed := true, recurses := true, apart := false }
def SideKeepsSaid : Prop := sideKeepsRow.holds Try.pinned (OpenSpec.ofChange sideKeepsSpec)

/-- ITS FALSE NEIGHBOUR: 'it returns false'. Refute it at one input. -/
def sideKeepsWrong : ChangeSpec := { name := "sideKeeps", fn := fun _ => fun
  | [d1, d2, d3, d4] => { results := [.lit (.bool false)], args := [d1, d2, d3, d4] }
  | _ => none }
def SideKeepsWrongFalsely : Prop := sideKeepsRow.holds Try.pinned (OpenSpec.ofChange sideKeepsWrong)

/-- 'agiolaw20.SidePlays': WHATEVER THE INPUT: true; the input reads as it did. -/
def sidePlaysSpec : ChangeSpec := { name := "sidePlays", fn := fun _ => fun
  | [d1, d2] => { results := [.lit (.bool true)], args := [d1, d2] }
  | _ => none }
def sidePlaysRow : OpenClaim := { program := "ytlkgmedkphcjpaa", sum := "3275ac6976700fd589202bd96e94f731473a9ac35688ee23e042eceb00b5c551", func := "agio/agiolaw20.SidePlays", spec := "sidePlays", unfollowed := true, recurses := true, apart := false }
def SidePlaysSaid : Prop := sidePlaysRow.holds Try.pinned (OpenSpec.ofChange sidePlaysSpec)

/-- ITS FALSE NEIGHBOUR: 'it returns false'. Refute it at one input. -/
def sidePlaysWrong : ChangeSpec := { name := "sidePlays", fn := fun _ => fun
  | [d1, d2] => { results := [.lit (.bool false)], args := [d1, d2] }
  | _ => none }
def SidePlaysWrongFalsely : Prop := sidePlaysRow.holds Try.pinned (OpenSpec.ofChange sidePlaysWrong)

/-- 'agiolaw20.SideNobody': WHATEVER THE INPUT: true; the input reads as it did. -/
def sideNobodySpec : ChangeSpec := { name := "sideNobody", fn := fun _ => fun
  | [d] => { results := [.lit (.bool true)], args := [d] }
  | _ => none }
def sideNobodyRow : OpenClaim := { program := "ytlkgmedkphcjpaa", sum := "3275ac6976700fd589202bd96e94f731473a9ac35688ee23e042eceb00b5c551", func := "agio/agiolaw20.SideNobody", spec := "sideNobody", unfollowed := true, recurses := true, apart := false }
def SideNobodySaid : Prop := sideNobodyRow.holds Try.pinned (OpenSpec.ofChange sideNobodySpec)

/-- ITS FALSE NEIGHBOUR: 'it returns false'. Refute it at one input. -/
def sideNobodyWrong : ChangeSpec := { name := "sideNobody", fn := fun _ => fun
  | [d] => { results := [.lit (.bool false)], args := [d] }
  | _ => none }
def SideNobodyWrongFalsely : Prop := sideNobodyRow.holds Try.pinned (OpenSpec.ofChange sideNobodyWrong)

/-- 'agiolaw07.AlogReads': WHATEVER THE INPUT: true; the input reads as it did. -/
def alogReadsSpec : ChangeSpec := { name := "alogReads", fn := fun _ => fun
  | [d] => { results := [.lit (.bool true)], args := [d] }
  | _ => none }
def alogReadsRow : OpenClaim := { program := "ytlkgmedkphcjpaa", sum := "3275ac6976700fd589202bd96e94f731473a9ac35688ee23e042eceb00b5c551", func := "agio/agiolaw07.AlogReads", spec := "alogReads", unfollowed := true, recurses := true, apart := false }
def AlogReadsSaid : Prop := alogReadsRow.holds Try.pinned (OpenSpec.ofChange alogReadsSpec)

/-- ITS FALSE NEIGHBOUR: 'it returns false'. Refute it at one input. -/
def alogReadsWrong : ChangeSpec := { name := "alogReads", fn := fun _ => fun
  | [d] => { results := [.lit (.bool false)], args := [d] }
  | _ => none }
def AlogReadsWrongFalsely : Prop := alogReadsRow.holds Try.pinned (OpenSpec.ofChange alogReadsWrong)

/-- 'agiolaw07.AlogLast': WHATEVER THE INPUT: true; the input reads as it did. -/
def alogLastSpec : ChangeSpec := { name := "alogLast", fn := fun _ => fun
  | [d1, d2, d3] => { results := [.lit (.bool true)], args := [d1, d2, d3] }
  | _ => none }
def alogLastRow : OpenClaim := { program := "ytlkgmedkphcjpaa", sum := "3275ac6976700fd589202bd96e94f731473a9ac35688ee23e042eceb00b5c551", func := "agio/agiolaw07.AlogLast", spec := "alogLast", unfollowed := true, recurses := true, apart := false }
def AlogLastSaid : Prop := alogLastRow.holds Try.pinned (OpenSpec.ofChange alogLastSpec)

/-- ITS FALSE NEIGHBOUR: 'it returns false'. Refute it at one input. -/
def alogLastWrong : ChangeSpec := { name := "alogLast", fn := fun _ => fun
  | [d1, d2, d3] => { results := [.lit (.bool false)], args := [d1, d2, d3] }
  | _ => none }
def AlogLastWrongFalsely : Prop := alogLastRow.holds Try.pinned (OpenSpec.ofChange alogLastWrong)

/- THE SECOND FORM. 'bulk': how many values and letters a reading holds, each counted each time it is reached (what is shared counts as often as it is met; a slice's spare places count too). A statement '..UptoSaid' is the law's where the arguments, and the package variables that the reading takes, are together of bulk at most 1048576: NARROWER than '..Said'. Prove '..Said' where nothing that the law and all that it calls make is longer than what came in: it says more and counts as full. Else prove '..UptoSaid'. A law counts once. -/
mutual
def uptoBulk {H : Type} : DataW H → Nat
  | .lit (.string bytes) => bytes.length + 1
  | .lit _ => 1
  | .nil => 1
  | .ptr d => uptoBulk d + 1
  | .slice elems spare => uptoBulkAll elems + uptoBulkAll spare + 1
  | .agg parts => uptoBulkAll parts + 1
  | .iface _ d => uptoBulk d + 1
  | .map entries => uptoBulkEntries entries + 1
  | .held _ => 1
def uptoBulkAll {H : Type} : List (DataW H) → Nat
  | [] => 0
  | d :: r => uptoBulk d + uptoBulkAll r
def uptoBulkEntries {H : Type} : List (Lit × DataW H) → Nat
  | [] => 0
  | x :: r => uptoBulkEntry x + uptoBulkEntries r
def uptoBulkEntry {H : Type} : Lit × DataW H → Nat
  | (.string bytes, d) => bytes.length + uptoBulk d + 1
  | (_, d) => uptoBulk d + 1
 end
def uptoSmall : (H : Type) → List (DataW H) → Bool := fun _ ds => decide (uptoBulkAll ds ≤ 1048576)
def OpenSpec.upto (s : _root_.Go.ChangeSpec) : _root_.Go.OpenSpec := { _root_.Go.OpenSpec.ofChange s with cond := some uptoSmall }

/-- 'agiolaw13.NetPlays', WHERE WHAT IT READS IS OF BULK AT MOST 1048576: true; the input reads as it did. -/
def netPlaysUptoRow : OpenClaim := { program := "ytlkgmedkphcjpaa", sum := "3275ac6976700fd589202bd96e94f731473a9ac35688ee23e042eceb00b5c551", func := "agio/agiolaw13.NetPlays", spec := "netPlays", unfollowed := true, recurses := true, apart := false, narrowed := true }
def NetPlaysUptoSaid : Prop := netPlaysUptoRow.holds Try.pinned (OpenSpec.upto netPlaysSpec)

/-- 'agiolaw20.SideRises', WHERE WHAT IT READS IS OF BULK AT MOST 1048576: true; the input reads as it did. -/
def sideRisesUptoRow : OpenClaim := { program := "ytlkgmedkphcjpaa", sum := "3275ac6976700fd589202bd96e94f731473a9ac35688ee23e042eceb00b5c551", func := "agio/agiolaw20.SideRises", spec := "sideRises", unfollowed := true, recurses := true, apart := false, narrowed := true }
def SideRisesUptoSaid : Prop := sideRisesUptoRow.holds Try.pinned (OpenSpec.upto sideRisesSpec)

/-- 'agiolaw20.SideFails', WHERE WHAT IT READS IS OF BULK AT MOST 1048576: true; the input reads as it did. -/
def sideFailsUptoRow : OpenClaim := { program := "ytlkgmedkphcjpaa", sum := "3275ac6976700fd589202bd96e94f731473a9ac35688ee23e042eceb00b5c551", func := "agio/agiolaw20.SideFails", spec := "sideFails", unfollowed := true, recurses := true, apart := false, narrowed := true }
def SideFailsUptoSaid : Prop := sideFailsUptoRow.holds Try.pinned (OpenSpec.upto sideFailsSpec)

/-- 'agiolaw20.SideSums', WHERE WHAT IT READS IS OF BULK AT MOST 1048576: true; the input reads as it did. -/
def sideSumsUptoRow : OpenClaim := { program := "ytlkgmedkphcjpaa", sum := "3275ac6976700fd589202bd96e94f731473a9ac35688ee23e042eceb00b5c551", func := "agio/agiolaw20.SideSums", spec := "sideSums", unfollowed := true, recurses := true, apart := false, narrowed := true }
def SideSumsUptoSaid : Prop := sideSumsUptoRow.holds Try.pinned (OpenSpec.upto sideSumsSpec)

/-- 'agiolaw20.SideKeeps', WHERE WHAT IT READS IS OF BULK AT MOST 1048576: true; the input reads as it did. -/
def sideKeepsUptoRow : OpenClaim := { program := "ytlkgmedkphcjpaa", sum := "3275ac6976700fd589202bd96e94f731473a9ac35688ee23e042eceb00b5c551", func := "agio/agiolaw20.SideKeeps", spec := "sideKeeps", unfollowed := true, recurses := true, apart := false, narrowed := true }
def SideKeepsUptoSaid : Prop := sideKeepsUptoRow.holds Try.pinned (OpenSpec.upto sideKeepsSpec)

/-- 'agiolaw20.SidePlays', WHERE WHAT IT READS IS OF BULK AT MOST 1048576: true; the input reads as it did. -/
def sidePlaysUptoRow : OpenClaim := { program := "ytlkgmedkphcjpaa", sum := "3275ac6976700fd589202bd96e94f731473a9ac35688ee23e042eceb00b5c551", func := "agio/agiolaw20.SidePlays", spec := "sidePlays", unfollowed := true, recurses := true, apart := false, narrowed := true }
def SidePlaysUptoSaid : Prop := sidePlaysUptoRow.holds Try.pinned (OpenSpec.upto sidePlaysSpec)

/-- 'agiolaw20.SideNobody', WHERE WHAT IT READS IS OF BULK AT MOST 1048576: true; the input reads as it did. -/
def sideNobodyUptoRow : OpenClaim := { program := "ytlkgmedkphcjpaa", sum := "3275ac6976700fd589202bd96e94f731473a9ac35688ee23e042eceb00b5c551", func := "agio/agiolaw20.SideNobody", spec := "sideNobody", unfollowed := true, recurses := true, apart := false, narrowed := true }
def SideNobodyUptoSaid : Prop := sideNobodyUptoRow.holds Try.pinned (OpenSpec.upto sideNobodySpec)

/-- 'agiolaw07.AlogReads', WHERE WHAT IT READS IS OF BULK AT MOST 1048576: true; the input reads as it did. -/
def alogReadsUptoRow : OpenClaim := { program := "ytlkgmedkphcjpaa", sum := "3275ac6976700fd589202bd96e94f731473a9ac35688ee23e042eceb00b5c551", func := "agio/agiolaw07.AlogReads", spec := "alogReads", unfollowed := true, recurses := true, apart := false, narrowed := true }
def AlogReadsUptoSaid : Prop := alogReadsUptoRow.holds Try.pinned (OpenSpec.upto alogReadsSpec)

/-- 'agiolaw07.AlogLast', WHERE WHAT IT READS IS OF BULK AT MOST 1048576: true; the input reads as it did. -/
def alogLastUptoRow : OpenClaim := { program := "ytlkgmedkphcjpaa", sum := "3275ac6976700fd589202bd96e94f731473a9ac35688ee23e042eceb00b5c551", func := "agio/agiolaw07.AlogLast", spec := "alogLast", unfollowed := true, recurses := true, apart := false, narrowed := true }
def AlogLastUptoSaid : Prop := alogLastUptoRow.holds Try.pinned (OpenSpec.upto alogLastSpec)

end Rows
end Go.Proofs.Ytlkgmedkphcjpaa
