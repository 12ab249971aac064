/-
  No cell of these rows narrows 'for every input' (looked for: loops, veiled, ifaces, maps, wideKeys, modest, calm, conditions, laid).
  DERIVED. THE GIVEN ROWS OF THIS SEAT. 16 by the template 'for every input the law returns true; each argument reads behind the call as it read before'; 0 by the template 'total and deterministic' (their statements: YtdmkhmejpgjioaaTotals.lean).
  GIVEN WITH THE SEED: the statements are not yours to turn. If you find one false, say at which input.
  Laid BY PROGRAM, IN A SANDBOX (cutbox-rows.mjs): the forced cells as the released guide's own fill.sh prints them over the translation 9499697f7b3e0429… (all of the seat's roots in one cut). By AI agents, Wed Nov 11 2026. No macro, syntax, notation, axiom, sorry.
-/
import Derived.Test.YtdmkhmejpgjioaaChecked
import GoSem.Claim
import GoSem.ClaimJoined
import GoSem.ClaimMapViews
import Derived.JoinedTies
import Derived.KernelRfl
namespace Go.Proofs.Ytdmkhmejpgjioaa
/- THE CELL 'sum', in the pinned program and in every row, IS THE sha256 OF THE DUMP (.gsa) THAT YtdmkhmejpgjioaaProg.lean LOADS. Nothing in Lean hashes anything: it is a label: what it is worth is what the hold of that sum in a sandbox is worth. -/
noncomputable def Try.pinned : Pinned := { name := "ytdmkhmejpgjioaa", sum := "9499697f7b3e04294374b0e10c4d76d294348b0a89894ad4f7fb22013cdba75e", checked := Try.checked }
namespace Rows
def none {H : Type} : Left H := { results := [], args := [] }

/-- 'agiolaw07.AlogBack': WHATEVER THE INPUT: true; the input reads as it did. -/
def alogBackSpec : ChangeSpec := { name := "alogBack", fn := fun _ => fun
  | [d] => { results := [.lit (.bool true)], args := [d] }
  | _ => none }
def alogBackRow : OpenClaim := { program := "ytdmkhmejpgjioaa", sum := "9499697f7b3e04294374b0e10c4d76d294348b0a89894ad4f7fb22013cdba75e", func := "agio/agiolaw07.AlogBack", spec := "alogBack", unfollowed := true, recurses := true, apart := false }
def AlogBackSaid : Prop := alogBackRow.holds Try.pinned (OpenSpec.ofChange alogBackSpec)

/-- ITS FALSE NEIGHBOUR: 'it returns false'. Refute it at one input. -/
def alogBackWrong : ChangeSpec := { name := "alogBack", fn := fun _ => fun
  | [d] => { results := [.lit (.bool false)], args := [d] }
  | _ => none }
def AlogBackWrongFalsely : Prop := alogBackRow.holds Try.pinned (OpenSpec.ofChange alogBackWrong)

/-- 'agiolaw07.AlogTorn': WHATEVER THE INPUT: true; the input reads as it did. -/
def alogTornSpec : ChangeSpec := { name := "alogTorn", fn := fun _ => fun
  | [d1, d2, d3] => { results := [.lit (.bool true)], args := [d1, d2, d3] }
  | _ => none }
def alogTornRow : OpenClaim := { program := "ytdmkhmejpgjioaa", sum := "9499697f7b3e04294374b0e10c4d76d294348b0a89894ad4f7fb22013cdba75e", func := "agio/agiolaw07.AlogTorn", spec := "alogTorn", unfollowed := true, recurses := true, apart := false }
def AlogTornSaid : Prop := alogTornRow.holds Try.pinned (OpenSpec.ofChange alogTornSpec)

/-- ITS FALSE NEIGHBOUR: 'it returns false'. Refute it at one input. -/
def alogTornWrong : ChangeSpec := { name := "alogTorn", fn := fun _ => fun
  | [d1, d2, d3] => { results := [.lit (.bool false)], args := [d1, d2, d3] }
  | _ => none }
def AlogTornWrongFalsely : Prop := alogTornRow.holds Try.pinned (OpenSpec.ofChange alogTornWrong)

/-- 'agiolaw07.AlogAgain': WHATEVER THE INPUT: true; the input reads as it did. -/
def alogAgainSpec : ChangeSpec := { name := "alogAgain", fn := fun _ => fun
  | [d] => { results := [.lit (.bool true)], args := [d] }
  | _ => none }
def alogAgainRow : OpenClaim := { program := "ytdmkhmejpgjioaa", sum := "9499697f7b3e04294374b0e10c4d76d294348b0a89894ad4f7fb22013cdba75e", func := "agio/agiolaw07.AlogAgain", spec := "alogAgain", unfollowed := true, recurses := true, apart := false }
def AlogAgainSaid : Prop := alogAgainRow.holds Try.pinned (OpenSpec.ofChange alogAgainSpec)

/-- ITS FALSE NEIGHBOUR: 'it returns false'. Refute it at one input. -/
def alogAgainWrong : ChangeSpec := { name := "alogAgain", fn := fun _ => fun
  | [d] => { results := [.lit (.bool false)], args := [d] }
  | _ => none }
def AlogAgainWrongFalsely : Prop := alogAgainRow.holds Try.pinned (OpenSpec.ofChange alogAgainWrong)

/-- 'agiolaw13.NetBack': WHATEVER THE INPUT: true; the input reads as it did. -/
def netBackSpec : ChangeSpec := { name := "netBack", fn := fun _ => fun
  | [d1, d2] => { results := [.lit (.bool true)], args := [d1, d2] }
  | _ => none }
def netBackRow : OpenClaim := { program := "ytdmkhmejpgjioaa", sum := "9499697f7b3e04294374b0e10c4d76d294348b0a89894ad4f7fb22013cdba75e", func := "agio/agiolaw13.NetBack", spec := "netBack", unfollowed := true, recurses := true, apart := false }
def NetBackSaid : Prop := netBackRow.holds Try.pinned (OpenSpec.ofChange netBackSpec)

/-- ITS FALSE NEIGHBOUR: 'it returns false'. Refute it at one input. -/
def netBackWrong : ChangeSpec := { name := "netBack", fn := fun _ => fun
  | [d1, d2] => { results := [.lit (.bool false)], args := [d1, d2] }
  | _ => none }
def NetBackWrongFalsely : Prop := netBackRow.holds Try.pinned (OpenSpec.ofChange netBackWrong)

/-- 'agiolaw13.NetTurned': WHATEVER THE INPUT: true; the input reads as it did. -/
def netTurnedSpec : ChangeSpec := { name := "netTurned", fn := fun _ => fun
  | [d1, d2, d3] => { results := [.lit (.bool true)], args := [d1, d2, d3] }
  | _ => none }
def netTurnedRow : OpenClaim := { program := "ytdmkhmejpgjioaa", sum := "9499697f7b3e04294374b0e10c4d76d294348b0a89894ad4f7fb22013cdba75e", func := "agio/agiolaw13.NetTurned", spec := "netTurned", unfollowed := true, recurses := true, apart := false }
def NetTurnedSaid : Prop := netTurnedRow.holds Try.pinned (OpenSpec.ofChange netTurnedSpec)

/-- ITS FALSE NEIGHBOUR: 'it returns false'. Refute it at one input. -/
def netTurnedWrong : ChangeSpec := { name := "netTurned", fn := fun _ => fun
  | [d1, d2, d3] => { results := [.lit (.bool false)], args := [d1, d2, d3] }
  | _ => none }
def NetTurnedWrongFalsely : Prop := netTurnedRow.holds Try.pinned (OpenSpec.ofChange netTurnedWrong)

/-- 'agiolaw13.NetOnce': WHATEVER THE INPUT: true; the input reads as it did. -/
def netOnceSpec : ChangeSpec := { name := "netOnce", fn := fun _ => fun
  | [d1, d2, d3] => { results := [.lit (.bool true)], args := [d1, d2, d3] }
  | _ => none }
def netOnceRow : OpenClaim := { program := "ytdmkhmejpgjioaa", sum := "9499697f7b3e04294374b0e10c4d76d294348b0a89894ad4f7fb22013cdba75e", func := "agio/agiolaw13.NetOnce", spec := "netOnce", unfollowed := true, recurses := true, apart := false }
def NetOnceSaid : Prop := netOnceRow.holds Try.pinned (OpenSpec.ofChange netOnceSpec)

/-- ITS FALSE NEIGHBOUR: 'it returns false'. Refute it at one input. -/
def netOnceWrong : ChangeSpec := { name := "netOnce", fn := fun _ => fun
  | [d1, d2, d3] => { results := [.lit (.bool false)], args := [d1, d2, d3] }
  | _ => none }
def NetOnceWrongFalsely : Prop := netOnceRow.holds Try.pinned (OpenSpec.ofChange netOnceWrong)

/-- 'agiolaw13.NetPlays': WHATEVER THE INPUT: true; the input reads as it did. -/
def netPlaysSpec : ChangeSpec := { name := "netPlays", fn := fun _ => fun
  | [d] => { results := [.lit (.bool true)], args := [d] }
  | _ => none }
def netPlaysRow : OpenClaim := { program := "ytdmkhmejpgjioaa", sum := "9499697f7b3e04294374b0e10c4d76d294348b0a89894ad4f7fb22013cdba75e", func := "agio/agiolaw13.NetPlays", spec := "netPlays", unfollowed := true, recurses := true, apart := false }
def NetPlaysSaid : Prop := netPlaysRow.holds Try.pinned (OpenSpec.ofChange netPlaysSpec)

/-- ITS FALSE NEIGHBOUR: 'it returns false'. Refute it at one input. -/
def netPlaysWrong : ChangeSpec := { name := "netPlays", fn := fun _ => fun
  | [d] => { results := [.lit (.bool false)], args := [d] }
  | _ => none }
def NetPlaysWrongFalsely : Prop := netPlaysRow.holds Try.pinned (OpenSpec.ofChange netPlaysWrong)

/-- 'agiolaw13.NetNobody': WHATEVER THE INPUT: true; the input reads as it did. -/
def netNobodySpec : ChangeSpec := { name := "netNobody", fn := fun _ => fun
  | [d1, d2, d3] => { results := [.lit (.bool true)], args := [d1, d2, d3] }
  | _ => none }
def netNobodyRow : OpenClaim := { program := "ytdmkhmejpgjioaa", sum := "9499697f7b3e04294374b0e10c4d76d294348b0a89894ad4f7fb22013cdba75e", func := "agio/agiolaw13.NetNobody", spec := "netNobody", unfollowed := true, recurses := true, apart := false }
def NetNobodySaid : Prop := netNobodyRow.holds Try.pinned (OpenSpec.ofChange netNobodySpec)

/-- ITS FALSE NEIGHBOUR: 'it returns false'. Refute it at one input. -/
def netNobodyWrong : ChangeSpec := { name := "netNobody", fn := fun _ => fun
  | [d1, d2, d3] => { results := [.lit (.bool false)], args := [d1, d2, d3] }
  | _ => none }
def NetNobodyWrongFalsely : Prop := netNobodyRow.holds Try.pinned (OpenSpec.ofChange netNobodyWrong)

/-- 'agiolaw20.SideRises': WHATEVER THE INPUT: true; the input reads as it did. -/
def sideRisesSpec : ChangeSpec := { name := "sideRises", fn := fun _ => fun
  | [d1, d2] => { results := [.lit (.bool true)], args := [d1, d2] }
  | _ => none }
def sideRisesRow : OpenClaim := { program := "ytdmkhmejpgjioaa", sum := "9499697f7b3e04294374b0e10c4d76d294348b0a89894ad4f7fb22013cdba75e", func := "agio/agiolaw20.SideRises", spec := "sideRises", unfollowed := true, recurses := true, apart := false }
def SideRisesSaid : Prop := sideRisesRow.holds Try.pinned (OpenSpec.ofChange sideRisesSpec)

/-- ITS FALSE NEIGHBOUR: 'it returns false'. Refute it at one input. -/
def sideRisesWrong : ChangeSpec := { name := "sideRises", fn := fun _ => fun
  | [d1, d2] => { results := [.lit (.bool false)], args := [d1, d2] }
  | _ => none }
def SideRisesWrongFalsely : Prop := sideRisesRow.holds Try.pinned (OpenSpec.ofChange sideRisesWrong)

/-- 'agiolaw20.SideFails': WHATEVER THE INPUT: true; the input reads as it did. -/
def sideFailsSpec : ChangeSpec := { name := "sideFails", fn := fun _ => fun
  | [d1, d2, d3] => { results := [.lit (.bool true)], args := [d1, d2, d3] }
  | _ => none }
def sideFailsRow : OpenClaim := { program := "ytdmkhmejpgjioaa", sum := "9499697f7b3e04294374b0e10c4d76d294348b0a89894ad4f7fb22013cdba75e", func := "agio/agiolaw20.SideFails", spec := "sideFails", unfollowed := true, recurses := true, apart := false }
def SideFailsSaid : Prop := sideFailsRow.holds Try.pinned (OpenSpec.ofChange sideFailsSpec)

/-- ITS FALSE NEIGHBOUR: 'it returns false'. Refute it at one input. -/
def sideFailsWrong : ChangeSpec := { name := "sideFails", fn := fun _ => fun
  | [d1, d2, d3] => { results := [.lit (.bool false)], args := [d1, d2, d3] }
  | _ => none }
def SideFailsWrongFalsely : Prop := sideFailsRow.holds Try.pinned (OpenSpec.ofChange sideFailsWrong)

/-- 'agiolaw20.SideSums': WHATEVER THE INPUT: true; the input reads as it did. -/
def sideSumsSpec : ChangeSpec := { name := "sideSums", fn := fun _ => fun
  | [d1, d2] => { results := [.lit (.bool true)], args := [d1, d2] }
  | _ => none }
def sideSumsRow : OpenClaim := { program := "ytdmkhmejpgjioaa", sum := "9499697f7b3e04294374b0e10c4d76d294348b0a89894ad4f7fb22013cdba75e", func := "agio/agiolaw20.SideSums", spec := "sideSums", unfollowed := true, recurses := true, apart := false }
def SideSumsSaid : Prop := sideSumsRow.holds Try.pinned (OpenSpec.ofChange sideSumsSpec)

/-- ITS FALSE NEIGHBOUR: 'it returns false'. Refute it at one input. -/
def sideSumsWrong : ChangeSpec := { name := "sideSums", fn := fun _ => fun
  | [d1, d2] => { results := [.lit (.bool false)], args := [d1, d2] }
  | _ => none }
def SideSumsWrongFalsely : Prop := sideSumsRow.holds Try.pinned (OpenSpec.ofChange sideSumsWrong)

/-- 'agiolaw20.SideKeeps': WHATEVER THE INPUT: true; the input reads as it did. -/
def sideKeepsSpec : ChangeSpec := { name := "sideKeeps", fn := fun _ => fun
  | [d1, d2, d3, d4] => { results := [.lit (.bool true)], args := [d1, d2, d3, d4] }
  | _ => none }
def sideKeepsRow : OpenClaim := { program := "ytdmkhmejpgjioaa", sum := "9499697f7b3e04294374b0e10c4d76d294348b0a89894ad4f7fb22013cdba75e", func := "agio/agiolaw20.SideKeeps", spec := "sideKeeps", unfollowed := true, recurses := true, apart := false }
def SideKeepsSaid : Prop := sideKeepsRow.holds Try.pinned (OpenSpec.ofChange sideKeepsSpec)

/-- ITS FALSE NEIGHBOUR: 'it returns false'. Refute it at one input. -/
def sideKeepsWrong : ChangeSpec := { name := "sideKeeps", fn := fun _ => fun
  | [d1, d2, d3, d4] => { results := [.lit (.bool false)], args := [d1, d2, d3, d4] }
  | _ => none }
def SideKeepsWrongFalsely : Prop := sideKeepsRow.holds Try.pinned (OpenSpec.ofChange sideKeepsWrong)

/-- 'agiolaw20.SidePlays': WHATEVER THE INPUT: true; the input reads as it did. -/
def sidePlaysSpec : ChangeSpec := { name := "sidePlays", fn := fun _ => fun
  | [d1, d2] => { results := [.lit (.bool true)], args := [d1, d2] }
  | _ => none }
def sidePlaysRow : OpenClaim := { program := "ytdmkhmejpgjioaa", sum := "9499697f7b3e04294374b0e10c4d76d294348b0a89894ad4f7fb22013cdba75e", func := "agio/agiolaw20.SidePlays", spec := "sidePlays", unfollowed := true, recurses := true, apart := false }
def SidePlaysSaid : Prop := sidePlaysRow.holds Try.pinned (OpenSpec.ofChange sidePlaysSpec)

/-- ITS FALSE NEIGHBOUR: 'it returns false'. Refute it at one input. -/
def sidePlaysWrong : ChangeSpec := { name := "sidePlays", fn := fun _ => fun
  | [d1, d2] => { results := [.lit (.bool false)], args := [d1, d2] }
  | _ => none }
def SidePlaysWrongFalsely : Prop := sidePlaysRow.holds Try.pinned (OpenSpec.ofChange sidePlaysWrong)

/-- 'agiolaw20.SideNobody': WHATEVER THE INPUT: true; the input reads as it did. -/
def sideNobodySpec : ChangeSpec := { name := "sideNobody", fn := fun _ => fun
  | [d] => { results := [.lit (.bool true)], args := [d] }
  | _ => none }
def sideNobodyRow : OpenClaim := { program := "ytdmkhmejpgjioaa", sum := "9499697f7b3e04294374b0e10c4d76d294348b0a89894ad4f7fb22013cdba75e", func := "agio/agiolaw20.SideNobody", spec := "sideNobody", unfollowed := true, recurses := true, apart := false }
def SideNobodySaid : Prop := sideNobodyRow.holds Try.pinned (OpenSpec.ofChange sideNobodySpec)

/-- ITS FALSE NEIGHBOUR: 'it returns false'. Refute it at one input. -/
def sideNobodyWrong : ChangeSpec := { name := "sideNobody", fn := fun _ => fun
  | [d] => { results := [.lit (.bool false)], args := [d] }
  | _ => none }
def SideNobodyWrongFalsely : Prop := sideNobodyRow.holds Try.pinned (OpenSpec.ofChange sideNobodyWrong)

/-- 'agiolaw07.AlogReads': WHATEVER THE INPUT: true; the input reads as it did. -/
def alogReadsSpec : ChangeSpec := { name := "alogReads", fn := fun _ => fun
  | [d] => { results := [.lit (.bool true)], args := [d] }
  | _ => none }
def alogReadsRow : OpenClaim := { program := "ytdmkhmejpgjioaa", sum := "9499697f7b3e04294374b0e10c4d76d294348b0a89894ad4f7fb22013cdba75e", func := "agio/agiolaw07.AlogReads", spec := "alogReads", unfollowed := true, recurses := true, apart := false }
def AlogReadsSaid : Prop := alogReadsRow.holds Try.pinned (OpenSpec.ofChange alogReadsSpec)

/-- ITS FALSE NEIGHBOUR: 'it returns false'. Refute it at one input. -/
def alogReadsWrong : ChangeSpec := { name := "alogReads", fn := fun _ => fun
  | [d] => { results := [.lit (.bool false)], args := [d] }
  | _ => none }
def AlogReadsWrongFalsely : Prop := alogReadsRow.holds Try.pinned (OpenSpec.ofChange alogReadsWrong)

/-- 'agiolaw07.AlogLast': WHATEVER THE INPUT: true; the input reads as it did. -/
def alogLastSpec : ChangeSpec := { name := "alogLast", fn := fun _ => fun
  | [d1, d2, d3] => { results := [.lit (.bool true)], args := [d1, d2, d3] }
  | _ => none }
def alogLastRow : OpenClaim := { program := "ytdmkhmejpgjioaa", sum := "9499697f7b3e04294374b0e10c4d76d294348b0a89894ad4f7fb22013cdba75e", func := "agio/agiolaw07.AlogLast", spec := "alogLast", unfollowed := true, recurses := true, apart := false }
def AlogLastSaid : Prop := alogLastRow.holds Try.pinned (OpenSpec.ofChange alogLastSpec)

/-- ITS FALSE NEIGHBOUR: 'it returns false'. Refute it at one input. -/
def alogLastWrong : ChangeSpec := { name := "alogLast", fn := fun _ => fun
  | [d1, d2, d3] => { results := [.lit (.bool false)], args := [d1, d2, d3] }
  | _ => none }
def AlogLastWrongFalsely : Prop := alogLastRow.holds Try.pinned (OpenSpec.ofChange alogLastWrong)

/- THE SECOND FORM. 'bulk': how many values and letters a reading holds, each counted each time it is reached (what is shared counts as often as it is met; a slice's spare places count too). A statement '..UptoSaid' is the law's where the arguments, and the package variables that the reading takes, are together of bulk at most 1048576: NARROWER than '..Said'. Prove '..Said' where nothing that the law and all that it calls make is longer than what came in: it says more and counts as full. Else prove '..UptoSaid'. A law counts once. -/
mutual
def uptoBulk {H : Type} : DataW H → Nat
  | .lit (.string bytes) => bytes.length + 1
  | .lit _ => 1
  | .nil => 1
  | .ptr d => uptoBulk d + 1
  | .slice elems spare => uptoBulkAll elems + uptoBulkAll spare + 1
  | .agg parts => uptoBulkAll parts + 1
  | .iface _ d => uptoBulk d + 1
  | .map entries => uptoBulkEntries entries + 1
  | .held _ => 1
def uptoBulkAll {H : Type} : List (DataW H) → Nat
  | [] => 0
  | d :: r => uptoBulk d + uptoBulkAll r
def uptoBulkEntries {H : Type} : List (Lit × DataW H) → Nat
  | [] => 0
  | x :: r => uptoBulkEntry x + uptoBulkEntries r
def uptoBulkEntry {H : Type} : Lit × DataW H → Nat
  | (.string bytes, d) => bytes.length + uptoBulk d + 1
  | (_, d) => uptoBulk d + 1
 end
def uptoSmall : (H : Type) → List (DataW H) → Bool := fun _ ds => decide (uptoBulkAll ds ≤ 1048576)
def OpenSpec.upto (s : _root_.Go.ChangeSpec) : _root_.Go.OpenSpec := { _root_.Go.OpenSpec.ofChange s with cond := some uptoSmall }

/-- 'agiolaw07.AlogBack', WHERE WHAT IT READS IS OF BULK AT MOST 1048576: true; the input reads as it did. -/
def alogBackUptoRow : OpenClaim := { program := "ytdmkhmejpgjioaa", sum := "9499697f7b3e04294374b0e10c4d76d294348b0a89894ad4f7fb22013cdba75e", func := "agio/agiolaw07.AlogBack", spec := "alogBack", unfollowed := true, recurses := true, apart := false, narrowed := true }
def AlogBackUptoSaid : Prop := alogBackUptoRow.holds Try.pinned (OpenSpec.upto alogBackSpec)

/-- 'agiolaw07.AlogTorn', WHERE WHAT IT READS IS OF BULK AT MOST 1048576: true; the input reads as it did. -/
def alogTornUptoRow : OpenClaim := { program := "ytdmkhmejpgjioaa", sum := "9499697f7b3e04294374b0e10c4d76d294348b0a89894ad4f7fb22013cdba75e", func := "agio/agiolaw07.AlogTorn", spec := "alogTorn", unfollowed := true, recurses := true, apart := false, narrowed := true }
def AlogTornUptoSaid : Prop := alogTornUptoRow.holds Try.pinned (OpenSpec.upto alogTornSpec)

/-- 'agiolaw07.AlogAgain', WHERE WHAT IT READS IS OF BULK AT MOST 1048576: true; the input reads as it did. -/
def alogAgainUptoRow : OpenClaim := { program := "ytdmkhmejpgjioaa", sum := "9499697f7b3e04294374b0e10c4d76d294348b0a89894ad4f7fb22013cdba75e", func := "agio/agiolaw07.AlogAgain", spec := "alogAgain", unfollowed := true, recurses := true, apart := false, narrowed := true }
def AlogAgainUptoSaid : Prop := alogAgainUptoRow.holds Try.pinned (OpenSpec.upto alogAgainSpec)

/-- 'agiolaw13.NetBack', WHERE WHAT IT READS IS OF BULK AT MOST 1048576: true; the input reads as it did. -/
def netBackUptoRow : OpenClaim := { program := "ytdmkhmejpgjioaa", sum := "9499697f7b3e04294374b0e10c4d76d294348b0a89894ad4f7fb22013cdba75e", func := "agio/agiolaw13.NetBack", spec := "netBack", unfollowed := true, recurses := true, apart := false, narrowed := true }
def NetBackUptoSaid : Prop := netBackUptoRow.holds Try.pinned (OpenSpec.upto netBackSpec)

/-- 'agiolaw13.NetTurned', WHERE WHAT IT READS IS OF BULK AT MOST 1048576: true; the input reads as it did. -/
def netTurnedUptoRow : OpenClaim := { program := "ytdmkhmejpgjioaa", sum := "9499697f7b3e04294374b0e10c4d76d294348b0a89894ad4f7fb22013cdba75e", func := "agio/agiolaw13.NetTurned", spec := "netTurned", unfollowed := true, recurses := true, apart := false, narrowed := true }
def NetTurnedUptoSaid : Prop := netTurnedUptoRow.holds Try.pinned (OpenSpec.upto netTurnedSpec)

/-- 'agiolaw13.NetOnce', WHERE WHAT IT READS IS OF BULK AT MOST 1048576: true; the input reads as it did. -/
def netOnceUptoRow : OpenClaim := { program := "ytdmkhmejpgjioaa", sum := "9499697f7b3e04294374b0e10c4d76d294348b0a89894ad4f7fb22013cdba75e", func := "agio/agiolaw13.NetOnce", spec := "netOnce", unfollowed := true, recurses := true, apart := false, narrowed := true }
def NetOnceUptoSaid : Prop := netOnceUptoRow.holds Try.pinned (OpenSpec.upto netOnceSpec)

/-- 'agiolaw13.NetPlays', WHERE WHAT IT READS IS OF BULK AT MOST 1048576: true; the input reads as it did. -/
def netPlaysUptoRow : OpenClaim := { program := "ytdmkhmejpgjioaa", sum := "9499697f7b3e04294374b0e10c4d76d294348b0a89894ad4f7fb22013cdba75e", func := "agio/agiolaw13.NetPlays", spec := "netPlays", unfollowed := true, recurses := true, apart := false, narrowed := true }
def NetPlaysUptoSaid : Prop := netPlaysUptoRow.holds Try.pinned (OpenSpec.upto netPlaysSpec)

/-- 'agiolaw13.NetNobody', WHERE WHAT IT READS IS OF BULK AT MOST 1048576: true; the input reads as it did. -/
def netNobodyUptoRow : OpenClaim := { program := "ytdmkhmejpgjioaa", sum := "9499697f7b3e04294374b0e10c4d76d294348b0a89894ad4f7fb22013cdba75e", func := "agio/agiolaw13.NetNobody", spec := "netNobody", unfollowed := true, recurses := true, apart := false, narrowed := true }
def NetNobodyUptoSaid : Prop := netNobodyUptoRow.holds Try.pinned (OpenSpec.upto netNobodySpec)

/-- 'agiolaw20.SideRises', WHERE WHAT IT READS IS OF BULK AT MOST 1048576: true; the input reads as it did. -/
def sideRisesUptoRow : OpenClaim := { program := "ytdmkhmejpgjioaa", sum := "9499697f7b3e04294374b0e10c4d76d294348b0a89894ad4f7fb22013cdba75e", func := "agio/agiolaw20.SideRises", spec := "sideRises", unfollowed := true, recurses := true, apart := false, narrowed := true }
def SideRisesUptoSaid : Prop := sideRisesUptoRow.holds Try.pinned (OpenSpec.upto sideRisesSpec)

/-- 'agiolaw20.SideFails', WHERE WHAT IT READS IS OF BULK AT MOST 1048576: true; the input reads as it did. -/
def sideFailsUptoRow : OpenClaim := { program := "ytdmkhmejpgjioaa", sum := "9499697f7b3e04294374b0e10c4d76d294348b0a89894ad4f7fb22013cdba75e", func := "agio/agiolaw20.SideFails", spec := "sideFails", unfollowed := true, recurses := true, apart := false, narrowed := true }
def SideFailsUptoSaid : Prop := sideFailsUptoRow.holds Try.pinned (OpenSpec.upto sideFailsSpec)

/-- 'agiolaw20.SideSums', WHERE WHAT IT READS IS OF BULK AT MOST 1048576: true; the input reads as it did. -/
def sideSumsUptoRow : OpenClaim := { program := "ytdmkhmejpgjioaa", sum := "9499697f7b3e04294374b0e10c4d76d294348b0a89894ad4f7fb22013cdba75e", func := "agio/agiolaw20.SideSums", spec := "sideSums", unfollowed := true, recurses := true, apart := false, narrowed := true }
def SideSumsUptoSaid : Prop := sideSumsUptoRow.holds Try.pinned (OpenSpec.upto sideSumsSpec)

/-- 'agiolaw20.SideKeeps', WHERE WHAT IT READS IS OF BULK AT MOST 1048576: true; the input reads as it did. -/
def sideKeepsUptoRow : OpenClaim := { program := "ytdmkhmejpgjioaa", sum := "9499697f7b3e04294374b0e10c4d76d294348b0a89894ad4f7fb22013cdba75e", func := "agio/agiolaw20.SideKeeps", spec := "sideKeeps", unfollowed := true, recurses := true, apart := false, narrowed := true }
def SideKeepsUptoSaid : Prop := sideKeepsUptoRow.holds Try.pinned (OpenSpec.upto sideKeepsSpec)

/-- 'agiolaw20.SidePlays', WHERE WHAT IT READS IS OF BULK AT MOST 1048576: true; the input reads as it did. -/
def sidePlaysUptoRow : OpenClaim := { program := "ytdmkhmejpgjioaa", sum := "9499697f7b3e04294374b0e10c4d76d294348b0a89894ad4f7fb22013cdba75e", func := "agio/agiolaw20.SidePlays", spec := "sidePlays", unfollowed := true, recurses := true, apart := false, narrowed := true }
def SidePlaysUptoSaid : Prop := sidePlaysUptoRow.holds Try.pinned (OpenSpec.upto sidePlaysSpec)

/-- 'agiolaw20.SideNobody', WHERE WHAT IT READS IS OF BULK AT MOST 1048576: true; the input reads as it did. -/
def sideNobodyUptoRow : OpenClaim := { program := "ytdmkhmejpgjioaa", sum := "9499697f7b3e04294374b0e10c4d76d294348b0a89894ad4f7fb22013cdba75e", func := "agio/agiolaw20.SideNobody", spec := "sideNobody", unfollowed := true, recurses := true, apart := false, narrowed := true }
def SideNobodyUptoSaid : Prop := sideNobodyUptoRow.holds Try.pinned (OpenSpec.upto sideNobodySpec)

/-- 'agiolaw07.AlogReads', WHERE WHAT IT READS IS OF BULK AT MOST 1048576: true; the input reads as it did. -/
def alogReadsUptoRow : OpenClaim := { program := "ytdmkhmejpgjioaa", sum := "9499697f7b3e04294374b0e10c4d76d294348b0a89894ad4f7fb22013cdba75e", func := "agio/agiolaw07.AlogReads", spec := "alogReads", unfollowed := true, recurses := true, apart := false, narrowed := true }
def AlogReadsUptoSaid : Prop := alogReadsUptoRow.holds Try.pinned (OpenSpec.upto alogReadsSpec)

/-- 'agiolaw07.AlogLast', WHERE WHAT IT READS IS OF BULK AT MOST 1048576: true; the input reads as it did. -/
def alogLastUptoRow : OpenClaim := { program := "ytdmkhmejpgjioaa", sum := "9499697f7b3e04294374b0e10c4d76d294348b0a89894ad4f7fb22013cdba75e", func := "agio/agiolaw07.AlogLast", spec := "alogLast", unfollowed := true, recurses := true, apart := false, narrowed := true }
def AlogLastUptoSaid : Prop := alogLastUptoRow.holds Try.pinned (OpenSpec.upto alogLastSpec)

end Rows
end Go.Proofs.Ytdmkhmejpgjioaa
