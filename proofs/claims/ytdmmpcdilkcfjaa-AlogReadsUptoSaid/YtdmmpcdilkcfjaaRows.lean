/-
  No cell of these rows narrows 'for every input' (looked for: loops, veiled, ifaces, maps, wideKeys, modest, calm, conditions, laid).
  DERIVED. THE GIVEN ROWS OF THIS SEAT. 4 by the template 'for every input the law returns true; each argument reads behind the call as it read before'; 0 by the template 'total and deterministic' (their statements: YtdmmpcdilkcfjaaTotals.lean).
  GIVEN WITH THE SEED: the statements are not yours to turn. If you find one false, say at which input.
  Laid BY PROGRAM, IN A SANDBOX (cutbox-rows.mjs): the forced cells as the released guide's own fill.sh prints them over the translation 39ac0abec1a97664… (all of the seat's roots in one cut). By AI agents, Wed Nov 11 2026. No macro, syntax, notation, axiom, sorry.
-/
import Derived.Test.YtdmmpcdilkcfjaaChecked
import GoSem.Claim
import GoSem.ClaimJoined
import GoSem.ClaimMapViews
import Derived.JoinedTies
import Derived.KernelRfl
namespace Go.Proofs.Ytdmmpcdilkcfjaa
/- THE CELL 'sum', in the pinned program and in every row, IS THE sha256 OF THE DUMP (.gsa) THAT YtdmmpcdilkcfjaaProg.lean LOADS. Nothing in Lean hashes anything: it is a label: what it is worth is what the hold of that sum in a sandbox is worth. -/
noncomputable def Try.pinned : Pinned := { name := "ytdmmpcdilkcfjaa", sum := "39ac0abec1a97664f3f5272b539a146c8e36cdbc91df32bc9443015c0aa2fb47", checked := Try.checked }
namespace Rows
def none {H : Type} : Left H := { results := [], args := [] }

/-- 'agiolaw20.SideKeeps': WHATEVER THE INPUT: true; the input reads as it did. -/
def sideKeepsSpec : ChangeSpec := { name := "sideKeeps", fn := fun _ => fun
  | [d1, d2, d3, d4] => { results := [.lit (.bool true)], args := [d1, d2, d3, d4] }
  | _ => none }
def sideKeepsRow : OpenClaim := { program := "ytdmmpcdilkcfjaa", sum := "39ac0abec1a97664f3f5272b539a146c8e36cdbc91df32bc9443015c0aa2fb47", func := "agio/agiolaw20.SideKeeps", spec := "sideKeeps", unfollowed := true, recurses := true, apart := false }
def SideKeepsSaid : Prop := sideKeepsRow.holds Try.pinned (OpenSpec.ofChange sideKeepsSpec)

/-- ITS FALSE NEIGHBOUR: 'it returns false'. Refute it at one input. -/
def sideKeepsWrong : ChangeSpec := { name := "sideKeeps", fn := fun _ => fun
  | [d1, d2, d3, d4] => { results := [.lit (.bool false)], args := [d1, d2, d3, d4] }
  | _ => none }
def SideKeepsWrongFalsely : Prop := sideKeepsRow.holds Try.pinned (OpenSpec.ofChange sideKeepsWrong)

/-- 'agiolaw20.SidePlays': WHATEVER THE INPUT: true; the input reads as it did. -/
def sidePlaysSpec : ChangeSpec := { name := "sidePlays", fn := fun _ => fun
  | [d1, d2] => { results := [.lit (.bool true)], args := [d1, d2] }
  | _ => none }
def sidePlaysRow : OpenClaim := { program := "ytdmmpcdilkcfjaa", sum := "39ac0abec1a97664f3f5272b539a146c8e36cdbc91df32bc9443015c0aa2fb47", func := "agio/agiolaw20.SidePlays", spec := "sidePlays", unfollowed := true, recurses := true, apart := false }
def SidePlaysSaid : Prop := sidePlaysRow.holds Try.pinned (OpenSpec.ofChange sidePlaysSpec)

/-- ITS FALSE NEIGHBOUR: 'it returns false'. Refute it at one input. -/
def sidePlaysWrong : ChangeSpec := { name := "sidePlays", fn := fun _ => fun
  | [d1, d2] => { results := [.lit (.bool false)], args := [d1, d2] }
  | _ => none }
def SidePlaysWrongFalsely : Prop := sidePlaysRow.holds Try.pinned (OpenSpec.ofChange sidePlaysWrong)

/-- 'agiolaw07.AlogReads': WHATEVER THE INPUT: true; the input reads as it did. -/
def alogReadsSpec : ChangeSpec := { name := "alogReads", fn := fun _ => fun
  | [d] => { results := [.lit (.bool true)], args := [d] }
  | _ => none }
def alogReadsRow : OpenClaim := { program := "ytdmmpcdilkcfjaa", sum := "39ac0abec1a97664f3f5272b539a146c8e36cdbc91df32bc9443015c0aa2fb47", func := "agio/agiolaw07.AlogReads", spec := "alogReads", unfollowed := true, recurses := true, apart := false }
def AlogReadsSaid : Prop := alogReadsRow.holds Try.pinned (OpenSpec.ofChange alogReadsSpec)

/-- ITS FALSE NEIGHBOUR: 'it returns false'. Refute it at one input. -/
def alogReadsWrong : ChangeSpec := { name := "alogReads", fn := fun _ => fun
  | [d] => { results := [.lit (.bool false)], args := [d] }
  | _ => none }
def AlogReadsWrongFalsely : Prop := alogReadsRow.holds Try.pinned (OpenSpec.ofChange alogReadsWrong)

/-- 'agiolaw07.AlogLast': WHATEVER THE INPUT: true; the input reads as it did. -/
def alogLastSpec : ChangeSpec := { name := "alogLast", fn := fun _ => fun
  | [d1, d2, d3] => { results := [.lit (.bool true)], args := [d1, d2, d3] }
  | _ => none }
def alogLastRow : OpenClaim := { program := "ytdmmpcdilkcfjaa", sum := "39ac0abec1a97664f3f5272b539a146c8e36cdbc91df32bc9443015c0aa2fb47", func := "agio/agiolaw07.AlogLast", spec := "alogLast", unfollowed := true, recurses := true, apart := false }
def AlogLastSaid : Prop := alogLastRow.holds Try.pinned (OpenSpec.ofChange alogLastSpec)

/-- ITS FALSE NEIGHBOUR: 'it returns false'. Refute it at one input. -/
def alogLastWrong : ChangeSpec := { name := "alogLast", fn := fun _ => fun
  | [d1, d2, d3] => { results := [.lit (.bool false)], args := [d1, d2, d3] }
  | _ => none }
def AlogLastWrongFalsely : Prop := alogLastRow.holds Try.pinned (OpenSpec.ofChange alogLastWrong)

/- THE SECOND FORM. 'bulk': how many values and letters a reading holds, each counted each time it is reached (what is shared counts as often as it is met; a slice's spare places count too). A statement '..UptoSaid' is the law's where the arguments, and the package variables that the reading takes, are together of bulk at most 1048576: NARROWER than '..Said'. Prove '..Said' where nothing that the law and all that it calls make is longer than what came in: it says more and counts as full. Else prove '..UptoSaid'. A law counts once. -/
mutual
def uptoBulk {H : Type} : DataW H → Nat
  | .lit (.string bytes) => bytes.length + 1
  | .lit _ => 1
  | .nil => 1
  | .ptr d => uptoBulk d + 1
  | .slice elems spare => uptoBulkAll elems + uptoBulkAll spare + 1
  | .agg parts => uptoBulkAll parts + 1
  | .iface _ d => uptoBulk d + 1
  | .map entries => uptoBulkEntries entries + 1
  | .held _ => 1
def uptoBulkAll {H : Type} : List (DataW H) → Nat
  | [] => 0
  | d :: r => uptoBulk d + uptoBulkAll r
def uptoBulkEntries {H : Type} : List (Lit × DataW H) → Nat
  | [] => 0
  | x :: r => uptoBulkEntry x + uptoBulkEntries r
def uptoBulkEntry {H : Type} : Lit × DataW H → Nat
  | (.string bytes, d) => bytes.length + uptoBulk d + 1
  | (_, d) => uptoBulk d + 1
 end
def uptoSmall : (H : Type) → List (DataW H) → Bool := fun _ ds => decide (uptoBulkAll ds ≤ 1048576)
def OpenSpec.upto (s : _root_.Go.ChangeSpec) : _root_.Go.OpenSpec := { _root_.Go.OpenSpec.ofChange s with cond := some uptoSmall }

/-- 'agiolaw20.SideKeeps', WHERE WHAT IT READS IS OF BULK AT MOST 1048576: true; the input reads as it did. -/
def sideKeepsUptoRow : OpenClaim := { program := "ytdmmpcdilkcfjaa", sum := "39ac0abec1a97664f3f5272b539a146c8e36cdbc91df32bc9443015c0aa2fb47", func := "agio/agiolaw20.SideKeeps", spec := "sideKeeps", unfollowed := true, recurses := true, apart := false, narrowed := true }
def SideKeepsUptoSaid : Prop := sideKeepsUptoRow.holds Try.pinned (OpenSpec.upto sideKeepsSpec)

/-- 'agiolaw20.SidePlays', WHERE WHAT IT READS IS OF BULK AT MOST 1048576: true; the input reads as it did. -/
def sidePlaysUptoRow : OpenClaim := { program := "ytdmmpcdilkcfjaa", sum := "39ac0abec1a97664f3f5272b539a146c8e36cdbc91df32bc9443015c0aa2fb47", func := "agio/agiolaw20.SidePlays", spec := "sidePlays", unfollowed := true, recurses := true, apart := false, narrowed := true }
def SidePlaysUptoSaid : Prop := sidePlaysUptoRow.holds Try.pinned (OpenSpec.upto sidePlaysSpec)

/-- 'agiolaw07.AlogReads', WHERE WHAT IT READS IS OF BULK AT MOST 1048576: true; the input reads as it did. -/
def alogReadsUptoRow : OpenClaim := { program := "ytdmmpcdilkcfjaa", sum := "39ac0abec1a97664f3f5272b539a146c8e36cdbc91df32bc9443015c0aa2fb47", func := "agio/agiolaw07.AlogReads", spec := "alogReads", unfollowed := true, recurses := true, apart := false, narrowed := true }
def AlogReadsUptoSaid : Prop := alogReadsUptoRow.holds Try.pinned (OpenSpec.upto alogReadsSpec)

/-- 'agiolaw07.AlogLast', WHERE WHAT IT READS IS OF BULK AT MOST 1048576: true; the input reads as it did. -/
def alogLastUptoRow : OpenClaim := { program := "ytdmmpcdilkcfjaa", sum := "39ac0abec1a97664f3f5272b539a146c8e36cdbc91df32bc9443015c0aa2fb47", func := "agio/agiolaw07.AlogLast", spec := "alogLast", unfollowed := true, recurses := true, apart := false, narrowed := true }
def AlogLastUptoSaid : Prop := alogLastUptoRow.holds Try.pinned (OpenSpec.upto alogLastSpec)

end Rows
end Go.Proofs.Ytdmmpcdilkcfjaa
