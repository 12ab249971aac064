/-
  No cell of these rows narrows 'for every input' (looked for: loops, veiled, ifaces, maps, wideKeys, modest, calm, conditions, laid).
  DERIVED. THE GIVEN ROWS OF THIS SEAT. 11 by the template 'for every input the law returns true; each argument reads behind the call as it read before'; 0 by the template 'total and deterministic' (their statements: YtijhlbeipglieaaGreatTotals.lean).
  GIVEN WITH THE SEED: the statements are not yours to turn. If you find one false, say at which input.
  Laid BY PROGRAM, IN A SANDBOX (cutbox-rows.mjs): the forced cells as the released guide's own fill.sh prints them over the translation fa379a0c5e43c380… (all of the seat's roots in one cut). By AI agents, Wed Nov 11 2026. No macro, syntax, notation, axiom, sorry.
-/
import Derived.Test.YtijhlbeipglieaaGreatChecked
import GoSem.Claim
import GoSem.ClaimJoined
import GoSem.ClaimMapViews
import Derived.JoinedTies
import Derived.KernelRfl
namespace Go.Proofs.YtijhlbeipglieaaGreat
/- THE CELL 'sum', in the pinned program and in every row, IS THE sha256 OF THE DUMP (.gsa) THAT YtijhlbeipglieaaGreatProg.lean LOADS. Nothing in Lean hashes anything: it is a label: what it is worth is what the hold of that sum in a sandbox is worth. -/
noncomputable def Tryz.pinned : Pinned := { name := "ytijhlbeipglieaagreat", sum := "fa379a0c5e43c38029bdd3a662c16c955a9872a373bba248b5056a30dc5eb1ee", checked := Tryz.checked }
namespace Rows
def none {H : Type} : Left H := { results := [], args := [] }

/-- 'agiolaw23.SiteKeeps': WHATEVER THE INPUT: true; the input reads as it did. -/
def siteKeepsSpec : ChangeSpec := { name := "siteKeeps", fn := fun _ => fun
  | [d1, d2, d3] => { results := [.lit (.bool true)], args := [d1, d2, d3] }
  | _ => none }
def siteKeepsRow : OpenClaim := { program := "ytijhlbeipglieaagreat", sum := "fa379a0c5e43c38029bdd3a662c16c955a9872a373bba248b5056a30dc5eb1ee", func := "agio/agiolaw23.SiteKeeps", spec := "siteKeeps", unfollowed := true, recurses := true, apart := false }
def SiteKeepsSaid : Prop := siteKeepsRow.holds Tryz.pinned (OpenSpec.ofChange siteKeepsSpec)

/-- ITS FALSE NEIGHBOUR: 'it returns false'. Refute it at one input. -/
def siteKeepsWrong : ChangeSpec := { name := "siteKeeps", fn := fun _ => fun
  | [d1, d2, d3] => { results := [.lit (.bool false)], args := [d1, d2, d3] }
  | _ => none }
def SiteKeepsWrongFalsely : Prop := siteKeepsRow.holds Tryz.pinned (OpenSpec.ofChange siteKeepsWrong)

/-- 'agiolaw23.SiteWaits': WHATEVER THE INPUT: true; the input reads as it did. -/
def siteWaitsSpec : ChangeSpec := { name := "siteWaits", fn := fun _ => fun
  | [d1, d2, d3] => { results := [.lit (.bool true)], args := [d1, d2, d3] }
  | _ => none }
def siteWaitsRow : OpenClaim := { program := "ytijhlbeipglieaagreat", sum := "fa379a0c5e43c38029bdd3a662c16c955a9872a373bba248b5056a30dc5eb1ee", func := "agio/agiolaw23.SiteWaits", spec := "siteWaits", unfollowed := true, recurses := true, apart := false }
def SiteWaitsSaid : Prop := siteWaitsRow.holds Tryz.pinned (OpenSpec.ofChange siteWaitsSpec)

/-- ITS FALSE NEIGHBOUR: 'it returns false'. Refute it at one input. -/
def siteWaitsWrong : ChangeSpec := { name := "siteWaits", fn := fun _ => fun
  | [d1, d2, d3] => { results := [.lit (.bool false)], args := [d1, d2, d3] }
  | _ => none }
def SiteWaitsWrongFalsely : Prop := siteWaitsRow.holds Tryz.pinned (OpenSpec.ofChange siteWaitsWrong)

/-- 'agiolaw23.SitePlays': WHATEVER THE INPUT: true; the input reads as it did. -/
def sitePlaysSpec : ChangeSpec := { name := "sitePlays", fn := fun _ => fun
  | [d1, d2] => { results := [.lit (.bool true)], args := [d1, d2] }
  | _ => none }
def sitePlaysRow : OpenClaim := { program := "ytijhlbeipglieaagreat", sum := "fa379a0c5e43c38029bdd3a662c16c955a9872a373bba248b5056a30dc5eb1ee", func := "agio/agiolaw23.SitePlays", spec := "sitePlays", unfollowed := true, recurses := true, apart := false }
def SitePlaysSaid : Prop := sitePlaysRow.holds Tryz.pinned (OpenSpec.ofChange sitePlaysSpec)

/-- ITS FALSE NEIGHBOUR: 'it returns false'. Refute it at one input. -/
def sitePlaysWrong : ChangeSpec := { name := "sitePlays", fn := fun _ => fun
  | [d1, d2] => { results := [.lit (.bool false)], args := [d1, d2] }
  | _ => none }
def SitePlaysWrongFalsely : Prop := sitePlaysRow.holds Tryz.pinned (OpenSpec.ofChange sitePlaysWrong)

/-- 'agiolaw23.SiteNobody': WHATEVER THE INPUT: true; the input reads as it did. -/
def siteNobodySpec : ChangeSpec := { name := "siteNobody", fn := fun _ => fun
  | [d1, d2] => { results := [.lit (.bool true)], args := [d1, d2] }
  | _ => none }
def siteNobodyRow : OpenClaim := { program := "ytijhlbeipglieaagreat", sum := "fa379a0c5e43c38029bdd3a662c16c955a9872a373bba248b5056a30dc5eb1ee", func := "agio/agiolaw23.SiteNobody", spec := "siteNobody", unfollowed := true, recurses := true, apart := false }
def SiteNobodySaid : Prop := siteNobodyRow.holds Tryz.pinned (OpenSpec.ofChange siteNobodySpec)

/-- ITS FALSE NEIGHBOUR: 'it returns false'. Refute it at one input. -/
def siteNobodyWrong : ChangeSpec := { name := "siteNobody", fn := fun _ => fun
  | [d1, d2] => { results := [.lit (.bool false)], args := [d1, d2] }
  | _ => none }
def SiteNobodyWrongFalsely : Prop := siteNobodyRow.holds Tryz.pinned (OpenSpec.ofChange siteNobodyWrong)

/-- 'agiolaw24.WorldOrder': WHATEVER THE INPUT: true; the input reads as it did. -/
def worldOrderSpec : ChangeSpec := { name := "worldOrder", fn := fun _ => fun
  | [d1, d2] => { results := [.lit (.bool true)], args := [d1, d2] }
  | _ => none }
def worldOrderRow : OpenClaim := { program := "ytijhlbeipglieaagreat", sum := "fa379a0c5e43c38029bdd3a662c16c955a9872a373bba248b5056a30dc5eb1ee", func := "agio/agiolaw24.WorldOrder", spec := "worldOrder", unfollowed := true, recurses := true, apart := false }
def WorldOrderSaid : Prop := worldOrderRow.holds Tryz.pinned (OpenSpec.ofChange worldOrderSpec)

/-- ITS FALSE NEIGHBOUR: 'it returns false'. Refute it at one input. -/
def worldOrderWrong : ChangeSpec := { name := "worldOrder", fn := fun _ => fun
  | [d1, d2] => { results := [.lit (.bool false)], args := [d1, d2] }
  | _ => none }
def WorldOrderWrongFalsely : Prop := worldOrderRow.holds Tryz.pinned (OpenSpec.ofChange worldOrderWrong)

/-- 'agiolaw24.WorldOnce': WHATEVER THE INPUT: true; the input reads as it did. -/
def worldOnceSpec : ChangeSpec := { name := "worldOnce", fn := fun _ => fun
  | [d1, d2] => { results := [.lit (.bool true)], args := [d1, d2] }
  | _ => none }
def worldOnceRow : OpenClaim := { program := "ytijhlbeipglieaagreat", sum := "fa379a0c5e43c38029bdd3a662c16c955a9872a373bba248b5056a30dc5eb1ee", func := "agio/agiolaw24.WorldOnce", spec := "worldOnce", unfollowed := true, recurses := true, apart := false }
def WorldOnceSaid : Prop := worldOnceRow.holds Tryz.pinned (OpenSpec.ofChange worldOnceSpec)

/-- ITS FALSE NEIGHBOUR: 'it returns false'. Refute it at one input. -/
def worldOnceWrong : ChangeSpec := { name := "worldOnce", fn := fun _ => fun
  | [d1, d2] => { results := [.lit (.bool false)], args := [d1, d2] }
  | _ => none }
def WorldOnceWrongFalsely : Prop := worldOnceRow.holds Tryz.pinned (OpenSpec.ofChange worldOnceWrong)

/-- 'agiolaw24.WorldCalm': WHATEVER THE INPUT: true; the input reads as it did. -/
def worldCalmSpec : ChangeSpec := { name := "worldCalm", fn := fun _ => fun
  | [d1, d2] => { results := [.lit (.bool true)], args := [d1, d2] }
  | _ => none }
def worldCalmRow : OpenClaim := { program := "ytijhlbeipglieaagreat", sum := "fa379a0c5e43c38029bdd3a662c16c955a9872a373bba248b5056a30dc5eb1ee", func := "agio/agiolaw24.WorldCalm", spec := "worldCalm", unfollowed := true, recurses := true, apart := false }
def WorldCalmSaid : Prop := worldCalmRow.holds Tryz.pinned (OpenSpec.ofChange worldCalmSpec)

/-- ITS FALSE NEIGHBOUR: 'it returns false'. Refute it at one input. -/
def worldCalmWrong : ChangeSpec := { name := "worldCalm", fn := fun _ => fun
  | [d1, d2] => { results := [.lit (.bool false)], args := [d1, d2] }
  | _ => none }
def WorldCalmWrongFalsely : Prop := worldCalmRow.holds Tryz.pinned (OpenSpec.ofChange worldCalmWrong)

/-- 'agiolaw24.WorldKeeps': WHATEVER THE INPUT: true; the input reads as it did. -/
def worldKeepsSpec : ChangeSpec := { name := "worldKeeps", fn := fun _ => fun
  | [d1, d2, d3] => { results := [.lit (.bool true)], args := [d1, d2, d3] }
  | _ => none }
def worldKeepsRow : OpenClaim := { program := "ytijhlbeipglieaagreat", sum := "fa379a0c5e43c38029bdd3a662c16c955a9872a373bba248b5056a30dc5eb1ee", func := "agio/agiolaw24.WorldKeeps", spec := "worldKeeps", unfollowed := true, recurses := true, apart := false }
def WorldKeepsSaid : Prop := worldKeepsRow.holds Tryz.pinned (OpenSpec.ofChange worldKeepsSpec)

/-- ITS FALSE NEIGHBOUR: 'it returns false'. Refute it at one input. -/
def worldKeepsWrong : ChangeSpec := { name := "worldKeeps", fn := fun _ => fun
  | [d1, d2, d3] => { results := [.lit (.bool false)], args := [d1, d2, d3] }
  | _ => none }
def WorldKeepsWrongFalsely : Prop := worldKeepsRow.holds Tryz.pinned (OpenSpec.ofChange worldKeepsWrong)

/-- 'agiolaw24.WorldAgrees': WHATEVER THE INPUT: true; the input reads as it did. -/
def worldAgreesSpec : ChangeSpec := { name := "worldAgrees", fn := fun _ => fun
  | [d1, d2] => { results := [.lit (.bool true)], args := [d1, d2] }
  | _ => none }
def worldAgreesRow : OpenClaim := { program := "ytijhlbeipglieaagreat", sum := "fa379a0c5e43c38029bdd3a662c16c955a9872a373bba248b5056a30dc5eb1ee", func := "agio/agiolaw24.WorldAgrees", spec := "worldAgrees", unfollowed := true, recurses := true, apart := false }
def WorldAgreesSaid : Prop := worldAgreesRow.holds Tryz.pinned (OpenSpec.ofChange worldAgreesSpec)

/-- ITS FALSE NEIGHBOUR: 'it returns false'. Refute it at one input. -/
def worldAgreesWrong : ChangeSpec := { name := "worldAgrees", fn := fun _ => fun
  | [d1, d2] => { results := [.lit (.bool false)], args := [d1, d2] }
  | _ => none }
def WorldAgreesWrongFalsely : Prop := worldAgreesRow.holds Tryz.pinned (OpenSpec.ofChange worldAgreesWrong)

/-- 'agiolaw24.WorldPlays': WHATEVER THE INPUT: true; the input reads as it did. -/
def worldPlaysSpec : ChangeSpec := { name := "worldPlays", fn := fun _ => fun
  | [d1, d2, d3] => { results := [.lit (.bool true)], args := [d1, d2, d3] }
  | _ => none }
def worldPlaysRow : OpenClaim := { program := "ytijhlbeipglieaagreat", sum := "fa379a0c5e43c38029bdd3a662c16c955a9872a373bba248b5056a30dc5eb1ee", func := "agio/agiolaw24.WorldPlays", spec := "worldPlays", unfollowed := true, recurses := true, apart := false }
def WorldPlaysSaid : Prop := worldPlaysRow.holds Tryz.pinned (OpenSpec.ofChange worldPlaysSpec)

/-- ITS FALSE NEIGHBOUR: 'it returns false'. Refute it at one input. -/
def worldPlaysWrong : ChangeSpec := { name := "worldPlays", fn := fun _ => fun
  | [d1, d2, d3] => { results := [.lit (.bool false)], args := [d1, d2, d3] }
  | _ => none }
def WorldPlaysWrongFalsely : Prop := worldPlaysRow.holds Tryz.pinned (OpenSpec.ofChange worldPlaysWrong)

/-- 'agiolaw24.WorldNobody': WHATEVER THE INPUT: true; the input reads as it did. -/
def worldNobodySpec : ChangeSpec := { name := "worldNobody", fn := fun _ => fun
  | [d1, d2] => { results := [.lit (.bool true)], args := [d1, d2] }
  | _ => none }
def worldNobodyRow : OpenClaim := { program := "ytijhlbeipglieaagreat", sum := "fa379a0c5e43c38029bdd3a662c16c955a9872a373bba248b5056a30dc5eb1ee", func := "agio/agiolaw24.WorldNobody", spec := "worldNobody", unfollowed := true, recurses := true, apart := false }
def WorldNobodySaid : Prop := worldNobodyRow.holds Tryz.pinned (OpenSpec.ofChange worldNobodySpec)

/-- ITS FALSE NEIGHBOUR: 'it returns false'. Refute it at one input. -/
def worldNobodyWrong : ChangeSpec := { name := "worldNobody", fn := fun _ => fun
  | [d1, d2] => { results := [.lit (.bool false)], args := [d1, d2] }
  | _ => none }
def WorldNobodyWrongFalsely : Prop := worldNobodyRow.holds Tryz.pinned (OpenSpec.ofChange worldNobodyWrong)

/- THE SECOND FORM. 'bulk': how many values and letters a reading holds, each counted each time it is reached (what is shared counts as often as it is met; a slice's spare places count too). A statement '..UptoSaid' is the law's where the arguments, and the package variables that the reading takes, are together of bulk at most 1048576: NARROWER than '..Said'. Prove '..Said' where nothing that the law and all that it calls make is longer than what came in: it says more and counts as full. Else prove '..UptoSaid'. A law counts once. -/
mutual
def uptoBulk {H : Type} : DataW H → Nat
  | .lit (.string bytes) => bytes.length + 1
  | .lit _ => 1
  | .nil => 1
  | .ptr d => uptoBulk d + 1
  | .slice elems spare => uptoBulkAll elems + uptoBulkAll spare + 1
  | .agg parts => uptoBulkAll parts + 1
  | .iface _ d => uptoBulk d + 1
  | .map entries => uptoBulkEntries entries + 1
  | .held _ => 1
def uptoBulkAll {H : Type} : List (DataW H) → Nat
  | [] => 0
  | d :: r => uptoBulk d + uptoBulkAll r
def uptoBulkEntries {H : Type} : List (Lit × DataW H) → Nat
  | [] => 0
  | x :: r => uptoBulkEntry x + uptoBulkEntries r
def uptoBulkEntry {H : Type} : Lit × DataW H → Nat
  | (.string bytes, d) => bytes.length + uptoBulk d + 1
  | (_, d) => uptoBulk d + 1
 end
def uptoSmall : (H : Type) → List (DataW H) → Bool := fun _ ds => decide (uptoBulkAll ds ≤ 1048576)
def OpenSpec.upto (s : _root_.Go.ChangeSpec) : _root_.Go.OpenSpec := { _root_.Go.OpenSpec.ofChange s with cond := some uptoSmall }

/-- 'agiolaw23.SiteKeeps', WHERE WHAT IT READS IS OF BULK AT MOST 1048576: true; the input reads as it did. -/
def siteKeepsUptoRow : OpenClaim := { program := "ytijhlbeipglieaagreat", sum := "fa379a0c5e43c38029bdd3a662c16c955a9872a373bba248b5056a30dc5eb1ee", func := "agio/agiolaw23.SiteKeeps", spec := "siteKeeps", unfollowed := true, recurses := true, apart := false, narrowed := true }
def SiteKeepsUptoSaid : Prop := siteKeepsUptoRow.holds Tryz.pinned (OpenSpec.upto siteKeepsSpec)

/-- 'agiolaw23.SiteWaits', WHERE WHAT IT READS IS OF BULK AT MOST 1048576: true; the input reads as it did. -/
def siteWaitsUptoRow : OpenClaim := { program := "ytijhlbeipglieaagreat", sum := "fa379a0c5e43c38029bdd3a662c16c955a9872a373bba248b5056a30dc5eb1ee", func := "agio/agiolaw23.SiteWaits", spec := "siteWaits", unfollowed := true, recurses := true, apart := false, narrowed := true }
def SiteWaitsUptoSaid : Prop := siteWaitsUptoRow.holds Tryz.pinned (OpenSpec.upto siteWaitsSpec)

/-- 'agiolaw23.SitePlays', WHERE WHAT IT READS IS OF BULK AT MOST 1048576: true; the input reads as it did. -/
def sitePlaysUptoRow : OpenClaim := { program := "ytijhlbeipglieaagreat", sum := "fa379a0c5e43c38029bdd3a662c16c955a9872a373bba248b5056a30dc5eb1ee", func := "agio/agiolaw23.SitePlays", spec := "sitePlays", unfollowed := true, recurses := true, apart := false, narrowed := true }
def SitePlaysUptoSaid : Prop := sitePlaysUptoRow.holds Tryz.pinned (OpenSpec.upto sitePlaysSpec)

/-- 'agiolaw23.SiteNobody', WHERE WHAT IT READS IS OF BULK AT MOST 1048576: true; the input reads as it did. -/
def siteNobodyUptoRow : OpenClaim := { program := "ytijhlbeipglieaagreat", sum := "fa379a0c5e43c38029bdd3a662c16c955a9872a373bba248b5056a30dc5eb1ee", func := "agio/agiolaw23.SiteNobody", spec := "siteNobody", unfollowed := true, recurses := true, apart := false, narrowed := true }
def SiteNobodyUptoSaid : Prop := siteNobodyUptoRow.holds Tryz.pinned (OpenSpec.upto siteNobodySpec)

/-- 'agiolaw24.WorldOrder', WHERE WHAT IT READS IS OF BULK AT MOST 1048576: true; the input reads as it did. -/
def worldOrderUptoRow : OpenClaim := { program := "ytijhlbeipglieaagreat", sum := "fa379a0c5e43c38029bdd3a662c16c955a9872a373bba248b5056a30dc5eb1ee", func := "agio/agiolaw24.WorldOrder", spec := "worldOrder", unfollowed := true, recurses := true, apart := false, narrowed := true }
def WorldOrderUptoSaid : Prop := worldOrderUptoRow.holds Tryz.pinned (OpenSpec.upto worldOrderSpec)

/-- 'agiolaw24.WorldOnce', WHERE WHAT IT READS IS OF BULK AT MOST 1048576: true; the input reads as it did. -/
def worldOnceUptoRow : OpenClaim := { program := "ytijhlbeipglieaagreat", sum := "fa379a0c5e43c38029bdd3a662c16c955a9872a373bba248b5056a30dc5eb1ee", func := "agio/agiolaw24.WorldOnce", spec := "worldOnce", unfollowed := true, recurses := true, apart := false, narrowed := true }
def WorldOnceUptoSaid : Prop := worldOnceUptoRow.holds Tryz.pinned (OpenSpec.upto worldOnceSpec)

/-- 'agiolaw24.WorldCalm', WHERE WHAT IT READS IS OF BULK AT MOST 1048576: true; the input reads as it did. -/
def worldCalmUptoRow : OpenClaim := { program := "ytijhlbeipglieaagreat", sum := "fa379a0c5e43c38029bdd3a662c16c955a9872a373bba248b5056a30dc5eb1ee", func := "agio/agiolaw24.WorldCalm", spec := "worldCalm", unfollowed := true, recurses := true, apart := false, narrowed := true }
def WorldCalmUptoSaid : Prop := worldCalmUptoRow.holds Tryz.pinned (OpenSpec.upto worldCalmSpec)

/-- 'agiolaw24.WorldKeeps', WHERE WHAT IT READS IS OF BULK AT MOST 1048576: true; the input reads as it did. -/
def worldKeepsUptoRow : OpenClaim := { program := "ytijhlbeipglieaagreat", sum := "fa379a0c5e43c38029bdd3a662c16c955a9872a373bba248b5056a30dc5eb1ee", func := "agio/agiolaw24.WorldKeeps", spec := "worldKeeps", unfollowed := true, recurses := true, apart := false, narrowed := true }
def WorldKeepsUptoSaid : Prop := worldKeepsUptoRow.holds Tryz.pinned (OpenSpec.upto worldKeepsSpec)

/-- 'agiolaw24.WorldAgrees', WHERE WHAT IT READS IS OF BULK AT MOST 1048576: true; the input reads as it did. -/
def worldAgreesUptoRow : OpenClaim := { program := "ytijhlbeipglieaagreat", sum := "fa379a0c5e43c38029bdd3a662c16c955a9872a373bba248b5056a30dc5eb1ee", func := "agio/agiolaw24.WorldAgrees", spec := "worldAgrees", unfollowed := true, recurses := true, apart := false, narrowed := true }
def WorldAgreesUptoSaid : Prop := worldAgreesUptoRow.holds Tryz.pinned (OpenSpec.upto worldAgreesSpec)

/-- 'agiolaw24.WorldPlays', WHERE WHAT IT READS IS OF BULK AT MOST 1048576: true; the input reads as it did. -/
def worldPlaysUptoRow : OpenClaim := { program := "ytijhlbeipglieaagreat", sum := "fa379a0c5e43c38029bdd3a662c16c955a9872a373bba248b5056a30dc5eb1ee", func := "agio/agiolaw24.WorldPlays", spec := "worldPlays", unfollowed := true, recurses := true, apart := false, narrowed := true }
def WorldPlaysUptoSaid : Prop := worldPlaysUptoRow.holds Tryz.pinned (OpenSpec.upto worldPlaysSpec)

/-- 'agiolaw24.WorldNobody', WHERE WHAT IT READS IS OF BULK AT MOST 1048576: true; the input reads as it did. -/
def worldNobodyUptoRow : OpenClaim := { program := "ytijhlbeipglieaagreat", sum := "fa379a0c5e43c38029bdd3a662c16c955a9872a373bba248b5056a30dc5eb1ee", func := "agio/agiolaw24.WorldNobody", spec := "worldNobody", unfollowed := true, recurses := true, apart := false, narrowed := true }
def WorldNobodyUptoSaid : Prop := worldNobodyUptoRow.holds Tryz.pinned (OpenSpec.upto worldNobodySpec)

end Rows
end Go.Proofs.YtijhlbeipglieaaGreat
