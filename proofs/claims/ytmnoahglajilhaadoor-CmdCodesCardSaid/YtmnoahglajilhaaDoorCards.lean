/-
  DERIVED. GIVEN WITH THE SEED: THE CARDS: each row of YtmnoahglajilhaaDoorRows.lean that lists a variable, with what it lists TIED to the program's text (the seventh form; the later family's looks); each row that meets fmt, with fmt's text TOLD by the authors' own Lean function (tested against real Go, not proved from fmt's source: count such statements apart). THE CARD IS WHAT COUNTS. Prove the row's statement (the work); the ties are given (YtmnoahglajilhaaDoorTie.lean); close each card by the builder's one call (the guide's Derived/Test/ToyasCard.lean, 'card_holds'). Laid BY PROGRAM, IN A SANDBOX (cutbox-door.mjs). By AI agents, Wed Nov 11 2026. No macro, syntax, notation, axiom, sorry.
-/
import Derived.Test.YtmnoahglajilhaaDoorRows
import GoSem.ClaimSeven
namespace Go.Proofs.YtmnoahglajilhaaDoor
namespace Rows

/-- THE TIED CARD OF 'agiolaw05.CmdCodes'. -/
def cmdCodesCard : Claim7 := { stood := { row := cmdCodesRow, standIns := [], harness := (true, "ce7348f6dee9ee5a0f40a9ec8585f41d0ad00c7b0f64dd24f2653f41a90451a6"), looks := true }, kinds := [], alts := [], laidByText := true, laidKinds := [.handle], laidTests := true, laidLooks := .later }
def CmdCodesCardSaid : Prop := Claim7.holds Tryd.pinned (.plain (OpenSpec.ofChange cmdCodesSpec)) cmdCodesCard

/-- THE TIED CARD OF 'agiolaw07.AlogCodes'. -/
def alogCodesCard : Claim7 := { stood := { row := alogCodesRow, standIns := [], harness := (true, "ce7348f6dee9ee5a0f40a9ec8585f41d0ad00c7b0f64dd24f2653f41a90451a6"), looks := true }, kinds := [], alts := [], laidByText := true, laidKinds := [.handle], laidTests := true, laidLooks := .later }
def AlogCodesCardSaid : Prop := Claim7.holds Tryd.pinned (.plain (OpenSpec.ofChange alogCodesSpec)) alogCodesCard

/-- THE TIED CARD OF 'agiolaw13.NetCodes'. -/
def netCodesCard : Claim7 := { stood := { row := netCodesRow, standIns := [], harness := (true, "ce7348f6dee9ee5a0f40a9ec8585f41d0ad00c7b0f64dd24f2653f41a90451a6"), looks := true }, kinds := [], alts := [], laidByText := true, laidKinds := [.handle], laidTests := true, laidLooks := .later }
def NetCodesCardSaid : Prop := Claim7.holds Tryd.pinned (.plain (OpenSpec.ofChange netCodesSpec)) netCodesCard

/-- THE SECOND FORM's CARD OF 'agiolaw05.CmdCodes'. -/
def cmdCodesUptoCard : Claim7 := { stood := { row := cmdCodesUptoRow, standIns := [], harness := (true, "ce7348f6dee9ee5a0f40a9ec8585f41d0ad00c7b0f64dd24f2653f41a90451a6"), looks := true }, kinds := [], alts := [], laidByText := true, laidKinds := [.handle], laidTests := true, laidLooks := .later }
def CmdCodesUptoCardSaid : Prop := Claim7.holds Tryd.pinned (.plain (OpenSpec.upto cmdCodesSpec)) cmdCodesUptoCard

/-- THE SECOND FORM's CARD OF 'agiolaw07.AlogCodes'. -/
def alogCodesUptoCard : Claim7 := { stood := { row := alogCodesUptoRow, standIns := [], harness := (true, "ce7348f6dee9ee5a0f40a9ec8585f41d0ad00c7b0f64dd24f2653f41a90451a6"), looks := true }, kinds := [], alts := [], laidByText := true, laidKinds := [.handle], laidTests := true, laidLooks := .later }
def AlogCodesUptoCardSaid : Prop := Claim7.holds Tryd.pinned (.plain (OpenSpec.upto alogCodesSpec)) alogCodesUptoCard

/-- THE SECOND FORM's CARD OF 'agiolaw13.NetCodes'. -/
def netCodesUptoCard : Claim7 := { stood := { row := netCodesUptoRow, standIns := [], harness := (true, "ce7348f6dee9ee5a0f40a9ec8585f41d0ad00c7b0f64dd24f2653f41a90451a6"), looks := true }, kinds := [], alts := [], laidByText := true, laidKinds := [.handle], laidTests := true, laidLooks := .later }
def NetCodesUptoCardSaid : Prop := Claim7.holds Tryd.pinned (.plain (OpenSpec.upto netCodesSpec)) netCodesUptoCard
end Rows
end Go.Proofs.YtmnoahglajilhaaDoor
