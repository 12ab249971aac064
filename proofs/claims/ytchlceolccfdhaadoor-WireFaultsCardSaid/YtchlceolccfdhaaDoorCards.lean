/-
  DERIVED. GIVEN WITH THE SEED: THE CARDS: each row of YtchlceolccfdhaaDoorRows.lean that lists a variable, with what it lists TIED to the program's text (the seventh form; the later family's looks); each row that meets fmt, with fmt's text TOLD by the authors' own Lean function (tested against real Go, not proved from fmt's source: count such statements apart). THE CARD IS WHAT COUNTS. Prove the row's statement (the work); the ties are given (YtchlceolccfdhaaDoorTie.lean); close each card by the builder's one call (the guide's Derived/Test/ToyasCard.lean, 'card_holds'). Laid BY PROGRAM, IN A SANDBOX (cutbox-door.mjs). By AI agents, Wed Nov 11 2026. No macro, syntax, notation, axiom, sorry.
-/
import Derived.Test.YtchlceolccfdhaaDoorRows
import GoSem.ClaimSeven
namespace Go.Proofs.YtchlceolccfdhaaDoor
namespace Rows

/-- THE TIED CARD OF 'agiolaw02.WireLays'. -/
def wireLaysCard : Claim7 := { stood := { row := wireLaysRow, standIns := [], harness := (true, "33dfc82ddf23323af7149982d60b3ba7660abe02dc9b67108abdd339d188b2d2"), looks := true }, kinds := [], alts := [], laidByText := true, laidKinds := [.handle], laidTests := true, laidLooks := .later }
def WireLaysCardSaid : Prop := Claim7.holds Tryd.pinned (.plain (OpenSpec.ofChange wireLaysSpec)) wireLaysCard

/-- THE TIED CARD OF 'agiolaw02.WireOnce'. -/
def wireOnceCard : Claim7 := { stood := { row := wireOnceRow, standIns := [], harness := (true, "33dfc82ddf23323af7149982d60b3ba7660abe02dc9b67108abdd339d188b2d2"), looks := true }, kinds := [], alts := [], laidByText := true, laidKinds := [.handle], laidTests := true, laidLooks := .later }
def WireOnceCardSaid : Prop := Claim7.holds Tryd.pinned (.plain (OpenSpec.ofChange wireOnceSpec)) wireOnceCard

/-- THE TIED CARD OF 'agiolaw02.WireBack'. -/
def wireBackCard : Claim7 := { stood := { row := wireBackRow, standIns := [], harness := (true, "33dfc82ddf23323af7149982d60b3ba7660abe02dc9b67108abdd339d188b2d2"), looks := true }, kinds := [], alts := [], laidByText := true, laidKinds := [.handle], laidTests := true, laidLooks := .later }
def WireBackCardSaid : Prop := Claim7.holds Tryd.pinned (.plain (OpenSpec.ofChange wireBackSpec)) wireBackCard

/-- THE TIED CARD OF 'agiolaw02.WireNobody'. -/
def wireNobodyCard : Claim7 := { stood := { row := wireNobodyRow, standIns := [], harness := (true, "33dfc82ddf23323af7149982d60b3ba7660abe02dc9b67108abdd339d188b2d2"), looks := true }, kinds := [], alts := [], laidByText := true, laidKinds := [.handle], laidTests := true, laidLooks := .later }
def WireNobodyCardSaid : Prop := Claim7.holds Tryd.pinned (.plain (OpenSpec.ofChange wireNobodySpec)) wireNobodyCard

/-- THE TIED CARD OF 'agiolaw02.WireFaults'. -/
def wireFaultsCard : Claim7 := { stood := { row := wireFaultsRow, standIns := [], harness := (true, "33dfc82ddf23323af7149982d60b3ba7660abe02dc9b67108abdd339d188b2d2"), looks := true }, kinds := [], alts := [], laidByText := true, laidKinds := [.handle], laidTests := true, laidLooks := .later }
def WireFaultsCardSaid : Prop := Claim7.holds Tryd.pinned (.plain (OpenSpec.ofChange wireFaultsSpec)) wireFaultsCard

/-- THE TIED CARD OF 'agiolaw02.WireReads'. -/
def wireReadsCard : Claim7 := { stood := { row := wireReadsRow, standIns := [], harness := (true, "33dfc82ddf23323af7149982d60b3ba7660abe02dc9b67108abdd339d188b2d2"), looks := true }, kinds := [], alts := [], laidByText := true, laidKinds := [.handle], laidTests := true, laidLooks := .later }
def WireReadsCardSaid : Prop := Claim7.holds Tryd.pinned (.plain (OpenSpec.ofChange wireReadsSpec)) wireReadsCard

/-- THE TIED CARD OF 'agiolaw05.CmdCodes'. -/
def cmdCodesCard : Claim7 := { stood := { row := cmdCodesRow, standIns := [], harness := (true, "33dfc82ddf23323af7149982d60b3ba7660abe02dc9b67108abdd339d188b2d2"), looks := true }, kinds := [], alts := [], laidByText := true, laidKinds := [.handle], laidTests := true, laidLooks := .later }
def CmdCodesCardSaid : Prop := Claim7.holds Tryd.pinned (.plain (OpenSpec.ofChange cmdCodesSpec)) cmdCodesCard

/-- THE TIED CARD OF 'agiolaw05.CmdBack'. -/
def cmdBackCard : Claim7 := { stood := { row := cmdBackRow, standIns := [], harness := (true, "33dfc82ddf23323af7149982d60b3ba7660abe02dc9b67108abdd339d188b2d2"), looks := true }, kinds := [], alts := [], laidByText := true, laidKinds := [.handle], laidTests := true, laidLooks := .later }
def CmdBackCardSaid : Prop := Claim7.holds Tryd.pinned (.plain (OpenSpec.ofChange cmdBackSpec)) cmdBackCard

/-- THE TIED CARD OF 'agiolaw05.CmdOnce'. -/
def cmdOnceCard : Claim7 := { stood := { row := cmdOnceRow, standIns := [], harness := (true, "33dfc82ddf23323af7149982d60b3ba7660abe02dc9b67108abdd339d188b2d2"), looks := true }, kinds := [], alts := [], laidByText := true, laidKinds := [.handle], laidTests := true, laidLooks := .later }
def CmdOnceCardSaid : Prop := Claim7.holds Tryd.pinned (.plain (OpenSpec.ofChange cmdOnceSpec)) cmdOnceCard

/-- THE TIED CARD OF 'agiolaw05.CmdCuts'. -/
def cmdCutsCard : Claim7 := { stood := { row := cmdCutsRow, standIns := [], harness := (true, "33dfc82ddf23323af7149982d60b3ba7660abe02dc9b67108abdd339d188b2d2"), looks := true }, kinds := [], alts := [], laidByText := true, laidKinds := [.handle], laidTests := true, laidLooks := .later }
def CmdCutsCardSaid : Prop := Claim7.holds Tryd.pinned (.plain (OpenSpec.ofChange cmdCutsSpec)) cmdCutsCard

/-- THE TIED CARD OF 'agiolaw05.CmdFields'. -/
def cmdFieldsCard : Claim7 := { stood := { row := cmdFieldsRow, standIns := [], harness := (true, "33dfc82ddf23323af7149982d60b3ba7660abe02dc9b67108abdd339d188b2d2"), looks := true }, kinds := [], alts := [], laidByText := true, laidKinds := [.handle], laidTests := true, laidLooks := .later }
def CmdFieldsCardSaid : Prop := Claim7.holds Tryd.pinned (.plain (OpenSpec.ofChange cmdFieldsSpec)) cmdFieldsCard

/-- THE TIED CARD OF 'agiolaw05.CmdKinds'. -/
def cmdKindsCard : Claim7 := { stood := { row := cmdKindsRow, standIns := [], harness := (true, "33dfc82ddf23323af7149982d60b3ba7660abe02dc9b67108abdd339d188b2d2"), looks := true }, kinds := [], alts := [], laidByText := true, laidKinds := [.handle], laidTests := true, laidLooks := .later }
def CmdKindsCardSaid : Prop := Claim7.holds Tryd.pinned (.plain (OpenSpec.ofChange cmdKindsSpec)) cmdKindsCard

/-- THE TIED CARD OF 'agiolaw07.AlogCodes'. -/
def alogCodesCard : Claim7 := { stood := { row := alogCodesRow, standIns := [], harness := (true, "33dfc82ddf23323af7149982d60b3ba7660abe02dc9b67108abdd339d188b2d2"), looks := true }, kinds := [], alts := [], laidByText := true, laidKinds := [.handle], laidTests := true, laidLooks := .later }
def AlogCodesCardSaid : Prop := Claim7.holds Tryd.pinned (.plain (OpenSpec.ofChange alogCodesSpec)) alogCodesCard

/-- THE TIED CARD OF 'agiolaw13.NetCodes'. -/
def netCodesCard : Claim7 := { stood := { row := netCodesRow, standIns := [], harness := (true, "33dfc82ddf23323af7149982d60b3ba7660abe02dc9b67108abdd339d188b2d2"), looks := true }, kinds := [], alts := [], laidByText := true, laidKinds := [.handle], laidTests := true, laidLooks := .later }
def NetCodesCardSaid : Prop := Claim7.holds Tryd.pinned (.plain (OpenSpec.ofChange netCodesSpec)) netCodesCard

/-- THE SECOND FORM's CARD OF 'agiolaw02.WireLays'. -/
def wireLaysUptoCard : Claim7 := { stood := { row := wireLaysUptoRow, standIns := [], harness := (true, "33dfc82ddf23323af7149982d60b3ba7660abe02dc9b67108abdd339d188b2d2"), looks := true }, kinds := [], alts := [], laidByText := true, laidKinds := [.handle], laidTests := true, laidLooks := .later }
def WireLaysUptoCardSaid : Prop := Claim7.holds Tryd.pinned (.plain (OpenSpec.upto wireLaysSpec)) wireLaysUptoCard

/-- THE SECOND FORM's CARD OF 'agiolaw02.WireOnce'. -/
def wireOnceUptoCard : Claim7 := { stood := { row := wireOnceUptoRow, standIns := [], harness := (true, "33dfc82ddf23323af7149982d60b3ba7660abe02dc9b67108abdd339d188b2d2"), looks := true }, kinds := [], alts := [], laidByText := true, laidKinds := [.handle], laidTests := true, laidLooks := .later }
def WireOnceUptoCardSaid : Prop := Claim7.holds Tryd.pinned (.plain (OpenSpec.upto wireOnceSpec)) wireOnceUptoCard

/-- THE SECOND FORM's CARD OF 'agiolaw02.WireBack'. -/
def wireBackUptoCard : Claim7 := { stood := { row := wireBackUptoRow, standIns := [], harness := (true, "33dfc82ddf23323af7149982d60b3ba7660abe02dc9b67108abdd339d188b2d2"), looks := true }, kinds := [], alts := [], laidByText := true, laidKinds := [.handle], laidTests := true, laidLooks := .later }
def WireBackUptoCardSaid : Prop := Claim7.holds Tryd.pinned (.plain (OpenSpec.upto wireBackSpec)) wireBackUptoCard

/-- THE SECOND FORM's CARD OF 'agiolaw02.WireNobody'. -/
def wireNobodyUptoCard : Claim7 := { stood := { row := wireNobodyUptoRow, standIns := [], harness := (true, "33dfc82ddf23323af7149982d60b3ba7660abe02dc9b67108abdd339d188b2d2"), looks := true }, kinds := [], alts := [], laidByText := true, laidKinds := [.handle], laidTests := true, laidLooks := .later }
def WireNobodyUptoCardSaid : Prop := Claim7.holds Tryd.pinned (.plain (OpenSpec.upto wireNobodySpec)) wireNobodyUptoCard

/-- THE SECOND FORM's CARD OF 'agiolaw02.WireFaults'. -/
def wireFaultsUptoCard : Claim7 := { stood := { row := wireFaultsUptoRow, standIns := [], harness := (true, "33dfc82ddf23323af7149982d60b3ba7660abe02dc9b67108abdd339d188b2d2"), looks := true }, kinds := [], alts := [], laidByText := true, laidKinds := [.handle], laidTests := true, laidLooks := .later }
def WireFaultsUptoCardSaid : Prop := Claim7.holds Tryd.pinned (.plain (OpenSpec.upto wireFaultsSpec)) wireFaultsUptoCard

/-- THE SECOND FORM's CARD OF 'agiolaw02.WireReads'. -/
def wireReadsUptoCard : Claim7 := { stood := { row := wireReadsUptoRow, standIns := [], harness := (true, "33dfc82ddf23323af7149982d60b3ba7660abe02dc9b67108abdd339d188b2d2"), looks := true }, kinds := [], alts := [], laidByText := true, laidKinds := [.handle], laidTests := true, laidLooks := .later }
def WireReadsUptoCardSaid : Prop := Claim7.holds Tryd.pinned (.plain (OpenSpec.upto wireReadsSpec)) wireReadsUptoCard

/-- THE SECOND FORM's CARD OF 'agiolaw05.CmdCodes'. -/
def cmdCodesUptoCard : Claim7 := { stood := { row := cmdCodesUptoRow, standIns := [], harness := (true, "33dfc82ddf23323af7149982d60b3ba7660abe02dc9b67108abdd339d188b2d2"), looks := true }, kinds := [], alts := [], laidByText := true, laidKinds := [.handle], laidTests := true, laidLooks := .later }
def CmdCodesUptoCardSaid : Prop := Claim7.holds Tryd.pinned (.plain (OpenSpec.upto cmdCodesSpec)) cmdCodesUptoCard

/-- THE SECOND FORM's CARD OF 'agiolaw05.CmdBack'. -/
def cmdBackUptoCard : Claim7 := { stood := { row := cmdBackUptoRow, standIns := [], harness := (true, "33dfc82ddf23323af7149982d60b3ba7660abe02dc9b67108abdd339d188b2d2"), looks := true }, kinds := [], alts := [], laidByText := true, laidKinds := [.handle], laidTests := true, laidLooks := .later }
def CmdBackUptoCardSaid : Prop := Claim7.holds Tryd.pinned (.plain (OpenSpec.upto cmdBackSpec)) cmdBackUptoCard

/-- THE SECOND FORM's CARD OF 'agiolaw05.CmdOnce'. -/
def cmdOnceUptoCard : Claim7 := { stood := { row := cmdOnceUptoRow, standIns := [], harness := (true, "33dfc82ddf23323af7149982d60b3ba7660abe02dc9b67108abdd339d188b2d2"), looks := true }, kinds := [], alts := [], laidByText := true, laidKinds := [.handle], laidTests := true, laidLooks := .later }
def CmdOnceUptoCardSaid : Prop := Claim7.holds Tryd.pinned (.plain (OpenSpec.upto cmdOnceSpec)) cmdOnceUptoCard

/-- THE SECOND FORM's CARD OF 'agiolaw05.CmdCuts'. -/
def cmdCutsUptoCard : Claim7 := { stood := { row := cmdCutsUptoRow, standIns := [], harness := (true, "33dfc82ddf23323af7149982d60b3ba7660abe02dc9b67108abdd339d188b2d2"), looks := true }, kinds := [], alts := [], laidByText := true, laidKinds := [.handle], laidTests := true, laidLooks := .later }
def CmdCutsUptoCardSaid : Prop := Claim7.holds Tryd.pinned (.plain (OpenSpec.upto cmdCutsSpec)) cmdCutsUptoCard

/-- THE SECOND FORM's CARD OF 'agiolaw05.CmdFields'. -/
def cmdFieldsUptoCard : Claim7 := { stood := { row := cmdFieldsUptoRow, standIns := [], harness := (true, "33dfc82ddf23323af7149982d60b3ba7660abe02dc9b67108abdd339d188b2d2"), looks := true }, kinds := [], alts := [], laidByText := true, laidKinds := [.handle], laidTests := true, laidLooks := .later }
def CmdFieldsUptoCardSaid : Prop := Claim7.holds Tryd.pinned (.plain (OpenSpec.upto cmdFieldsSpec)) cmdFieldsUptoCard

/-- THE SECOND FORM's CARD OF 'agiolaw05.CmdKinds'. -/
def cmdKindsUptoCard : Claim7 := { stood := { row := cmdKindsUptoRow, standIns := [], harness := (true, "33dfc82ddf23323af7149982d60b3ba7660abe02dc9b67108abdd339d188b2d2"), looks := true }, kinds := [], alts := [], laidByText := true, laidKinds := [.handle], laidTests := true, laidLooks := .later }
def CmdKindsUptoCardSaid : Prop := Claim7.holds Tryd.pinned (.plain (OpenSpec.upto cmdKindsSpec)) cmdKindsUptoCard

/-- THE SECOND FORM's CARD OF 'agiolaw07.AlogCodes'. -/
def alogCodesUptoCard : Claim7 := { stood := { row := alogCodesUptoRow, standIns := [], harness := (true, "33dfc82ddf23323af7149982d60b3ba7660abe02dc9b67108abdd339d188b2d2"), looks := true }, kinds := [], alts := [], laidByText := true, laidKinds := [.handle], laidTests := true, laidLooks := .later }
def AlogCodesUptoCardSaid : Prop := Claim7.holds Tryd.pinned (.plain (OpenSpec.upto alogCodesSpec)) alogCodesUptoCard

/-- THE SECOND FORM's CARD OF 'agiolaw13.NetCodes'. -/
def netCodesUptoCard : Claim7 := { stood := { row := netCodesUptoRow, standIns := [], harness := (true, "33dfc82ddf23323af7149982d60b3ba7660abe02dc9b67108abdd339d188b2d2"), looks := true }, kinds := [], alts := [], laidByText := true, laidKinds := [.handle], laidTests := true, laidLooks := .later }
def NetCodesUptoCardSaid : Prop := Claim7.holds Tryd.pinned (.plain (OpenSpec.upto netCodesSpec)) netCodesUptoCard
end Rows
end Go.Proofs.YtchlceolccfdhaaDoor
