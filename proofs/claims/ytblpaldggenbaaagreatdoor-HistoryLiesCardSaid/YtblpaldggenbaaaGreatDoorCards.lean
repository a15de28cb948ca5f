/-
  DERIVED. GIVEN WITH THE SEED: THE CARDS: each row of YtblpaldggenbaaaGreatDoorRows.lean that lists a variable, with what it lists TIED to the program's text (the seventh form; the later family's looks); each row that meets fmt, with fmt's text TOLD by the authors' own Lean function (tested against real Go, not proved from fmt's source: count such statements apart). THE CARD IS WHAT COUNTS. Prove the row's statement (the work); the ties are given (YtblpaldggenbaaaGreatDoorTie.lean); close each card by the builder's one call (the guide's Derived/Test/ToyasCard.lean, 'card_holds'). Laid BY PROGRAM, IN A SANDBOX (cutbox-door.mjs). By AI agents, Wed Nov 11 2026. No macro, syntax, notation, axiom, sorry.
-/
import Derived.Test.YtblpaldggenbaaaGreatDoorRows
import GoSem.ClaimSeven
namespace Go.Proofs.YtblpaldggenbaaaGreatDoor
namespace Rows

/-- THE TIED CARD OF 'pursuivantlaw27.WorldTokens'. -/
def worldTokensCard : Claim7 := { stood := { row := worldTokensRow, standIns := [], harness := (true, "29b42cd94584fd114e4f1010933af93af63949972e10cfd92949e99ad9b520f4"), looks := true }, kinds := [], alts := [], laidByText := true, laidKinds := [.data], laidTests := true, laidLooks := .later }
def WorldTokensCardSaid : Prop := Claim7.holds Tryz.pinned (.plain (OpenSpec.ofChange worldTokensSpec)) worldTokensCard

/-- THE TIED CARD OF 'pursuivantlaw27.WorldSure'. -/
def worldSureCard : Claim7 := { stood := { row := worldSureRow, standIns := [], harness := (true, "29b42cd94584fd114e4f1010933af93af63949972e10cfd92949e99ad9b520f4"), looks := true }, kinds := [], alts := [], laidByText := true, laidKinds := [.data], laidTests := true, laidLooks := .later }
def WorldSureCardSaid : Prop := Claim7.holds Tryz.pinned (.plain (OpenSpec.ofChange worldSureSpec)) worldSureCard

/-- THE TIED CARD OF 'pursuivantlaw27.WorldLate'. -/
def worldLateCard : Claim7 := { stood := { row := worldLateRow, standIns := [], harness := (true, "29b42cd94584fd114e4f1010933af93af63949972e10cfd92949e99ad9b520f4"), looks := true }, kinds := [], alts := [], laidByText := true, laidKinds := [.data], laidTests := true, laidLooks := .later }
def WorldLateCardSaid : Prop := Claim7.holds Tryz.pinned (.plain (OpenSpec.ofChange worldLateSpec)) worldLateCard

/-- THE TIED CARD OF 'pursuivantlaw28.HistoryWorld'. -/
def historyWorldCard : Claim7 := { stood := { row := historyWorldRow, standIns := [], harness := (true, "29b42cd94584fd114e4f1010933af93af63949972e10cfd92949e99ad9b520f4"), looks := true }, kinds := [], alts := [], laidByText := true, laidKinds := [.data], laidTests := true, laidLooks := .later }
def HistoryWorldCardSaid : Prop := Claim7.holds Tryz.pinned (.plain (OpenSpec.ofChange historyWorldSpec)) historyWorldCard

/-- THE TIED CARD OF 'pursuivantlaw28.HistoryLies'. -/
def historyLiesCard : Claim7 := { stood := { row := historyLiesRow, standIns := [], harness := (true, "29b42cd94584fd114e4f1010933af93af63949972e10cfd92949e99ad9b520f4"), looks := true }, kinds := [], alts := [], laidByText := true, laidKinds := [.data], laidTests := true, laidLooks := .later }
def HistoryLiesCardSaid : Prop := Claim7.holds Tryz.pinned (.plain (OpenSpec.ofChange historyLiesSpec)) historyLiesCard

/-- THE SECOND FORM's CARD OF 'pursuivantlaw27.WorldTokens'. -/
def worldTokensUptoCard : Claim7 := { stood := { row := worldTokensUptoRow, standIns := [], harness := (true, "29b42cd94584fd114e4f1010933af93af63949972e10cfd92949e99ad9b520f4"), looks := true }, kinds := [], alts := [], laidByText := true, laidKinds := [.data], laidTests := true, laidLooks := .later }
def WorldTokensUptoCardSaid : Prop := Claim7.holds Tryz.pinned (.plain (OpenSpec.upto worldTokensSpec)) worldTokensUptoCard

/-- THE SECOND FORM's CARD OF 'pursuivantlaw27.WorldSure'. -/
def worldSureUptoCard : Claim7 := { stood := { row := worldSureUptoRow, standIns := [], harness := (true, "29b42cd94584fd114e4f1010933af93af63949972e10cfd92949e99ad9b520f4"), looks := true }, kinds := [], alts := [], laidByText := true, laidKinds := [.data], laidTests := true, laidLooks := .later }
def WorldSureUptoCardSaid : Prop := Claim7.holds Tryz.pinned (.plain (OpenSpec.upto worldSureSpec)) worldSureUptoCard

/-- THE SECOND FORM's CARD OF 'pursuivantlaw27.WorldLate'. -/
def worldLateUptoCard : Claim7 := { stood := { row := worldLateUptoRow, standIns := [], harness := (true, "29b42cd94584fd114e4f1010933af93af63949972e10cfd92949e99ad9b520f4"), looks := true }, kinds := [], alts := [], laidByText := true, laidKinds := [.data], laidTests := true, laidLooks := .later }
def WorldLateUptoCardSaid : Prop := Claim7.holds Tryz.pinned (.plain (OpenSpec.upto worldLateSpec)) worldLateUptoCard

/-- THE SECOND FORM's CARD OF 'pursuivantlaw28.HistoryWorld'. -/
def historyWorldUptoCard : Claim7 := { stood := { row := historyWorldUptoRow, standIns := [], harness := (true, "29b42cd94584fd114e4f1010933af93af63949972e10cfd92949e99ad9b520f4"), looks := true }, kinds := [], alts := [], laidByText := true, laidKinds := [.data], laidTests := true, laidLooks := .later }
def HistoryWorldUptoCardSaid : Prop := Claim7.holds Tryz.pinned (.plain (OpenSpec.upto historyWorldSpec)) historyWorldUptoCard

/-- THE SECOND FORM's CARD OF 'pursuivantlaw28.HistoryLies'. -/
def historyLiesUptoCard : Claim7 := { stood := { row := historyLiesUptoRow, standIns := [], harness := (true, "29b42cd94584fd114e4f1010933af93af63949972e10cfd92949e99ad9b520f4"), looks := true }, kinds := [], alts := [], laidByText := true, laidKinds := [.data], laidTests := true, laidLooks := .later }
def HistoryLiesUptoCardSaid : Prop := Claim7.holds Tryz.pinned (.plain (OpenSpec.upto historyLiesSpec)) historyLiesUptoCard
end Rows
end Go.Proofs.YtblpaldggenbaaaGreatDoor
