/-
  DERIVED. GIVEN WITH THE SEED: THE CARDS: each row of YtpaelngpmbeedaaGreatDoorRows.lean that lists a variable, with what it lists TIED to the program's text (the seventh form; the later family's looks); each row that meets fmt, with fmt's text TOLD by the authors' own Lean function (tested against real Go, not proved from fmt's source: count such statements apart). THE CARD IS WHAT COUNTS. Prove the row's statement (the work); the ties are given (YtpaelngpmbeedaaGreatDoorTie.lean); close each card by the builder's one call (the guide's Derived/Test/ToyasCard.lean, 'card_holds'). Laid BY PROGRAM, IN A SANDBOX (cutbox-door.mjs). By AI agents, Wed Nov 11 2026. No macro, syntax, notation, axiom, sorry.
-/
import Derived.Test.YtpaelngpmbeedaaGreatDoorRows
import GoSem.ClaimSeven
namespace Go.Proofs.YtpaelngpmbeedaaGreatDoor
namespace Rows

/-- THE TIED CARD OF 'pursuivantlaw22.CommitSure'. -/
def commitSureCard : Claim7 := { stood := { row := commitSureRow, standIns := [], harness := (true, "5f6fec95d67900c8abd792926facc50c0b66123da1567dd08f0a81416141a2a0"), looks := true }, kinds := [], alts := [], laidByText := true, laidKinds := [.data], laidTests := true, laidLooks := .later }
def CommitSureCardSaid : Prop := Claim7.holds Tryz.pinned (.plain (OpenSpec.ofChange commitSureSpec)) commitSureCard

/-- THE TIED CARD OF 'pursuivantlaw23.StoreTold'. -/
def storeToldCard : Claim7 := { stood := { row := storeToldRow, standIns := [], harness := (true, "5f6fec95d67900c8abd792926facc50c0b66123da1567dd08f0a81416141a2a0"), looks := true }, kinds := [], alts := [], laidByText := true, laidKinds := [.data], laidTests := true, laidLooks := .later }
def StoreToldCardSaid : Prop := Claim7.holds Tryz.pinned (.plain (OpenSpec.ofChange storeToldSpec)) storeToldCard

/-- THE SECOND FORM's CARD OF 'pursuivantlaw22.CommitSure'. -/
def commitSureUptoCard : Claim7 := { stood := { row := commitSureUptoRow, standIns := [], harness := (true, "5f6fec95d67900c8abd792926facc50c0b66123da1567dd08f0a81416141a2a0"), looks := true }, kinds := [], alts := [], laidByText := true, laidKinds := [.data], laidTests := true, laidLooks := .later }
def CommitSureUptoCardSaid : Prop := Claim7.holds Tryz.pinned (.plain (OpenSpec.upto commitSureSpec)) commitSureUptoCard

/-- THE SECOND FORM's CARD OF 'pursuivantlaw23.StoreTold'. -/
def storeToldUptoCard : Claim7 := { stood := { row := storeToldUptoRow, standIns := [], harness := (true, "5f6fec95d67900c8abd792926facc50c0b66123da1567dd08f0a81416141a2a0"), looks := true }, kinds := [], alts := [], laidByText := true, laidKinds := [.data], laidTests := true, laidLooks := .later }
def StoreToldUptoCardSaid : Prop := Claim7.holds Tryz.pinned (.plain (OpenSpec.upto storeToldSpec)) storeToldUptoCard
end Rows
end Go.Proofs.YtpaelngpmbeedaaGreatDoor
