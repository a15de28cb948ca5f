/-
  DERIVED. GIVEN WITH THE SEED: THE CARDS: each row of YtpaelngpmbeedaaDoorRows.lean that lists a variable, with what it lists TIED to the program's text (the seventh form; the later family's looks); each row that meets fmt, with fmt's text TOLD by the authors' own Lean function (tested against real Go, not proved from fmt's source: count such statements apart). THE CARD IS WHAT COUNTS. Prove the row's statement (the work); the ties are given (YtpaelngpmbeedaaDoorTie.lean); close each card by the builder's one call (the guide's Derived/Test/ToyasCard.lean, 'card_holds'). Laid BY PROGRAM, IN A SANDBOX (cutbox-door.mjs). By AI agents, Wed Nov 11 2026. No macro, syntax, notation, axiom, sorry.
-/
import Derived.Test.YtpaelngpmbeedaaDoorRows
import GoSem.ClaimSeven
namespace Go.Proofs.YtpaelngpmbeedaaDoor
namespace Rows

/-- THE TIED CARD OF 'pursuivantlaw22.CommitChecks'. -/
def commitChecksCard : Claim7 := { stood := { row := commitChecksRow, standIns := [], harness := (true, "4244de677f71fcc319713c7919376e1ff42467f23b550c706e11ed4149e1b3c6"), looks := true }, kinds := [], alts := [], laidByText := true, laidKinds := [.data], laidTests := true, laidLooks := .later }
def CommitChecksCardSaid : Prop := Claim7.holds Tryd.pinned (.plain (OpenSpec.ofChange commitChecksSpec)) commitChecksCard

/-- THE TIED CARD OF 'pursuivantlaw23.StoreTwice'. -/
def storeTwiceCard : Claim7 := { stood := { row := storeTwiceRow, standIns := [], harness := (true, "4244de677f71fcc319713c7919376e1ff42467f23b550c706e11ed4149e1b3c6"), looks := true }, kinds := [], alts := [], laidByText := true, laidKinds := [.data], laidTests := true, laidLooks := .later }
def StoreTwiceCardSaid : Prop := Claim7.holds Tryd.pinned (.plain (OpenSpec.ofChange storeTwiceSpec)) storeTwiceCard

/-- THE TIED CARD OF 'pursuivantlaw23.StoreSure'. -/
def storeSureCard : Claim7 := { stood := { row := storeSureRow, standIns := [], harness := (true, "4244de677f71fcc319713c7919376e1ff42467f23b550c706e11ed4149e1b3c6"), looks := true }, kinds := [], alts := [], laidByText := true, laidKinds := [.data], laidTests := true, laidLooks := .later }
def StoreSureCardSaid : Prop := Claim7.holds Tryd.pinned (.plain (OpenSpec.ofChange storeSureSpec)) storeSureCard

/-- THE SECOND FORM's CARD OF 'pursuivantlaw22.CommitChecks'. -/
def commitChecksUptoCard : Claim7 := { stood := { row := commitChecksUptoRow, standIns := [], harness := (true, "4244de677f71fcc319713c7919376e1ff42467f23b550c706e11ed4149e1b3c6"), looks := true }, kinds := [], alts := [], laidByText := true, laidKinds := [.data], laidTests := true, laidLooks := .later }
def CommitChecksUptoCardSaid : Prop := Claim7.holds Tryd.pinned (.plain (OpenSpec.upto commitChecksSpec)) commitChecksUptoCard

/-- THE SECOND FORM's CARD OF 'pursuivantlaw23.StoreTwice'. -/
def storeTwiceUptoCard : Claim7 := { stood := { row := storeTwiceUptoRow, standIns := [], harness := (true, "4244de677f71fcc319713c7919376e1ff42467f23b550c706e11ed4149e1b3c6"), looks := true }, kinds := [], alts := [], laidByText := true, laidKinds := [.data], laidTests := true, laidLooks := .later }
def StoreTwiceUptoCardSaid : Prop := Claim7.holds Tryd.pinned (.plain (OpenSpec.upto storeTwiceSpec)) storeTwiceUptoCard

/-- THE SECOND FORM's CARD OF 'pursuivantlaw23.StoreSure'. -/
def storeSureUptoCard : Claim7 := { stood := { row := storeSureUptoRow, standIns := [], harness := (true, "4244de677f71fcc319713c7919376e1ff42467f23b550c706e11ed4149e1b3c6"), looks := true }, kinds := [], alts := [], laidByText := true, laidKinds := [.data], laidTests := true, laidLooks := .later }
def StoreSureUptoCardSaid : Prop := Claim7.holds Tryd.pinned (.plain (OpenSpec.upto storeSureSpec)) storeSureUptoCard
end Rows
end Go.Proofs.YtpaelngpmbeedaaDoor
