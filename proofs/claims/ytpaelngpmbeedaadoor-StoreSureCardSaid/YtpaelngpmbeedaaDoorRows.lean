/-
  NARROWER THAN 'FOR EVERY INPUT', by the rows' own cells (each row's printed sentence says how): CommitChecks: laid · StoreTwice: laid · StoreSure: laid.
  DERIVED. THE GIVEN ROWS OF THIS SEAT. 3 by the template 'for every input the law returns true; each argument reads behind the call as it read before'; 0 by the template 'total and deterministic' (their statements: YtpaelngpmbeedaaDoorTotals.lean).
  GIVEN WITH THE SEED: the statements are not yours to turn. If you find one false, say at which input.
  Laid BY PROGRAM, IN A SANDBOX (cutbox-rows.mjs): the forced cells as the released guide's own fill.sh prints them over the translation 726509ea81a88069… (all of the seat's roots in one cut). By AI agents, Wed Nov 11 2026. No macro, syntax, notation, axiom, sorry.
-/
import Derived.Test.YtpaelngpmbeedaaDoorChecked
import GoSem.Claim
import GoSem.ClaimJoined
import GoSem.ClaimMapViews
import Derived.JoinedTies
import Derived.KernelRfl
namespace Go.Proofs.YtpaelngpmbeedaaDoor
/- THE CELL 'sum', in the pinned program and in every row, IS THE sha256 OF THE DUMP (.gsa) THAT YtpaelngpmbeedaaDoorProg.lean LOADS. Nothing in Lean hashes anything: it is a label: what it is worth is what the hold of that sum in a sandbox is worth. -/
noncomputable def Tryd.pinned : Pinned := { name := "ytpaelngpmbeedaadoor", sum := "726509ea81a88069d68a2bbfe453af67f9bfc9f4accd5ff7f00f6a4d585dc21c", checked := Tryd.checked }
namespace Rows
def none {H : Type} : Left H := { results := [], args := [] }

/- WHAT THE LISTED PACKAGE-LEVEL VARIABLES READ AS WHEN THE CALL BEGINS. Each datum BY PROGRAM (the guide's laid-datum.mjs) off the statement by which the dump's own 'gosem.cut.vars' lays the variable. In a bare row this is a premise. The card (YtpaelngpmbeedaaDoorCards.lean) ties it to the program's text. -/
def laid_pursuivant_check_table {H : Type} : DataW H := .agg [.lit (.int .u32 0), .lit (.int .u32 498536548), .lit (.int .u32 997073096), .lit (.int .u32 651767980), .lit (.int .u32 1994146192), .lit (.int .u32 1802195444), .lit (.int .u32 1303535960), .lit (.int .u32 1342533948), .lit (.int .u32 3988292384), .lit (.int .u32 4027552580), .lit (.int .u32 3604390888), .lit (.int .u32 3412177804), .lit (.int .u32 2607071920), .lit (.int .u32 2262029012), .lit (.int .u32 2685067896), .lit (.int .u32 3183342108)]

/-- 'pursuivantlaw22.CommitChecks': WHATEVER THE INPUT: true; the input reads as it did. -/
def commitChecksSpec : ChangeSpec := { name := "commitChecks", fn := fun _ => fun
  | [d1, d2] => { results := [.lit (.bool true)], args := [d1, d2] }
  | _ => none }
def commitChecksRow : OpenClaim := { program := "ytpaelngpmbeedaadoor", sum := "726509ea81a88069d68a2bbfe453af67f9bfc9f4accd5ff7f00f6a4d585dc21c", func := "pursuivant/pursuivantlaw22.CommitChecks", spec := "commitChecks", unfollowed := true, recurses := true, named := ["pursuivant/check.table"], apart := false, laid := [("pursuivant/check.table", laid_pursuivant_check_table)] }
def CommitChecksSaid : Prop := commitChecksRow.holds Tryd.pinned (OpenSpec.ofChange commitChecksSpec)

/-- ITS FALSE NEIGHBOUR: 'it returns false'. Refute it at one input. -/
def commitChecksWrong : ChangeSpec := { name := "commitChecks", fn := fun _ => fun
  | [d1, d2] => { results := [.lit (.bool false)], args := [d1, d2] }
  | _ => none }
def CommitChecksWrongFalsely : Prop := commitChecksRow.holds Tryd.pinned (OpenSpec.ofChange commitChecksWrong)

/-- 'pursuivantlaw23.StoreTwice': WHATEVER THE INPUT: true; the input reads as it did. -/
def storeTwiceSpec : ChangeSpec := { name := "storeTwice", fn := fun _ => fun
  | [d] => { results := [.lit (.bool true)], args := [d] }
  | _ => none }
def storeTwiceRow : OpenClaim := { program := "ytpaelngpmbeedaadoor", sum := "726509ea81a88069d68a2bbfe453af67f9bfc9f4accd5ff7f00f6a4d585dc21c", func := "pursuivant/pursuivantlaw23.StoreTwice", spec := "storeTwice", unfollowed := true, recurses := true, named := ["pursuivant/check.table"], apart := false, laid := [("pursuivant/check.table", laid_pursuivant_check_table)] }
def StoreTwiceSaid : Prop := storeTwiceRow.holds Tryd.pinned (OpenSpec.ofChange storeTwiceSpec)

/-- ITS FALSE NEIGHBOUR: 'it returns false'. Refute it at one input. -/
def storeTwiceWrong : ChangeSpec := { name := "storeTwice", fn := fun _ => fun
  | [d] => { results := [.lit (.bool false)], args := [d] }
  | _ => none }
def StoreTwiceWrongFalsely : Prop := storeTwiceRow.holds Tryd.pinned (OpenSpec.ofChange storeTwiceWrong)

/-- 'pursuivantlaw23.StoreSure': WHATEVER THE INPUT: true; the input reads as it did. -/
def storeSureSpec : ChangeSpec := { name := "storeSure", fn := fun _ => fun
  | [d1, d2, d3, d4, d5] => { results := [.lit (.bool true)], args := [d1, d2, d3, d4, d5] }
  | _ => none }
def storeSureRow : OpenClaim := { program := "ytpaelngpmbeedaadoor", sum := "726509ea81a88069d68a2bbfe453af67f9bfc9f4accd5ff7f00f6a4d585dc21c", func := "pursuivant/pursuivantlaw23.StoreSure", spec := "storeSure", unfollowed := true, recurses := true, named := ["pursuivant/check.table"], apart := false, laid := [("pursuivant/check.table", laid_pursuivant_check_table)] }
def StoreSureSaid : Prop := storeSureRow.holds Tryd.pinned (OpenSpec.ofChange storeSureSpec)

/-- ITS FALSE NEIGHBOUR: 'it returns false'. Refute it at one input. -/
def storeSureWrong : ChangeSpec := { name := "storeSure", fn := fun _ => fun
  | [d1, d2, d3, d4, d5] => { results := [.lit (.bool false)], args := [d1, d2, d3, d4, d5] }
  | _ => none }
def StoreSureWrongFalsely : Prop := storeSureRow.holds Tryd.pinned (OpenSpec.ofChange storeSureWrong)

/- THE SECOND FORM. 'bulk': how many values and letters a reading holds, each counted each time it is reached (what is shared counts as often as it is met; a slice's spare places count too). A statement '..UptoSaid' is the law's where the arguments, and the package variables that the reading takes, are together of bulk at most 1048576: NARROWER than '..Said'. Prove '..Said' where nothing that the law and all that it calls make is longer than what came in: it says more and counts as full. Else prove '..UptoSaid'. A law counts once. -/
mutual
def uptoBulk {H : Type} : DataW H → Nat
  | .lit (.string bytes) => bytes.length + 1
  | .lit _ => 1
  | .nil => 1
  | .ptr d => uptoBulk d + 1
  | .slice elems spare => uptoBulkAll elems + uptoBulkAll spare + 1
  | .agg parts => uptoBulkAll parts + 1
  | .iface _ d => uptoBulk d + 1
  | .map entries => uptoBulkEntries entries + 1
  | .held _ => 1
def uptoBulkAll {H : Type} : List (DataW H) → Nat
  | [] => 0
  | d :: r => uptoBulk d + uptoBulkAll r
def uptoBulkEntries {H : Type} : List (Lit × DataW H) → Nat
  | [] => 0
  | x :: r => uptoBulkEntry x + uptoBulkEntries r
def uptoBulkEntry {H : Type} : Lit × DataW H → Nat
  | (.string bytes, d) => bytes.length + uptoBulk d + 1
  | (_, d) => uptoBulk d + 1
 end
def uptoSmall : (H : Type) → List (DataW H) → Bool := fun _ ds => decide (uptoBulkAll ds ≤ 1048576)
def OpenSpec.upto (s : _root_.Go.ChangeSpec) : _root_.Go.OpenSpec := { _root_.Go.OpenSpec.ofChange s with cond := some uptoSmall }

/-- 'pursuivantlaw22.CommitChecks', WHERE WHAT IT READS IS OF BULK AT MOST 1048576: true; the input reads as it did. -/
def commitChecksUptoRow : OpenClaim := { program := "ytpaelngpmbeedaadoor", sum := "726509ea81a88069d68a2bbfe453af67f9bfc9f4accd5ff7f00f6a4d585dc21c", func := "pursuivant/pursuivantlaw22.CommitChecks", spec := "commitChecks", unfollowed := true, recurses := true, named := ["pursuivant/check.table"], apart := false, laid := [("pursuivant/check.table", laid_pursuivant_check_table)], narrowed := true }
def CommitChecksUptoSaid : Prop := commitChecksUptoRow.holds Tryd.pinned (OpenSpec.upto commitChecksSpec)

/-- 'pursuivantlaw23.StoreTwice', WHERE WHAT IT READS IS OF BULK AT MOST 1048576: true; the input reads as it did. -/
def storeTwiceUptoRow : OpenClaim := { program := "ytpaelngpmbeedaadoor", sum := "726509ea81a88069d68a2bbfe453af67f9bfc9f4accd5ff7f00f6a4d585dc21c", func := "pursuivant/pursuivantlaw23.StoreTwice", spec := "storeTwice", unfollowed := true, recurses := true, named := ["pursuivant/check.table"], apart := false, laid := [("pursuivant/check.table", laid_pursuivant_check_table)], narrowed := true }
def StoreTwiceUptoSaid : Prop := storeTwiceUptoRow.holds Tryd.pinned (OpenSpec.upto storeTwiceSpec)

/-- 'pursuivantlaw23.StoreSure', WHERE WHAT IT READS IS OF BULK AT MOST 1048576: true; the input reads as it did. -/
def storeSureUptoRow : OpenClaim := { program := "ytpaelngpmbeedaadoor", sum := "726509ea81a88069d68a2bbfe453af67f9bfc9f4accd5ff7f00f6a4d585dc21c", func := "pursuivant/pursuivantlaw23.StoreSure", spec := "storeSure", unfollowed := true, recurses := true, named := ["pursuivant/check.table"], apart := false, laid := [("pursuivant/check.table", laid_pursuivant_check_table)], narrowed := true }
def StoreSureUptoSaid : Prop := storeSureUptoRow.holds Tryd.pinned (OpenSpec.upto storeSureSpec)

end Rows
end Go.Proofs.YtpaelngpmbeedaaDoor
