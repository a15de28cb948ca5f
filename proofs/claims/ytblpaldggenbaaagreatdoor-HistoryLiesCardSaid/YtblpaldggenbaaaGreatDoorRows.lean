/-
  NARROWER THAN 'FOR EVERY INPUT', by the rows' own cells (each row's printed sentence says how): WorldTokens: laid · WorldSure: laid · WorldLate: laid · HistoryWorld: laid · HistoryLies: laid.
  DERIVED. THE GIVEN ROWS OF THIS SEAT. 5 by the template 'for every input the law returns true; each argument reads behind the call as it read before'; 0 by the template 'total and deterministic' (their statements: YtblpaldggenbaaaGreatDoorTotals.lean).
  GIVEN WITH THE SEED: the statements are not yours to turn. If you find one false, say at which input.
  Laid BY PROGRAM, IN A SANDBOX (cutbox-rows.mjs): the forced cells as the released guide's own fill.sh prints them over the translation 9dd3e9e9e136631b… (all of the seat's roots in one cut). By AI agents, Wed Nov 11 2026. No macro, syntax, notation, axiom, sorry.
-/
import Derived.Test.YtblpaldggenbaaaGreatDoorChecked
import GoSem.Claim
import GoSem.ClaimJoined
import GoSem.ClaimMapViews
import Derived.JoinedTies
import Derived.KernelRfl
namespace Go.Proofs.YtblpaldggenbaaaGreatDoor
/- THE CELL 'sum', in the pinned program and in every row, IS THE sha256 OF THE DUMP (.gsa) THAT YtblpaldggenbaaaGreatDoorProg.lean LOADS. Nothing in Lean hashes anything: it is a label: what it is worth is what the hold of that sum in a sandbox is worth. -/
noncomputable def Tryz.pinned : Pinned := { name := "ytblpaldggenbaaagreatdoor", sum := "9dd3e9e9e136631b006000afb4607e69e9d58d57e5f304d37c92361aaa7cbe46", checked := Tryz.checked }
namespace Rows
def none {H : Type} : Left H := { results := [], args := [] }

/- WHAT THE LISTED PACKAGE-LEVEL VARIABLES READ AS WHEN THE CALL BEGINS. Each datum BY PROGRAM (the guide's laid-datum.mjs) off the statement by which the dump's own 'gosem.cut.vars' lays the variable. In a bare row this is a premise. The card (YtblpaldggenbaaaGreatDoorCards.lean) ties it to the program's text. -/
def laid_pursuivant_check_table {H : Type} : DataW H := .agg [.lit (.int .u32 0), .lit (.int .u32 498536548), .lit (.int .u32 997073096), .lit (.int .u32 651767980), .lit (.int .u32 1994146192), .lit (.int .u32 1802195444), .lit (.int .u32 1303535960), .lit (.int .u32 1342533948), .lit (.int .u32 3988292384), .lit (.int .u32 4027552580), .lit (.int .u32 3604390888), .lit (.int .u32 3412177804), .lit (.int .u32 2607071920), .lit (.int .u32 2262029012), .lit (.int .u32 2685067896), .lit (.int .u32 3183342108)]

/-- 'pursuivantlaw27.WorldTokens': WHATEVER THE INPUT: true; the input reads as it did. -/
def worldTokensSpec : ChangeSpec := { name := "worldTokens", fn := fun _ => fun
  | [d] => { results := [.lit (.bool true)], args := [d] }
  | _ => none }
def worldTokensRow : OpenClaim := { program := "ytblpaldggenbaaagreatdoor", sum := "9dd3e9e9e136631b006000afb4607e69e9d58d57e5f304d37c92361aaa7cbe46", func := "pursuivant/pursuivantlaw27.WorldTokens", spec := "worldTokens", unfollowed := true, recurses := true, named := ["pursuivant/check.table"], apart := false, laid := [("pursuivant/check.table", laid_pursuivant_check_table)] }
def WorldTokensSaid : Prop := worldTokensRow.holds Tryz.pinned (OpenSpec.ofChange worldTokensSpec)

/-- ITS FALSE NEIGHBOUR: 'it returns false'. Refute it at one input. -/
def worldTokensWrong : ChangeSpec := { name := "worldTokens", fn := fun _ => fun
  | [d] => { results := [.lit (.bool false)], args := [d] }
  | _ => none }
def WorldTokensWrongFalsely : Prop := worldTokensRow.holds Tryz.pinned (OpenSpec.ofChange worldTokensWrong)

/-- 'pursuivantlaw27.WorldSure': WHATEVER THE INPUT: true; the input reads as it did. -/
def worldSureSpec : ChangeSpec := { name := "worldSure", fn := fun _ => fun
  | [d1, d2, d3, d4, d5, d6] => { results := [.lit (.bool true)], args := [d1, d2, d3, d4, d5, d6] }
  | _ => none }
def worldSureRow : OpenClaim := { program := "ytblpaldggenbaaagreatdoor", sum := "9dd3e9e9e136631b006000afb4607e69e9d58d57e5f304d37c92361aaa7cbe46", func := "pursuivant/pursuivantlaw27.WorldSure", spec := "worldSure", unfollowed := true, recurses := true, named := ["pursuivant/check.table"], apart := false, laid := [("pursuivant/check.table", laid_pursuivant_check_table)] }
def WorldSureSaid : Prop := worldSureRow.holds Tryz.pinned (OpenSpec.ofChange worldSureSpec)

/-- ITS FALSE NEIGHBOUR: 'it returns false'. Refute it at one input. -/
def worldSureWrong : ChangeSpec := { name := "worldSure", fn := fun _ => fun
  | [d1, d2, d3, d4, d5, d6] => { results := [.lit (.bool false)], args := [d1, d2, d3, d4, d5, d6] }
  | _ => none }
def WorldSureWrongFalsely : Prop := worldSureRow.holds Tryz.pinned (OpenSpec.ofChange worldSureWrong)

/-- 'pursuivantlaw27.WorldLate': WHATEVER THE INPUT: true; the input reads as it did. -/
def worldLateSpec : ChangeSpec := { name := "worldLate", fn := fun _ => fun
  | [d1, d2] => { results := [.lit (.bool true)], args := [d1, d2] }
  | _ => none }
def worldLateRow : OpenClaim := { program := "ytblpaldggenbaaagreatdoor", sum := "9dd3e9e9e136631b006000afb4607e69e9d58d57e5f304d37c92361aaa7cbe46", func := "pursuivant/pursuivantlaw27.WorldLate", spec := "worldLate", unfollowed := true, recurses := true, named := ["pursuivant/check.table"], apart := false, laid := [("pursuivant/check.table", laid_pursuivant_check_table)] }
def WorldLateSaid : Prop := worldLateRow.holds Tryz.pinned (OpenSpec.ofChange worldLateSpec)

/-- ITS FALSE NEIGHBOUR: 'it returns false'. Refute it at one input. -/
def worldLateWrong : ChangeSpec := { name := "worldLate", fn := fun _ => fun
  | [d1, d2] => { results := [.lit (.bool false)], args := [d1, d2] }
  | _ => none }
def WorldLateWrongFalsely : Prop := worldLateRow.holds Tryz.pinned (OpenSpec.ofChange worldLateWrong)

/-- 'pursuivantlaw28.HistoryWorld': WHATEVER THE INPUT: true; the input reads as it did. -/
def historyWorldSpec : ChangeSpec := { name := "historyWorld", fn := fun _ => fun
  | [d] => { results := [.lit (.bool true)], args := [d] }
  | _ => none }
def historyWorldRow : OpenClaim := { program := "ytblpaldggenbaaagreatdoor", sum := "9dd3e9e9e136631b006000afb4607e69e9d58d57e5f304d37c92361aaa7cbe46", func := "pursuivant/pursuivantlaw28.HistoryWorld", spec := "historyWorld", unfollowed := true, recurses := true, named := ["pursuivant/check.table"], apart := false, laid := [("pursuivant/check.table", laid_pursuivant_check_table)] }
def HistoryWorldSaid : Prop := historyWorldRow.holds Tryz.pinned (OpenSpec.ofChange historyWorldSpec)

/-- ITS FALSE NEIGHBOUR: 'it returns false'. Refute it at one input. -/
def historyWorldWrong : ChangeSpec := { name := "historyWorld", fn := fun _ => fun
  | [d] => { results := [.lit (.bool false)], args := [d] }
  | _ => none }
def HistoryWorldWrongFalsely : Prop := historyWorldRow.holds Tryz.pinned (OpenSpec.ofChange historyWorldWrong)

/-- 'pursuivantlaw28.HistoryLies': WHATEVER THE INPUT: true; the input reads as it did. -/
def historyLiesSpec : ChangeSpec := { name := "historyLies", fn := fun _ => fun
  | [d1, d2, d3] => { results := [.lit (.bool true)], args := [d1, d2, d3] }
  | _ => none }
def historyLiesRow : OpenClaim := { program := "ytblpaldggenbaaagreatdoor", sum := "9dd3e9e9e136631b006000afb4607e69e9d58d57e5f304d37c92361aaa7cbe46", func := "pursuivant/pursuivantlaw28.HistoryLies", spec := "historyLies", unfollowed := true, recurses := true, named := ["pursuivant/check.table"], apart := false, laid := [("pursuivant/check.table", laid_pursuivant_check_table)] }
def HistoryLiesSaid : Prop := historyLiesRow.holds Tryz.pinned (OpenSpec.ofChange historyLiesSpec)

/-- ITS FALSE NEIGHBOUR: 'it returns false'. Refute it at one input. -/
def historyLiesWrong : ChangeSpec := { name := "historyLies", fn := fun _ => fun
  | [d1, d2, d3] => { results := [.lit (.bool false)], args := [d1, d2, d3] }
  | _ => none }
def HistoryLiesWrongFalsely : Prop := historyLiesRow.holds Tryz.pinned (OpenSpec.ofChange historyLiesWrong)

/- THE SECOND FORM. 'bulk': how many values and letters a reading holds, each counted each time it is reached (what is shared counts as often as it is met; a slice's spare places count too). A statement '..UptoSaid' is the law's where the arguments, and the package variables that the reading takes, are together of bulk at most 1048576: NARROWER than '..Said'. Prove '..Said' where nothing that the law and all that it calls make is longer than what came in: it says more and counts as full. Else prove '..UptoSaid'. A law counts once. -/
mutual
def uptoBulk {H : Type} : DataW H → Nat
  | .lit (.string bytes) => bytes.length + 1
  | .lit _ => 1
  | .nil => 1
  | .ptr d => uptoBulk d + 1
  | .slice elems spare => uptoBulkAll elems + uptoBulkAll spare + 1
  | .agg parts => uptoBulkAll parts + 1
  | .iface _ d => uptoBulk d + 1
  | .map entries => uptoBulkEntries entries + 1
  | .held _ => 1
def uptoBulkAll {H : Type} : List (DataW H) → Nat
  | [] => 0
  | d :: r => uptoBulk d + uptoBulkAll r
def uptoBulkEntries {H : Type} : List (Lit × DataW H) → Nat
  | [] => 0
  | x :: r => uptoBulkEntry x + uptoBulkEntries r
def uptoBulkEntry {H : Type} : Lit × DataW H → Nat
  | (.string bytes, d) => bytes.length + uptoBulk d + 1
  | (_, d) => uptoBulk d + 1
 end
def uptoSmall : (H : Type) → List (DataW H) → Bool := fun _ ds => decide (uptoBulkAll ds ≤ 1048576)
def OpenSpec.upto (s : _root_.Go.ChangeSpec) : _root_.Go.OpenSpec := { _root_.Go.OpenSpec.ofChange s with cond := some uptoSmall }

/-- 'pursuivantlaw27.WorldTokens', WHERE WHAT IT READS IS OF BULK AT MOST 1048576: true; the input reads as it did. -/
def worldTokensUptoRow : OpenClaim := { program := "ytblpaldggenbaaagreatdoor", sum := "9dd3e9e9e136631b006000afb4607e69e9d58d57e5f304d37c92361aaa7cbe46", func := "pursuivant/pursuivantlaw27.WorldTokens", spec := "worldTokens", unfollowed := true, recurses := true, named := ["pursuivant/check.table"], apart := false, laid := [("pursuivant/check.table", laid_pursuivant_check_table)], narrowed := true }
def WorldTokensUptoSaid : Prop := worldTokensUptoRow.holds Tryz.pinned (OpenSpec.upto worldTokensSpec)

/-- 'pursuivantlaw27.WorldSure', WHERE WHAT IT READS IS OF BULK AT MOST 1048576: true; the input reads as it did. -/
def worldSureUptoRow : OpenClaim := { program := "ytblpaldggenbaaagreatdoor", sum := "9dd3e9e9e136631b006000afb4607e69e9d58d57e5f304d37c92361aaa7cbe46", func := "pursuivant/pursuivantlaw27.WorldSure", spec := "worldSure", unfollowed := true, recurses := true, named := ["pursuivant/check.table"], apart := false, laid := [("pursuivant/check.table", laid_pursuivant_check_table)], narrowed := true }
def WorldSureUptoSaid : Prop := worldSureUptoRow.holds Tryz.pinned (OpenSpec.upto worldSureSpec)

/-- 'pursuivantlaw27.WorldLate', WHERE WHAT IT READS IS OF BULK AT MOST 1048576: true; the input reads as it did. -/
def worldLateUptoRow : OpenClaim := { program := "ytblpaldggenbaaagreatdoor", sum := "9dd3e9e9e136631b006000afb4607e69e9d58d57e5f304d37c92361aaa7cbe46", func := "pursuivant/pursuivantlaw27.WorldLate", spec := "worldLate", unfollowed := true, recurses := true, named := ["pursuivant/check.table"], apart := false, laid := [("pursuivant/check.table", laid_pursuivant_check_table)], narrowed := true }
def WorldLateUptoSaid : Prop := worldLateUptoRow.holds Tryz.pinned (OpenSpec.upto worldLateSpec)

/-- 'pursuivantlaw28.HistoryWorld', WHERE WHAT IT READS IS OF BULK AT MOST 1048576: true; the input reads as it did. -/
def historyWorldUptoRow : OpenClaim := { program := "ytblpaldggenbaaagreatdoor", sum := "9dd3e9e9e136631b006000afb4607e69e9d58d57e5f304d37c92361aaa7cbe46", func := "pursuivant/pursuivantlaw28.HistoryWorld", spec := "historyWorld", unfollowed := true, recurses := true, named := ["pursuivant/check.table"], apart := false, laid := [("pursuivant/check.table", laid_pursuivant_check_table)], narrowed := true }
def HistoryWorldUptoSaid : Prop := historyWorldUptoRow.holds Tryz.pinned (OpenSpec.upto historyWorldSpec)

/-- 'pursuivantlaw28.HistoryLies', WHERE WHAT IT READS IS OF BULK AT MOST 1048576: true; the input reads as it did. -/
def historyLiesUptoRow : OpenClaim := { program := "ytblpaldggenbaaagreatdoor", sum := "9dd3e9e9e136631b006000afb4607e69e9d58d57e5f304d37c92361aaa7cbe46", func := "pursuivant/pursuivantlaw28.HistoryLies", spec := "historyLies", unfollowed := true, recurses := true, named := ["pursuivant/check.table"], apart := false, laid := [("pursuivant/check.table", laid_pursuivant_check_table)], narrowed := true }
def HistoryLiesUptoSaid : Prop := historyLiesUptoRow.holds Tryz.pinned (OpenSpec.upto historyLiesSpec)

end Rows
end Go.Proofs.YtblpaldggenbaaaGreatDoor
