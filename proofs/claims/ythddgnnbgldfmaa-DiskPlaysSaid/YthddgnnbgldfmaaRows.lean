/-
  No cell of these rows narrows 'for every input' (looked for: loops, veiled, ifaces, maps, wideKeys, modest, calm, conditions, laid).
  DERIVED. THE GIVEN ROWS OF THIS SEAT. 8 by the template 'for every input the law returns true; each argument reads behind the call as it read before'; 0 by the template 'total and deterministic' (their statements: YthddgnnbgldfmaaTotals.lean).
  GIVEN WITH THE SEED: the statements are not yours to turn. If you find one false, say at which input.
  Laid BY PROGRAM, IN A SANDBOX (cutbox-rows.mjs): the forced cells as the released guide's own fill.sh prints them over the translation 3f986544e4f6ecec… (all of the seat's roots in one cut). By AI agents, Wed Nov 11 2026. No macro, syntax, notation, axiom, sorry.
-/
import Derived.Test.YthddgnnbgldfmaaChecked
import GoSem.Claim
import GoSem.ClaimJoined
import GoSem.ClaimMapViews
import Derived.JoinedTies
import Derived.KernelRfl
namespace Go.Proofs.Ythddgnnbgldfmaa
/- THE CELL 'sum', in the pinned program and in every row, IS THE sha256 OF THE DUMP (.gsa) THAT YthddgnnbgldfmaaProg.lean LOADS. Nothing in Lean hashes anything: it is a label: what it is worth is what the hold of that sum in a sandbox is worth. -/
noncomputable def Try.pinned : Pinned := { name := "ythddgnnbgldfmaa", sum := "3f986544e4f6ececbce4e8562529092afe236978d17dfd70320b3801135101ff", checked := Try.checked }
namespace Rows
def none {H : Type} : Left H := { results := [], args := [] }

/-- 'pursuivantlaw26.HolderEarly': WHATEVER THE INPUT: true; the input reads as it did. -/
def holderEarlySpec : ChangeSpec := { name := "holderEarly", fn := fun _ => fun
  | [d1, d2, d3, d4, d5] => { results := [.lit (.bool true)], args := [d1, d2, d3, d4, d5] }
  | _ => none }
def holderEarlyRow : OpenClaim := { program := "ythddgnnbgldfmaa", sum := "3f986544e4f6ececbce4e8562529092afe236978d17dfd70320b3801135101ff", func := "pursuivant/pursuivantlaw26.HolderEarly", spec := "holderEarly", apart := false }
def HolderEarlySaid : Prop := holderEarlyRow.holds Try.pinned (OpenSpec.ofChange holderEarlySpec)

/-- ITS FALSE NEIGHBOUR: 'it returns false'. Refute it at one input. -/
def holderEarlyWrong : ChangeSpec := { name := "holderEarly", fn := fun _ => fun
  | [d1, d2, d3, d4, d5] => { results := [.lit (.bool false)], args := [d1, d2, d3, d4, d5] }
  | _ => none }
def HolderEarlyWrongFalsely : Prop := holderEarlyRow.holds Try.pinned (OpenSpec.ofChange holderEarlyWrong)

/-- 'pursuivantlaw26.HolderPlays': WHATEVER THE INPUT: true; the input reads as it did. -/
def holderPlaysSpec : ChangeSpec := { name := "holderPlays", fn := fun _ => fun
  | [d1, d2] => { results := [.lit (.bool true)], args := [d1, d2] }
  | _ => none }
def holderPlaysRow : OpenClaim := { program := "ythddgnnbgldfmaa", sum := "3f986544e4f6ececbce4e8562529092afe236978d17dfd70320b3801135101ff", func := "pursuivant/pursuivantlaw26.HolderPlays", spec := "holderPlays", apart := false }
def HolderPlaysSaid : Prop := holderPlaysRow.holds Try.pinned (OpenSpec.ofChange holderPlaysSpec)

/-- ITS FALSE NEIGHBOUR: 'it returns false'. Refute it at one input. -/
def holderPlaysWrong : ChangeSpec := { name := "holderPlays", fn := fun _ => fun
  | [d1, d2] => { results := [.lit (.bool false)], args := [d1, d2] }
  | _ => none }
def HolderPlaysWrongFalsely : Prop := holderPlaysRow.holds Try.pinned (OpenSpec.ofChange holderPlaysWrong)

/-- 'pursuivantlaw04.DiskOld': WHATEVER THE INPUT: true; the input reads as it did. -/
def diskOldSpec : ChangeSpec := { name := "diskOld", fn := fun _ => fun
  | [d1, d2, d3, d4] => { results := [.lit (.bool true)], args := [d1, d2, d3, d4] }
  | _ => none }
def diskOldRow : OpenClaim := { program := "ythddgnnbgldfmaa", sum := "3f986544e4f6ececbce4e8562529092afe236978d17dfd70320b3801135101ff", func := "pursuivant/pursuivantlaw04.DiskOld", spec := "diskOld", apart := false }
def DiskOldSaid : Prop := diskOldRow.holds Try.pinned (OpenSpec.ofChange diskOldSpec)

/-- ITS FALSE NEIGHBOUR: 'it returns false'. Refute it at one input. -/
def diskOldWrong : ChangeSpec := { name := "diskOld", fn := fun _ => fun
  | [d1, d2, d3, d4] => { results := [.lit (.bool false)], args := [d1, d2, d3, d4] }
  | _ => none }
def DiskOldWrongFalsely : Prop := diskOldRow.holds Try.pinned (OpenSpec.ofChange diskOldWrong)

/-- 'pursuivantlaw04.DiskSure': WHATEVER THE INPUT: true; the input reads as it did. -/
def diskSureSpec : ChangeSpec := { name := "diskSure", fn := fun _ => fun
  | [d1, d2, d3] => { results := [.lit (.bool true)], args := [d1, d2, d3] }
  | _ => none }
def diskSureRow : OpenClaim := { program := "ythddgnnbgldfmaa", sum := "3f986544e4f6ececbce4e8562529092afe236978d17dfd70320b3801135101ff", func := "pursuivant/pursuivantlaw04.DiskSure", spec := "diskSure", apart := false }
def DiskSureSaid : Prop := diskSureRow.holds Try.pinned (OpenSpec.ofChange diskSureSpec)

/-- ITS FALSE NEIGHBOUR: 'it returns false'. Refute it at one input. -/
def diskSureWrong : ChangeSpec := { name := "diskSure", fn := fun _ => fun
  | [d1, d2, d3] => { results := [.lit (.bool false)], args := [d1, d2, d3] }
  | _ => none }
def DiskSureWrongFalsely : Prop := diskSureRow.holds Try.pinned (OpenSpec.ofChange diskSureWrong)

/-- 'pursuivantlaw04.DiskWhole': WHATEVER THE INPUT: true; the input reads as it did. -/
def diskWholeSpec : ChangeSpec := { name := "diskWhole", fn := fun _ => fun
  | [d1, d2] => { results := [.lit (.bool true)], args := [d1, d2] }
  | _ => none }
def diskWholeRow : OpenClaim := { program := "ythddgnnbgldfmaa", sum := "3f986544e4f6ececbce4e8562529092afe236978d17dfd70320b3801135101ff", func := "pursuivant/pursuivantlaw04.DiskWhole", spec := "diskWhole", apart := false }
def DiskWholeSaid : Prop := diskWholeRow.holds Try.pinned (OpenSpec.ofChange diskWholeSpec)

/-- ITS FALSE NEIGHBOUR: 'it returns false'. Refute it at one input. -/
def diskWholeWrong : ChangeSpec := { name := "diskWhole", fn := fun _ => fun
  | [d1, d2] => { results := [.lit (.bool false)], args := [d1, d2] }
  | _ => none }
def DiskWholeWrongFalsely : Prop := diskWholeRow.holds Try.pinned (OpenSpec.ofChange diskWholeWrong)

/-- 'pursuivantlaw04.DiskFuse': WHATEVER THE INPUT: true; the input reads as it did. -/
def diskFuseSpec : ChangeSpec := { name := "diskFuse", fn := fun _ => fun
  | [d1, d2] => { results := [.lit (.bool true)], args := [d1, d2] }
  | _ => none }
def diskFuseRow : OpenClaim := { program := "ythddgnnbgldfmaa", sum := "3f986544e4f6ececbce4e8562529092afe236978d17dfd70320b3801135101ff", func := "pursuivant/pursuivantlaw04.DiskFuse", spec := "diskFuse", apart := false }
def DiskFuseSaid : Prop := diskFuseRow.holds Try.pinned (OpenSpec.ofChange diskFuseSpec)

/-- ITS FALSE NEIGHBOUR: 'it returns false'. Refute it at one input. -/
def diskFuseWrong : ChangeSpec := { name := "diskFuse", fn := fun _ => fun
  | [d1, d2] => { results := [.lit (.bool false)], args := [d1, d2] }
  | _ => none }
def DiskFuseWrongFalsely : Prop := diskFuseRow.holds Try.pinned (OpenSpec.ofChange diskFuseWrong)

/-- 'pursuivantlaw04.DiskCopy': WHATEVER THE INPUT: true; the input reads as it did. -/
def diskCopySpec : ChangeSpec := { name := "diskCopy", fn := fun _ => fun
  | [d1, d2] => { results := [.lit (.bool true)], args := [d1, d2] }
  | _ => none }
def diskCopyRow : OpenClaim := { program := "ythddgnnbgldfmaa", sum := "3f986544e4f6ececbce4e8562529092afe236978d17dfd70320b3801135101ff", func := "pursuivant/pursuivantlaw04.DiskCopy", spec := "diskCopy", apart := false }
def DiskCopySaid : Prop := diskCopyRow.holds Try.pinned (OpenSpec.ofChange diskCopySpec)

/-- ITS FALSE NEIGHBOUR: 'it returns false'. Refute it at one input. -/
def diskCopyWrong : ChangeSpec := { name := "diskCopy", fn := fun _ => fun
  | [d1, d2] => { results := [.lit (.bool false)], args := [d1, d2] }
  | _ => none }
def DiskCopyWrongFalsely : Prop := diskCopyRow.holds Try.pinned (OpenSpec.ofChange diskCopyWrong)

/-- 'pursuivantlaw04.DiskPlays': WHATEVER THE INPUT: true; the input reads as it did. -/
def diskPlaysSpec : ChangeSpec := { name := "diskPlays", fn := fun _ => fun
  | [d1, d2] => { results := [.lit (.bool true)], args := [d1, d2] }
  | _ => none }
def diskPlaysRow : OpenClaim := { program := "ythddgnnbgldfmaa", sum := "3f986544e4f6ececbce4e8562529092afe236978d17dfd70320b3801135101ff", func := "pursuivant/pursuivantlaw04.DiskPlays", spec := "diskPlays", apart := false }
def DiskPlaysSaid : Prop := diskPlaysRow.holds Try.pinned (OpenSpec.ofChange diskPlaysSpec)

/-- ITS FALSE NEIGHBOUR: 'it returns false'. Refute it at one input. -/
def diskPlaysWrong : ChangeSpec := { name := "diskPlays", fn := fun _ => fun
  | [d1, d2] => { results := [.lit (.bool false)], args := [d1, d2] }
  | _ => none }
def DiskPlaysWrongFalsely : Prop := diskPlaysRow.holds Try.pinned (OpenSpec.ofChange diskPlaysWrong)

/- THE SECOND FORM. 'bulk': how many values and letters a reading holds, each counted each time it is reached (what is shared counts as often as it is met; a slice's spare places count too). A statement '..UptoSaid' is the law's where the arguments, and the package variables that the reading takes, are together of bulk at most 1048576: NARROWER than '..Said'. Prove '..Said' where nothing that the law and all that it calls make is longer than what came in: it says more and counts as full. Else prove '..UptoSaid'. A law counts once. -/
mutual
def uptoBulk {H : Type} : DataW H → Nat
  | .lit (.string bytes) => bytes.length + 1
  | .lit _ => 1
  | .nil => 1
  | .ptr d => uptoBulk d + 1
  | .slice elems spare => uptoBulkAll elems + uptoBulkAll spare + 1
  | .agg parts => uptoBulkAll parts + 1
  | .iface _ d => uptoBulk d + 1
  | .map entries => uptoBulkEntries entries + 1
  | .held _ => 1
def uptoBulkAll {H : Type} : List (DataW H) → Nat
  | [] => 0
  | d :: r => uptoBulk d + uptoBulkAll r
def uptoBulkEntries {H : Type} : List (Lit × DataW H) → Nat
  | [] => 0
  | x :: r => uptoBulkEntry x + uptoBulkEntries r
def uptoBulkEntry {H : Type} : Lit × DataW H → Nat
  | (.string bytes, d) => bytes.length + uptoBulk d + 1
  | (_, d) => uptoBulk d + 1
 end
def uptoSmall : (H : Type) → List (DataW H) → Bool := fun _ ds => decide (uptoBulkAll ds ≤ 1048576)
def OpenSpec.upto (s : _root_.Go.ChangeSpec) : _root_.Go.OpenSpec := { _root_.Go.OpenSpec.ofChange s with cond := some uptoSmall }

/-- 'pursuivantlaw26.HolderEarly', WHERE WHAT IT READS IS OF BULK AT MOST 1048576: true; the input reads as it did. -/
def holderEarlyUptoRow : OpenClaim := { program := "ythddgnnbgldfmaa", sum := "3f986544e4f6ececbce4e8562529092afe236978d17dfd70320b3801135101ff", func := "pursuivant/pursuivantlaw26.HolderEarly", spec := "holderEarly", apart := false, narrowed := true }
def HolderEarlyUptoSaid : Prop := holderEarlyUptoRow.holds Try.pinned (OpenSpec.upto holderEarlySpec)

/-- 'pursuivantlaw26.HolderPlays', WHERE WHAT IT READS IS OF BULK AT MOST 1048576: true; the input reads as it did. -/
def holderPlaysUptoRow : OpenClaim := { program := "ythddgnnbgldfmaa", sum := "3f986544e4f6ececbce4e8562529092afe236978d17dfd70320b3801135101ff", func := "pursuivant/pursuivantlaw26.HolderPlays", spec := "holderPlays", apart := false, narrowed := true }
def HolderPlaysUptoSaid : Prop := holderPlaysUptoRow.holds Try.pinned (OpenSpec.upto holderPlaysSpec)

/-- 'pursuivantlaw04.DiskOld', WHERE WHAT IT READS IS OF BULK AT MOST 1048576: true; the input reads as it did. -/
def diskOldUptoRow : OpenClaim := { program := "ythddgnnbgldfmaa", sum := "3f986544e4f6ececbce4e8562529092afe236978d17dfd70320b3801135101ff", func := "pursuivant/pursuivantlaw04.DiskOld", spec := "diskOld", apart := false, narrowed := true }
def DiskOldUptoSaid : Prop := diskOldUptoRow.holds Try.pinned (OpenSpec.upto diskOldSpec)

/-- 'pursuivantlaw04.DiskSure', WHERE WHAT IT READS IS OF BULK AT MOST 1048576: true; the input reads as it did. -/
def diskSureUptoRow : OpenClaim := { program := "ythddgnnbgldfmaa", sum := "3f986544e4f6ececbce4e8562529092afe236978d17dfd70320b3801135101ff", func := "pursuivant/pursuivantlaw04.DiskSure", spec := "diskSure", apart := false, narrowed := true }
def DiskSureUptoSaid : Prop := diskSureUptoRow.holds Try.pinned (OpenSpec.upto diskSureSpec)

/-- 'pursuivantlaw04.DiskWhole', WHERE WHAT IT READS IS OF BULK AT MOST 1048576: true; the input reads as it did. -/
def diskWholeUptoRow : OpenClaim := { program := "ythddgnnbgldfmaa", sum := "3f986544e4f6ececbce4e8562529092afe236978d17dfd70320b3801135101ff", func := "pursuivant/pursuivantlaw04.DiskWhole", spec := "diskWhole", apart := false, narrowed := true }
def DiskWholeUptoSaid : Prop := diskWholeUptoRow.holds Try.pinned (OpenSpec.upto diskWholeSpec)

/-- 'pursuivantlaw04.DiskFuse', WHERE WHAT IT READS IS OF BULK AT MOST 1048576: true; the input reads as it did. -/
def diskFuseUptoRow : OpenClaim := { program := "ythddgnnbgldfmaa", sum := "3f986544e4f6ececbce4e8562529092afe236978d17dfd70320b3801135101ff", func := "pursuivant/pursuivantlaw04.DiskFuse", spec := "diskFuse", apart := false, narrowed := true }
def DiskFuseUptoSaid : Prop := diskFuseUptoRow.holds Try.pinned (OpenSpec.upto diskFuseSpec)

/-- 'pursuivantlaw04.DiskCopy', WHERE WHAT IT READS IS OF BULK AT MOST 1048576: true; the input reads as it did. -/
def diskCopyUptoRow : OpenClaim := { program := "ythddgnnbgldfmaa", sum := "3f986544e4f6ececbce4e8562529092afe236978d17dfd70320b3801135101ff", func := "pursuivant/pursuivantlaw04.DiskCopy", spec := "diskCopy", apart := false, narrowed := true }
def DiskCopyUptoSaid : Prop := diskCopyUptoRow.holds Try.pinned (OpenSpec.upto diskCopySpec)

/-- 'pursuivantlaw04.DiskPlays', WHERE WHAT IT READS IS OF BULK AT MOST 1048576: true; the input reads as it did. -/
def diskPlaysUptoRow : OpenClaim := { program := "ythddgnnbgldfmaa", sum := "3f986544e4f6ececbce4e8562529092afe236978d17dfd70320b3801135101ff", func := "pursuivant/pursuivantlaw04.DiskPlays", spec := "diskPlays", apart := false, narrowed := true }
def DiskPlaysUptoSaid : Prop := diskPlaysUptoRow.holds Try.pinned (OpenSpec.upto diskPlaysSpec)

end Rows
end Go.Proofs.Ythddgnnbgldfmaa
