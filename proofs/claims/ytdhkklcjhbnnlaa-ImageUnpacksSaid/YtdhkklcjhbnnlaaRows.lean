/-
  No cell of these rows narrows 'for every input' (looked for: loops, veiled, ifaces, maps, wideKeys, modest, calm, conditions, laid).
  DERIVED. THE GIVEN ROWS OF THIS SEAT. 13 by the template 'for every input the law returns true; each argument reads behind the call as it read before'; 0 by the template 'total and deterministic' (their statements: YtdhkklcjhbnnlaaTotals.lean).
  GIVEN WITH THE SEED: the statements are not yours to turn. If you find one false, say at which input.
  Laid BY PROGRAM, IN A SANDBOX (cutbox-rows.mjs): the forced cells as the released guide's own fill.sh prints them over the translation ff3d80ac4876719f… (all of the seat's roots in one cut). By AI agents, Wed Nov 11 2026. No macro, syntax, notation, axiom, sorry.
-/
import Derived.Test.YtdhkklcjhbnnlaaChecked
import GoSem.Claim
import GoSem.ClaimJoined
import GoSem.ClaimMapViews
import Derived.JoinedTies
import Derived.KernelRfl
namespace Go.Proofs.Ytdhkklcjhbnnlaa
/- THE CELL 'sum', in the pinned program and in every row, IS THE sha256 OF THE DUMP (.gsa) THAT YtdhkklcjhbnnlaaProg.lean LOADS. Nothing in Lean hashes anything: it is a label: what it is worth is what the hold of that sum in a sandbox is worth. -/
noncomputable def Try.pinned : Pinned := { name := "ytdhkklcjhbnnlaa", sum := "ff3d80ac4876719fc84905bdefb378fc1f307fcfd50c865ea8270fde61480e78", checked := Try.checked }
namespace Rows
def none {H : Type} : Left H := { results := [], args := [] }

/-- 'pursuivantlaw01.PackEncodes': WHATEVER THE INPUT: true; the input reads as it did. -/
def packEncodesSpec : ChangeSpec := { name := "packEncodes", fn := fun _ => fun
  | [d] => { results := [.lit (.bool true)], args := [d] }
  | _ => none }
def packEncodesRow : OpenClaim := { program := "ytdhkklcjhbnnlaa", sum := "ff3d80ac4876719fc84905bdefb378fc1f307fcfd50c865ea8270fde61480e78", func := "pursuivant/pursuivantlaw01.PackEncodes", spec := "packEncodes", unfollowed := true, recurses := true, apart := false }
def PackEncodesSaid : Prop := packEncodesRow.holds Try.pinned (OpenSpec.ofChange packEncodesSpec)

/-- ITS FALSE NEIGHBOUR: 'it returns false'. Refute it at one input. -/
def packEncodesWrong : ChangeSpec := { name := "packEncodes", fn := fun _ => fun
  | [d] => { results := [.lit (.bool false)], args := [d] }
  | _ => none }
def PackEncodesWrongFalsely : Prop := packEncodesRow.holds Try.pinned (OpenSpec.ofChange packEncodesWrong)

/-- 'pursuivantlaw01.PackDecodes': WHATEVER THE INPUT: true; the input reads as it did. -/
def packDecodesSpec : ChangeSpec := { name := "packDecodes", fn := fun _ => fun
  | [d1, d2] => { results := [.lit (.bool true)], args := [d1, d2] }
  | _ => none }
def packDecodesRow : OpenClaim := { program := "ytdhkklcjhbnnlaa", sum := "ff3d80ac4876719fc84905bdefb378fc1f307fcfd50c865ea8270fde61480e78", func := "pursuivant/pursuivantlaw01.PackDecodes", spec := "packDecodes", unfollowed := true, recurses := true, apart := false }
def PackDecodesSaid : Prop := packDecodesRow.holds Try.pinned (OpenSpec.ofChange packDecodesSpec)

/-- ITS FALSE NEIGHBOUR: 'it returns false'. Refute it at one input. -/
def packDecodesWrong : ChangeSpec := { name := "packDecodes", fn := fun _ => fun
  | [d1, d2] => { results := [.lit (.bool false)], args := [d1, d2] }
  | _ => none }
def PackDecodesWrongFalsely : Prop := packDecodesRow.holds Try.pinned (OpenSpec.ofChange packDecodesWrong)

/-- 'pursuivantlaw01.PackWrites': WHATEVER THE INPUT: true; the input reads as it did. -/
def packWritesSpec : ChangeSpec := { name := "packWrites", fn := fun _ => fun
  | [d] => { results := [.lit (.bool true)], args := [d] }
  | _ => none }
def packWritesRow : OpenClaim := { program := "ytdhkklcjhbnnlaa", sum := "ff3d80ac4876719fc84905bdefb378fc1f307fcfd50c865ea8270fde61480e78", func := "pursuivant/pursuivantlaw01.PackWrites", spec := "packWrites", unfollowed := true, recurses := true, apart := false }
def PackWritesSaid : Prop := packWritesRow.holds Try.pinned (OpenSpec.ofChange packWritesSpec)

/-- ITS FALSE NEIGHBOUR: 'it returns false'. Refute it at one input. -/
def packWritesWrong : ChangeSpec := { name := "packWrites", fn := fun _ => fun
  | [d] => { results := [.lit (.bool false)], args := [d] }
  | _ => none }
def PackWritesWrongFalsely : Prop := packWritesRow.holds Try.pinned (OpenSpec.ofChange packWritesWrong)

/-- 'pursuivantlaw01.PackBack': WHATEVER THE INPUT: true; the input reads as it did. -/
def packBackSpec : ChangeSpec := { name := "packBack", fn := fun _ => fun
  | [d] => { results := [.lit (.bool true)], args := [d] }
  | _ => none }
def packBackRow : OpenClaim := { program := "ytdhkklcjhbnnlaa", sum := "ff3d80ac4876719fc84905bdefb378fc1f307fcfd50c865ea8270fde61480e78", func := "pursuivant/pursuivantlaw01.PackBack", spec := "packBack", unfollowed := true, recurses := true, apart := false }
def PackBackSaid : Prop := packBackRow.holds Try.pinned (OpenSpec.ofChange packBackSpec)

/-- ITS FALSE NEIGHBOUR: 'it returns false'. Refute it at one input. -/
def packBackWrong : ChangeSpec := { name := "packBack", fn := fun _ => fun
  | [d] => { results := [.lit (.bool false)], args := [d] }
  | _ => none }
def PackBackWrongFalsely : Prop := packBackRow.holds Try.pinned (OpenSpec.ofChange packBackWrong)

/-- 'pursuivantlaw01.PackAgain': WHATEVER THE INPUT: true; the input reads as it did. -/
def packAgainSpec : ChangeSpec := { name := "packAgain", fn := fun _ => fun
  | [d1, d2, d3] => { results := [.lit (.bool true)], args := [d1, d2, d3] }
  | _ => none }
def packAgainRow : OpenClaim := { program := "ytdhkklcjhbnnlaa", sum := "ff3d80ac4876719fc84905bdefb378fc1f307fcfd50c865ea8270fde61480e78", func := "pursuivant/pursuivantlaw01.PackAgain", spec := "packAgain", unfollowed := true, recurses := true, apart := false }
def PackAgainSaid : Prop := packAgainRow.holds Try.pinned (OpenSpec.ofChange packAgainSpec)

/-- ITS FALSE NEIGHBOUR: 'it returns false'. Refute it at one input. -/
def packAgainWrong : ChangeSpec := { name := "packAgain", fn := fun _ => fun
  | [d1, d2, d3] => { results := [.lit (.bool false)], args := [d1, d2, d3] }
  | _ => none }
def PackAgainWrongFalsely : Prop := packAgainRow.holds Try.pinned (OpenSpec.ofChange packAgainWrong)

/-- 'pursuivantlaw01.PackReads': WHATEVER THE INPUT: true; the input reads as it did. -/
def packReadsSpec : ChangeSpec := { name := "packReads", fn := fun _ => fun
  | [d1, d2] => { results := [.lit (.bool true)], args := [d1, d2] }
  | _ => none }
def packReadsRow : OpenClaim := { program := "ytdhkklcjhbnnlaa", sum := "ff3d80ac4876719fc84905bdefb378fc1f307fcfd50c865ea8270fde61480e78", func := "pursuivant/pursuivantlaw01.PackReads", spec := "packReads", unfollowed := true, recurses := true, apart := false }
def PackReadsSaid : Prop := packReadsRow.holds Try.pinned (OpenSpec.ofChange packReadsSpec)

/-- ITS FALSE NEIGHBOUR: 'it returns false'. Refute it at one input. -/
def packReadsWrong : ChangeSpec := { name := "packReads", fn := fun _ => fun
  | [d1, d2] => { results := [.lit (.bool false)], args := [d1, d2] }
  | _ => none }
def PackReadsWrongFalsely : Prop := packReadsRow.holds Try.pinned (OpenSpec.ofChange packReadsWrong)

/-- 'pursuivantlaw21.ImageLasts': WHATEVER THE INPUT: true; the input reads as it did. -/
def imageLastsSpec : ChangeSpec := { name := "imageLasts", fn := fun _ => fun
  | [d1, d2, d3] => { results := [.lit (.bool true)], args := [d1, d2, d3] }
  | _ => none }
def imageLastsRow : OpenClaim := { program := "ytdhkklcjhbnnlaa", sum := "ff3d80ac4876719fc84905bdefb378fc1f307fcfd50c865ea8270fde61480e78", func := "pursuivant/pursuivantlaw21.ImageLasts", spec := "imageLasts", unfollowed := true, recurses := true, apart := false }
def ImageLastsSaid : Prop := imageLastsRow.holds Try.pinned (OpenSpec.ofChange imageLastsSpec)

/-- ITS FALSE NEIGHBOUR: 'it returns false'. Refute it at one input. -/
def imageLastsWrong : ChangeSpec := { name := "imageLasts", fn := fun _ => fun
  | [d1, d2, d3] => { results := [.lit (.bool false)], args := [d1, d2, d3] }
  | _ => none }
def ImageLastsWrongFalsely : Prop := imageLastsRow.holds Try.pinned (OpenSpec.ofChange imageLastsWrong)

/-- 'pursuivantlaw21.ImageApart': WHATEVER THE INPUT: true; the input reads as it did. -/
def imageApartSpec : ChangeSpec := { name := "imageApart", fn := fun _ => fun
  | [d1, d2] => { results := [.lit (.bool true)], args := [d1, d2] }
  | _ => none }
def imageApartRow : OpenClaim := { program := "ytdhkklcjhbnnlaa", sum := "ff3d80ac4876719fc84905bdefb378fc1f307fcfd50c865ea8270fde61480e78", func := "pursuivant/pursuivantlaw21.ImageApart", spec := "imageApart", unfollowed := true, recurses := true, apart := false }
def ImageApartSaid : Prop := imageApartRow.holds Try.pinned (OpenSpec.ofChange imageApartSpec)

/-- ITS FALSE NEIGHBOUR: 'it returns false'. Refute it at one input. -/
def imageApartWrong : ChangeSpec := { name := "imageApart", fn := fun _ => fun
  | [d1, d2] => { results := [.lit (.bool false)], args := [d1, d2] }
  | _ => none }
def ImageApartWrongFalsely : Prop := imageApartRow.holds Try.pinned (OpenSpec.ofChange imageApartWrong)

/-- 'pursuivantlaw21.ImageOnce': WHATEVER THE INPUT: true; the input reads as it did. -/
def imageOnceSpec : ChangeSpec := { name := "imageOnce", fn := fun _ => fun
  | [d] => { results := [.lit (.bool true)], args := [d] }
  | _ => none }
def imageOnceRow : OpenClaim := { program := "ytdhkklcjhbnnlaa", sum := "ff3d80ac4876719fc84905bdefb378fc1f307fcfd50c865ea8270fde61480e78", func := "pursuivant/pursuivantlaw21.ImageOnce", spec := "imageOnce", unfollowed := true, recurses := true, apart := false }
def ImageOnceSaid : Prop := imageOnceRow.holds Try.pinned (OpenSpec.ofChange imageOnceSpec)

/-- ITS FALSE NEIGHBOUR: 'it returns false'. Refute it at one input. -/
def imageOnceWrong : ChangeSpec := { name := "imageOnce", fn := fun _ => fun
  | [d] => { results := [.lit (.bool false)], args := [d] }
  | _ => none }
def ImageOnceWrongFalsely : Prop := imageOnceRow.holds Try.pinned (OpenSpec.ofChange imageOnceWrong)

/-- 'pursuivantlaw21.ImageFenced': WHATEVER THE INPUT: true; the input reads as it did. -/
def imageFencedSpec : ChangeSpec := { name := "imageFenced", fn := fun _ => fun
  | [d1, d2] => { results := [.lit (.bool true)], args := [d1, d2] }
  | _ => none }
def imageFencedRow : OpenClaim := { program := "ytdhkklcjhbnnlaa", sum := "ff3d80ac4876719fc84905bdefb378fc1f307fcfd50c865ea8270fde61480e78", func := "pursuivant/pursuivantlaw21.ImageFenced", spec := "imageFenced", unfollowed := true, recurses := true, apart := false }
def ImageFencedSaid : Prop := imageFencedRow.holds Try.pinned (OpenSpec.ofChange imageFencedSpec)

/-- ITS FALSE NEIGHBOUR: 'it returns false'. Refute it at one input. -/
def imageFencedWrong : ChangeSpec := { name := "imageFenced", fn := fun _ => fun
  | [d1, d2] => { results := [.lit (.bool false)], args := [d1, d2] }
  | _ => none }
def ImageFencedWrongFalsely : Prop := imageFencedRow.holds Try.pinned (OpenSpec.ofChange imageFencedWrong)

/-- 'pursuivantlaw21.ImagePlays': WHATEVER THE INPUT: true; the input reads as it did. -/
def imagePlaysSpec : ChangeSpec := { name := "imagePlays", fn := fun _ => fun
  | [d] => { results := [.lit (.bool true)], args := [d] }
  | _ => none }
def imagePlaysRow : OpenClaim := { program := "ytdhkklcjhbnnlaa", sum := "ff3d80ac4876719fc84905bdefb378fc1f307fcfd50c865ea8270fde61480e78", func := "pursuivant/pursuivantlaw21.ImagePlays", spec := "imagePlays", unfollowed := true, recurses := true, apart := false }
def ImagePlaysSaid : Prop := imagePlaysRow.holds Try.pinned (OpenSpec.ofChange imagePlaysSpec)

/-- ITS FALSE NEIGHBOUR: 'it returns false'. Refute it at one input. -/
def imagePlaysWrong : ChangeSpec := { name := "imagePlays", fn := fun _ => fun
  | [d] => { results := [.lit (.bool false)], args := [d] }
  | _ => none }
def ImagePlaysWrongFalsely : Prop := imagePlaysRow.holds Try.pinned (OpenSpec.ofChange imagePlaysWrong)

/-- 'pursuivantlaw21.ImageEncodes': WHATEVER THE INPUT: true; the input reads as it did. -/
def imageEncodesSpec : ChangeSpec := { name := "imageEncodes", fn := fun _ => fun
  | [d1, d2] => { results := [.lit (.bool true)], args := [d1, d2] }
  | _ => none }
def imageEncodesRow : OpenClaim := { program := "ytdhkklcjhbnnlaa", sum := "ff3d80ac4876719fc84905bdefb378fc1f307fcfd50c865ea8270fde61480e78", func := "pursuivant/pursuivantlaw21.ImageEncodes", spec := "imageEncodes", unfollowed := true, recurses := true, apart := false }
def ImageEncodesSaid : Prop := imageEncodesRow.holds Try.pinned (OpenSpec.ofChange imageEncodesSpec)

/-- ITS FALSE NEIGHBOUR: 'it returns false'. Refute it at one input. -/
def imageEncodesWrong : ChangeSpec := { name := "imageEncodes", fn := fun _ => fun
  | [d1, d2] => { results := [.lit (.bool false)], args := [d1, d2] }
  | _ => none }
def ImageEncodesWrongFalsely : Prop := imageEncodesRow.holds Try.pinned (OpenSpec.ofChange imageEncodesWrong)

/-- 'pursuivantlaw21.ImageUnpacks': WHATEVER THE INPUT: true; the input reads as it did. -/
def imageUnpacksSpec : ChangeSpec := { name := "imageUnpacks", fn := fun _ => fun
  | [d] => { results := [.lit (.bool true)], args := [d] }
  | _ => none }
def imageUnpacksRow : OpenClaim := { program := "ytdhkklcjhbnnlaa", sum := "ff3d80ac4876719fc84905bdefb378fc1f307fcfd50c865ea8270fde61480e78", func := "pursuivant/pursuivantlaw21.ImageUnpacks", spec := "imageUnpacks", unfollowed := true, recurses := true, apart := false }
def ImageUnpacksSaid : Prop := imageUnpacksRow.holds Try.pinned (OpenSpec.ofChange imageUnpacksSpec)

/-- ITS FALSE NEIGHBOUR: 'it returns false'. Refute it at one input. -/
def imageUnpacksWrong : ChangeSpec := { name := "imageUnpacks", fn := fun _ => fun
  | [d] => { results := [.lit (.bool false)], args := [d] }
  | _ => none }
def ImageUnpacksWrongFalsely : Prop := imageUnpacksRow.holds Try.pinned (OpenSpec.ofChange imageUnpacksWrong)

/- THE SECOND FORM. 'bulk': how many values and letters a reading holds, each counted each time it is reached (what is shared counts as often as it is met; a slice's spare places count too). A statement '..UptoSaid' is the law's where the arguments, and the package variables that the reading takes, are together of bulk at most 1048576: NARROWER than '..Said'. Prove '..Said' where nothing that the law and all that it calls make is longer than what came in: it says more and counts as full. Else prove '..UptoSaid'. A law counts once. -/
mutual
def uptoBulk {H : Type} : DataW H → Nat
  | .lit (.string bytes) => bytes.length + 1
  | .lit _ => 1
  | .nil => 1
  | .ptr d => uptoBulk d + 1
  | .slice elems spare => uptoBulkAll elems + uptoBulkAll spare + 1
  | .agg parts => uptoBulkAll parts + 1
  | .iface _ d => uptoBulk d + 1
  | .map entries => uptoBulkEntries entries + 1
  | .held _ => 1
def uptoBulkAll {H : Type} : List (DataW H) → Nat
  | [] => 0
  | d :: r => uptoBulk d + uptoBulkAll r
def uptoBulkEntries {H : Type} : List (Lit × DataW H) → Nat
  | [] => 0
  | x :: r => uptoBulkEntry x + uptoBulkEntries r
def uptoBulkEntry {H : Type} : Lit × DataW H → Nat
  | (.string bytes, d) => bytes.length + uptoBulk d + 1
  | (_, d) => uptoBulk d + 1
 end
def uptoSmall : (H : Type) → List (DataW H) → Bool := fun _ ds => decide (uptoBulkAll ds ≤ 1048576)
def OpenSpec.upto (s : _root_.Go.ChangeSpec) : _root_.Go.OpenSpec := { _root_.Go.OpenSpec.ofChange s with cond := some uptoSmall }

/-- 'pursuivantlaw01.PackEncodes', WHERE WHAT IT READS IS OF BULK AT MOST 1048576: true; the input reads as it did. -/
def packEncodesUptoRow : OpenClaim := { program := "ytdhkklcjhbnnlaa", sum := "ff3d80ac4876719fc84905bdefb378fc1f307fcfd50c865ea8270fde61480e78", func := "pursuivant/pursuivantlaw01.PackEncodes", spec := "packEncodes", unfollowed := true, recurses := true, apart := false, narrowed := true }
def PackEncodesUptoSaid : Prop := packEncodesUptoRow.holds Try.pinned (OpenSpec.upto packEncodesSpec)

/-- 'pursuivantlaw01.PackDecodes', WHERE WHAT IT READS IS OF BULK AT MOST 1048576: true; the input reads as it did. -/
def packDecodesUptoRow : OpenClaim := { program := "ytdhkklcjhbnnlaa", sum := "ff3d80ac4876719fc84905bdefb378fc1f307fcfd50c865ea8270fde61480e78", func := "pursuivant/pursuivantlaw01.PackDecodes", spec := "packDecodes", unfollowed := true, recurses := true, apart := false, narrowed := true }
def PackDecodesUptoSaid : Prop := packDecodesUptoRow.holds Try.pinned (OpenSpec.upto packDecodesSpec)

/-- 'pursuivantlaw01.PackWrites', WHERE WHAT IT READS IS OF BULK AT MOST 1048576: true; the input reads as it did. -/
def packWritesUptoRow : OpenClaim := { program := "ytdhkklcjhbnnlaa", sum := "ff3d80ac4876719fc84905bdefb378fc1f307fcfd50c865ea8270fde61480e78", func := "pursuivant/pursuivantlaw01.PackWrites", spec := "packWrites", unfollowed := true, recurses := true, apart := false, narrowed := true }
def PackWritesUptoSaid : Prop := packWritesUptoRow.holds Try.pinned (OpenSpec.upto packWritesSpec)

/-- 'pursuivantlaw01.PackBack', WHERE WHAT IT READS IS OF BULK AT MOST 1048576: true; the input reads as it did. -/
def packBackUptoRow : OpenClaim := { program := "ytdhkklcjhbnnlaa", sum := "ff3d80ac4876719fc84905bdefb378fc1f307fcfd50c865ea8270fde61480e78", func := "pursuivant/pursuivantlaw01.PackBack", spec := "packBack", unfollowed := true, recurses := true, apart := false, narrowed := true }
def PackBackUptoSaid : Prop := packBackUptoRow.holds Try.pinned (OpenSpec.upto packBackSpec)

/-- 'pursuivantlaw01.PackAgain', WHERE WHAT IT READS IS OF BULK AT MOST 1048576: true; the input reads as it did. -/
def packAgainUptoRow : OpenClaim := { program := "ytdhkklcjhbnnlaa", sum := "ff3d80ac4876719fc84905bdefb378fc1f307fcfd50c865ea8270fde61480e78", func := "pursuivant/pursuivantlaw01.PackAgain", spec := "packAgain", unfollowed := true, recurses := true, apart := false, narrowed := true }
def PackAgainUptoSaid : Prop := packAgainUptoRow.holds Try.pinned (OpenSpec.upto packAgainSpec)

/-- 'pursuivantlaw01.PackReads', WHERE WHAT IT READS IS OF BULK AT MOST 1048576: true; the input reads as it did. -/
def packReadsUptoRow : OpenClaim := { program := "ytdhkklcjhbnnlaa", sum := "ff3d80ac4876719fc84905bdefb378fc1f307fcfd50c865ea8270fde61480e78", func := "pursuivant/pursuivantlaw01.PackReads", spec := "packReads", unfollowed := true, recurses := true, apart := false, narrowed := true }
def PackReadsUptoSaid : Prop := packReadsUptoRow.holds Try.pinned (OpenSpec.upto packReadsSpec)

/-- 'pursuivantlaw21.ImageLasts', WHERE WHAT IT READS IS OF BULK AT MOST 1048576: true; the input reads as it did. -/
def imageLastsUptoRow : OpenClaim := { program := "ytdhkklcjhbnnlaa", sum := "ff3d80ac4876719fc84905bdefb378fc1f307fcfd50c865ea8270fde61480e78", func := "pursuivant/pursuivantlaw21.ImageLasts", spec := "imageLasts", unfollowed := true, recurses := true, apart := false, narrowed := true }
def ImageLastsUptoSaid : Prop := imageLastsUptoRow.holds Try.pinned (OpenSpec.upto imageLastsSpec)

/-- 'pursuivantlaw21.ImageApart', WHERE WHAT IT READS IS OF BULK AT MOST 1048576: true; the input reads as it did. -/
def imageApartUptoRow : OpenClaim := { program := "ytdhkklcjhbnnlaa", sum := "ff3d80ac4876719fc84905bdefb378fc1f307fcfd50c865ea8270fde61480e78", func := "pursuivant/pursuivantlaw21.ImageApart", spec := "imageApart", unfollowed := true, recurses := true, apart := false, narrowed := true }
def ImageApartUptoSaid : Prop := imageApartUptoRow.holds Try.pinned (OpenSpec.upto imageApartSpec)

/-- 'pursuivantlaw21.ImageOnce', WHERE WHAT IT READS IS OF BULK AT MOST 1048576: true; the input reads as it did. -/
def imageOnceUptoRow : OpenClaim := { program := "ytdhkklcjhbnnlaa", sum := "ff3d80ac4876719fc84905bdefb378fc1f307fcfd50c865ea8270fde61480e78", func := "pursuivant/pursuivantlaw21.ImageOnce", spec := "imageOnce", unfollowed := true, recurses := true, apart := false, narrowed := true }
def ImageOnceUptoSaid : Prop := imageOnceUptoRow.holds Try.pinned (OpenSpec.upto imageOnceSpec)

/-- 'pursuivantlaw21.ImageFenced', WHERE WHAT IT READS IS OF BULK AT MOST 1048576: true; the input reads as it did. -/
def imageFencedUptoRow : OpenClaim := { program := "ytdhkklcjhbnnlaa", sum := "ff3d80ac4876719fc84905bdefb378fc1f307fcfd50c865ea8270fde61480e78", func := "pursuivant/pursuivantlaw21.ImageFenced", spec := "imageFenced", unfollowed := true, recurses := true, apart := false, narrowed := true }
def ImageFencedUptoSaid : Prop := imageFencedUptoRow.holds Try.pinned (OpenSpec.upto imageFencedSpec)

/-- 'pursuivantlaw21.ImagePlays', WHERE WHAT IT READS IS OF BULK AT MOST 1048576: true; the input reads as it did. -/
def imagePlaysUptoRow : OpenClaim := { program := "ytdhkklcjhbnnlaa", sum := "ff3d80ac4876719fc84905bdefb378fc1f307fcfd50c865ea8270fde61480e78", func := "pursuivant/pursuivantlaw21.ImagePlays", spec := "imagePlays", unfollowed := true, recurses := true, apart := false, narrowed := true }
def ImagePlaysUptoSaid : Prop := imagePlaysUptoRow.holds Try.pinned (OpenSpec.upto imagePlaysSpec)

/-- 'pursuivantlaw21.ImageEncodes', WHERE WHAT IT READS IS OF BULK AT MOST 1048576: true; the input reads as it did. -/
def imageEncodesUptoRow : OpenClaim := { program := "ytdhkklcjhbnnlaa", sum := "ff3d80ac4876719fc84905bdefb378fc1f307fcfd50c865ea8270fde61480e78", func := "pursuivant/pursuivantlaw21.ImageEncodes", spec := "imageEncodes", unfollowed := true, recurses := true, apart := false, narrowed := true }
def ImageEncodesUptoSaid : Prop := imageEncodesUptoRow.holds Try.pinned (OpenSpec.upto imageEncodesSpec)

/-- 'pursuivantlaw21.ImageUnpacks', WHERE WHAT IT READS IS OF BULK AT MOST 1048576: true; the input reads as it did. -/
def imageUnpacksUptoRow : OpenClaim := { program := "ytdhkklcjhbnnlaa", sum := "ff3d80ac4876719fc84905bdefb378fc1f307fcfd50c865ea8270fde61480e78", func := "pursuivant/pursuivantlaw21.ImageUnpacks", spec := "imageUnpacks", unfollowed := true, recurses := true, apart := false, narrowed := true }
def ImageUnpacksUptoSaid : Prop := imageUnpacksUptoRow.holds Try.pinned (OpenSpec.upto imageUnpacksSpec)

end Rows
end Go.Proofs.Ytdhkklcjhbnnlaa
