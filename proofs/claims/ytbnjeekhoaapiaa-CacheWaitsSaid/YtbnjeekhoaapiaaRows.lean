/-
  No cell of these rows narrows 'for every input' (looked for: loops, veiled, ifaces, maps, wideKeys, modest, calm, conditions, laid).
  DERIVED. THE GIVEN ROWS OF THIS SEAT. 10 by the template 'for every input the law returns true; each argument reads behind the call as it read before'; 0 by the template 'total and deterministic' (their statements: YtbnjeekhoaapiaaTotals.lean).
  GIVEN WITH THE SEED: the statements are not yours to turn. If you find one false, say at which input.
  Laid BY PROGRAM, IN A SANDBOX (cutbox-rows.mjs): the forced cells as the released guide's own fill.sh prints them over the translation 0c6262fd920f973e… (all of the seat's roots in one cut). By AI agents, Wed Nov 11 2026. No macro, syntax, notation, axiom, sorry.
-/
import Derived.Test.YtbnjeekhoaapiaaChecked
import GoSem.Claim
import GoSem.ClaimJoined
import GoSem.ClaimMapViews
import Derived.JoinedTies
import Derived.KernelRfl
namespace Go.Proofs.Ytbnjeekhoaapiaa
/- THE CELL 'sum', in the pinned program and in every row, IS THE sha256 OF THE DUMP (.gsa) THAT YtbnjeekhoaapiaaProg.lean LOADS. Nothing in Lean hashes anything: it is a label: what it is worth is what the hold of that sum in a sandbox is worth. -/
noncomputable def Try.pinned : Pinned := { name := "ytbnjeekhoaapiaa", sum := "0c6262fd920f973ef19dc51e43794ee8642781d02694913c45f89f9626053e59", checked := Try.checked }
namespace Rows
def none {H : Type} : Left H := { results := [], args := [] }

/-- 'pursuivantlaw28.HistoryExplains': WHATEVER THE INPUT: true; the input reads as it did. -/
def historyExplainsSpec : ChangeSpec := { name := "historyExplains", fn := fun _ => fun
  | [d] => { results := [.lit (.bool true)], args := [d] }
  | _ => none }
def historyExplainsRow : OpenClaim := { program := "ytbnjeekhoaapiaa", sum := "0c6262fd920f973ef19dc51e43794ee8642781d02694913c45f89f9626053e59", func := "pursuivant/pursuivantlaw28.HistoryExplains", spec := "historyExplains", unfollowed := true, recurses := true, apart := false }
def HistoryExplainsSaid : Prop := historyExplainsRow.holds Try.pinned (OpenSpec.ofChange historyExplainsSpec)

/-- ITS FALSE NEIGHBOUR: 'it returns false'. Refute it at one input. -/
def historyExplainsWrong : ChangeSpec := { name := "historyExplains", fn := fun _ => fun
  | [d] => { results := [.lit (.bool false)], args := [d] }
  | _ => none }
def HistoryExplainsWrongFalsely : Prop := historyExplainsRow.holds Try.pinned (OpenSpec.ofChange historyExplainsWrong)

/-- 'pursuivantlaw28.HistoryRight': WHATEVER THE INPUT: true; the input reads as it did. -/
def historyRightSpec : ChangeSpec := { name := "historyRight", fn := fun _ => fun
  | [d] => { results := [.lit (.bool true)], args := [d] }
  | _ => none }
def historyRightRow : OpenClaim := { program := "ytbnjeekhoaapiaa", sum := "0c6262fd920f973ef19dc51e43794ee8642781d02694913c45f89f9626053e59", func := "pursuivant/pursuivantlaw28.HistoryRight", spec := "historyRight", unfollowed := true, recurses := true, apart := false }
def HistoryRightSaid : Prop := historyRightRow.holds Try.pinned (OpenSpec.ofChange historyRightSpec)

/-- ITS FALSE NEIGHBOUR: 'it returns false'. Refute it at one input. -/
def historyRightWrong : ChangeSpec := { name := "historyRight", fn := fun _ => fun
  | [d] => { results := [.lit (.bool false)], args := [d] }
  | _ => none }
def HistoryRightWrongFalsely : Prop := historyRightRow.holds Try.pinned (OpenSpec.ofChange historyRightWrong)

/-- 'pursuivantlaw25.RedoPlans': WHATEVER THE INPUT: true; the input reads as it did. -/
def redoPlansSpec : ChangeSpec := { name := "redoPlans", fn := fun _ => fun
  | [d1, d2, d3, d4, d5] => { results := [.lit (.bool true)], args := [d1, d2, d3, d4, d5] }
  | _ => none }
def redoPlansRow : OpenClaim := { program := "ytbnjeekhoaapiaa", sum := "0c6262fd920f973ef19dc51e43794ee8642781d02694913c45f89f9626053e59", func := "pursuivant/pursuivantlaw25.RedoPlans", spec := "redoPlans", unfollowed := true, recurses := true, apart := false }
def RedoPlansSaid : Prop := redoPlansRow.holds Try.pinned (OpenSpec.ofChange redoPlansSpec)

/-- ITS FALSE NEIGHBOUR: 'it returns false'. Refute it at one input. -/
def redoPlansWrong : ChangeSpec := { name := "redoPlans", fn := fun _ => fun
  | [d1, d2, d3, d4, d5] => { results := [.lit (.bool false)], args := [d1, d2, d3, d4, d5] }
  | _ => none }
def RedoPlansWrongFalsely : Prop := redoPlansRow.holds Try.pinned (OpenSpec.ofChange redoPlansWrong)

/-- 'pursuivantlaw25.RedoRecords': WHATEVER THE INPUT: true; the input reads as it did. -/
def redoRecordsSpec : ChangeSpec := { name := "redoRecords", fn := fun _ => fun
  | [d1, d2, d3] => { results := [.lit (.bool true)], args := [d1, d2, d3] }
  | _ => none }
def redoRecordsRow : OpenClaim := { program := "ytbnjeekhoaapiaa", sum := "0c6262fd920f973ef19dc51e43794ee8642781d02694913c45f89f9626053e59", func := "pursuivant/pursuivantlaw25.RedoRecords", spec := "redoRecords", unfollowed := true, recurses := true, apart := false }
def RedoRecordsSaid : Prop := redoRecordsRow.holds Try.pinned (OpenSpec.ofChange redoRecordsSpec)

/-- ITS FALSE NEIGHBOUR: 'it returns false'. Refute it at one input. -/
def redoRecordsWrong : ChangeSpec := { name := "redoRecords", fn := fun _ => fun
  | [d1, d2, d3] => { results := [.lit (.bool false)], args := [d1, d2, d3] }
  | _ => none }
def RedoRecordsWrongFalsely : Prop := redoRecordsRow.holds Try.pinned (OpenSpec.ofChange redoRecordsWrong)

/-- 'pursuivantlaw25.RedoBroken': WHATEVER THE INPUT: true; the input reads as it did. -/
def redoBrokenSpec : ChangeSpec := { name := "redoBroken", fn := fun _ => fun
  | [d1, d2, d3, d4] => { results := [.lit (.bool true)], args := [d1, d2, d3, d4] }
  | _ => none }
def redoBrokenRow : OpenClaim := { program := "ytbnjeekhoaapiaa", sum := "0c6262fd920f973ef19dc51e43794ee8642781d02694913c45f89f9626053e59", func := "pursuivant/pursuivantlaw25.RedoBroken", spec := "redoBroken", unfollowed := true, recurses := true, apart := false }
def RedoBrokenSaid : Prop := redoBrokenRow.holds Try.pinned (OpenSpec.ofChange redoBrokenSpec)

/-- ITS FALSE NEIGHBOUR: 'it returns false'. Refute it at one input. -/
def redoBrokenWrong : ChangeSpec := { name := "redoBroken", fn := fun _ => fun
  | [d1, d2, d3, d4] => { results := [.lit (.bool false)], args := [d1, d2, d3, d4] }
  | _ => none }
def RedoBrokenWrongFalsely : Prop := redoBrokenRow.holds Try.pinned (OpenSpec.ofChange redoBrokenWrong)

/-- 'pursuivantlaw25.RedoWhole': WHATEVER THE INPUT: true; the input reads as it did. -/
def redoWholeSpec : ChangeSpec := { name := "redoWhole", fn := fun _ => fun
  | [d] => { results := [.lit (.bool true)], args := [d] }
  | _ => none }
def redoWholeRow : OpenClaim := { program := "ytbnjeekhoaapiaa", sum := "0c6262fd920f973ef19dc51e43794ee8642781d02694913c45f89f9626053e59", func := "pursuivant/pursuivantlaw25.RedoWhole", spec := "redoWhole", unfollowed := true, recurses := true, apart := false }
def RedoWholeSaid : Prop := redoWholeRow.holds Try.pinned (OpenSpec.ofChange redoWholeSpec)

/-- ITS FALSE NEIGHBOUR: 'it returns false'. Refute it at one input. -/
def redoWholeWrong : ChangeSpec := { name := "redoWhole", fn := fun _ => fun
  | [d] => { results := [.lit (.bool false)], args := [d] }
  | _ => none }
def RedoWholeWrongFalsely : Prop := redoWholeRow.holds Try.pinned (OpenSpec.ofChange redoWholeWrong)

/-- 'pursuivantlaw24.CacheLasts': WHATEVER THE INPUT: true; the input reads as it did. -/
def cacheLastsSpec : ChangeSpec := { name := "cacheLasts", fn := fun _ => fun
  | [d1, d2, d3] => { results := [.lit (.bool true)], args := [d1, d2, d3] }
  | _ => none }
def cacheLastsRow : OpenClaim := { program := "ytbnjeekhoaapiaa", sum := "0c6262fd920f973ef19dc51e43794ee8642781d02694913c45f89f9626053e59", func := "pursuivant/pursuivantlaw24.CacheLasts", spec := "cacheLasts", unfollowed := true, recurses := true, apart := false }
def CacheLastsSaid : Prop := cacheLastsRow.holds Try.pinned (OpenSpec.ofChange cacheLastsSpec)

/-- ITS FALSE NEIGHBOUR: 'it returns false'. Refute it at one input. -/
def cacheLastsWrong : ChangeSpec := { name := "cacheLasts", fn := fun _ => fun
  | [d1, d2, d3] => { results := [.lit (.bool false)], args := [d1, d2, d3] }
  | _ => none }
def CacheLastsWrongFalsely : Prop := cacheLastsRow.holds Try.pinned (OpenSpec.ofChange cacheLastsWrong)

/-- 'pursuivantlaw24.CacheWaits': WHATEVER THE INPUT: true; the input reads as it did. -/
def cacheWaitsSpec : ChangeSpec := { name := "cacheWaits", fn := fun _ => fun
  | [d1, d2] => { results := [.lit (.bool true)], args := [d1, d2] }
  | _ => none }
def cacheWaitsRow : OpenClaim := { program := "ytbnjeekhoaapiaa", sum := "0c6262fd920f973ef19dc51e43794ee8642781d02694913c45f89f9626053e59", func := "pursuivant/pursuivantlaw24.CacheWaits", spec := "cacheWaits", unfollowed := true, recurses := true, apart := false }
def CacheWaitsSaid : Prop := cacheWaitsRow.holds Try.pinned (OpenSpec.ofChange cacheWaitsSpec)

/-- ITS FALSE NEIGHBOUR: 'it returns false'. Refute it at one input. -/
def cacheWaitsWrong : ChangeSpec := { name := "cacheWaits", fn := fun _ => fun
  | [d1, d2] => { results := [.lit (.bool false)], args := [d1, d2] }
  | _ => none }
def CacheWaitsWrongFalsely : Prop := cacheWaitsRow.holds Try.pinned (OpenSpec.ofChange cacheWaitsWrong)

/-- 'pursuivantlaw24.CacheRoom': WHATEVER THE INPUT: true; the input reads as it did. -/
def cacheRoomSpec : ChangeSpec := { name := "cacheRoom", fn := fun _ => fun
  | [d] => { results := [.lit (.bool true)], args := [d] }
  | _ => none }
def cacheRoomRow : OpenClaim := { program := "ytbnjeekhoaapiaa", sum := "0c6262fd920f973ef19dc51e43794ee8642781d02694913c45f89f9626053e59", func := "pursuivant/pursuivantlaw24.CacheRoom", spec := "cacheRoom", unfollowed := true, recurses := true, apart := false }
def CacheRoomSaid : Prop := cacheRoomRow.holds Try.pinned (OpenSpec.ofChange cacheRoomSpec)

/-- ITS FALSE NEIGHBOUR: 'it returns false'. Refute it at one input. -/
def cacheRoomWrong : ChangeSpec := { name := "cacheRoom", fn := fun _ => fun
  | [d] => { results := [.lit (.bool false)], args := [d] }
  | _ => none }
def CacheRoomWrongFalsely : Prop := cacheRoomRow.holds Try.pinned (OpenSpec.ofChange cacheRoomWrong)

/-- 'pursuivantlaw24.CachePlays': WHATEVER THE INPUT: true; the input reads as it did. -/
def cachePlaysSpec : ChangeSpec := { name := "cachePlays", fn := fun _ => fun
  | [d] => { results := [.lit (.bool true)], args := [d] }
  | _ => none }
def cachePlaysRow : OpenClaim := { program := "ytbnjeekhoaapiaa", sum := "0c6262fd920f973ef19dc51e43794ee8642781d02694913c45f89f9626053e59", func := "pursuivant/pursuivantlaw24.CachePlays", spec := "cachePlays", unfollowed := true, recurses := true, apart := false }
def CachePlaysSaid : Prop := cachePlaysRow.holds Try.pinned (OpenSpec.ofChange cachePlaysSpec)

/-- ITS FALSE NEIGHBOUR: 'it returns false'. Refute it at one input. -/
def cachePlaysWrong : ChangeSpec := { name := "cachePlays", fn := fun _ => fun
  | [d] => { results := [.lit (.bool false)], args := [d] }
  | _ => none }
def CachePlaysWrongFalsely : Prop := cachePlaysRow.holds Try.pinned (OpenSpec.ofChange cachePlaysWrong)

/- THE SECOND FORM. 'bulk': how many values and letters a reading holds, each counted each time it is reached (what is shared counts as often as it is met; a slice's spare places count too). A statement '..UptoSaid' is the law's where the arguments, and the package variables that the reading takes, are together of bulk at most 1048576: NARROWER than '..Said'. Prove '..Said' where nothing that the law and all that it calls make is longer than what came in: it says more and counts as full. Else prove '..UptoSaid'. A law counts once. -/
mutual
def uptoBulk {H : Type} : DataW H → Nat
  | .lit (.string bytes) => bytes.length + 1
  | .lit _ => 1
  | .nil => 1
  | .ptr d => uptoBulk d + 1
  | .slice elems spare => uptoBulkAll elems + uptoBulkAll spare + 1
  | .agg parts => uptoBulkAll parts + 1
  | .iface _ d => uptoBulk d + 1
  | .map entries => uptoBulkEntries entries + 1
  | .held _ => 1
def uptoBulkAll {H : Type} : List (DataW H) → Nat
  | [] => 0
  | d :: r => uptoBulk d + uptoBulkAll r
def uptoBulkEntries {H : Type} : List (Lit × DataW H) → Nat
  | [] => 0
  | x :: r => uptoBulkEntry x + uptoBulkEntries r
def uptoBulkEntry {H : Type} : Lit × DataW H → Nat
  | (.string bytes, d) => bytes.length + uptoBulk d + 1
  | (_, d) => uptoBulk d + 1
 end
def uptoSmall : (H : Type) → List (DataW H) → Bool := fun _ ds => decide (uptoBulkAll ds ≤ 1048576)
def OpenSpec.upto (s : _root_.Go.ChangeSpec) : _root_.Go.OpenSpec := { _root_.Go.OpenSpec.ofChange s with cond := some uptoSmall }

/-- 'pursuivantlaw28.HistoryExplains', WHERE WHAT IT READS IS OF BULK AT MOST 1048576: true; the input reads as it did. -/
def historyExplainsUptoRow : OpenClaim := { program := "ytbnjeekhoaapiaa", sum := "0c6262fd920f973ef19dc51e43794ee8642781d02694913c45f89f9626053e59", func := "pursuivant/pursuivantlaw28.HistoryExplains", spec := "historyExplains", unfollowed := true, recurses := true, apart := false, narrowed := true }
def HistoryExplainsUptoSaid : Prop := historyExplainsUptoRow.holds Try.pinned (OpenSpec.upto historyExplainsSpec)

/-- 'pursuivantlaw28.HistoryRight', WHERE WHAT IT READS IS OF BULK AT MOST 1048576: true; the input reads as it did. -/
def historyRightUptoRow : OpenClaim := { program := "ytbnjeekhoaapiaa", sum := "0c6262fd920f973ef19dc51e43794ee8642781d02694913c45f89f9626053e59", func := "pursuivant/pursuivantlaw28.HistoryRight", spec := "historyRight", unfollowed := true, recurses := true, apart := false, narrowed := true }
def HistoryRightUptoSaid : Prop := historyRightUptoRow.holds Try.pinned (OpenSpec.upto historyRightSpec)

/-- 'pursuivantlaw25.RedoPlans', WHERE WHAT IT READS IS OF BULK AT MOST 1048576: true; the input reads as it did. -/
def redoPlansUptoRow : OpenClaim := { program := "ytbnjeekhoaapiaa", sum := "0c6262fd920f973ef19dc51e43794ee8642781d02694913c45f89f9626053e59", func := "pursuivant/pursuivantlaw25.RedoPlans", spec := "redoPlans", unfollowed := true, recurses := true, apart := false, narrowed := true }
def RedoPlansUptoSaid : Prop := redoPlansUptoRow.holds Try.pinned (OpenSpec.upto redoPlansSpec)

/-- 'pursuivantlaw25.RedoRecords', WHERE WHAT IT READS IS OF BULK AT MOST 1048576: true; the input reads as it did. -/
def redoRecordsUptoRow : OpenClaim := { program := "ytbnjeekhoaapiaa", sum := "0c6262fd920f973ef19dc51e43794ee8642781d02694913c45f89f9626053e59", func := "pursuivant/pursuivantlaw25.RedoRecords", spec := "redoRecords", unfollowed := true, recurses := true, apart := false, narrowed := true }
def RedoRecordsUptoSaid : Prop := redoRecordsUptoRow.holds Try.pinned (OpenSpec.upto redoRecordsSpec)

/-- 'pursuivantlaw25.RedoBroken', WHERE WHAT IT READS IS OF BULK AT MOST 1048576: true; the input reads as it did. -/
def redoBrokenUptoRow : OpenClaim := { program := "ytbnjeekhoaapiaa", sum := "0c6262fd920f973ef19dc51e43794ee8642781d02694913c45f89f9626053e59", func := "pursuivant/pursuivantlaw25.RedoBroken", spec := "redoBroken", unfollowed := true, recurses := true, apart := false, narrowed := true }
def RedoBrokenUptoSaid : Prop := redoBrokenUptoRow.holds Try.pinned (OpenSpec.upto redoBrokenSpec)

/-- 'pursuivantlaw25.RedoWhole', WHERE WHAT IT READS IS OF BULK AT MOST 1048576: true; the input reads as it did. -/
def redoWholeUptoRow : OpenClaim := { program := "ytbnjeekhoaapiaa", sum := "0c6262fd920f973ef19dc51e43794ee8642781d02694913c45f89f9626053e59", func := "pursuivant/pursuivantlaw25.RedoWhole", spec := "redoWhole", unfollowed := true, recurses := true, apart := false, narrowed := true }
def RedoWholeUptoSaid : Prop := redoWholeUptoRow.holds Try.pinned (OpenSpec.upto redoWholeSpec)

/-- 'pursuivantlaw24.CacheLasts', WHERE WHAT IT READS IS OF BULK AT MOST 1048576: true; the input reads as it did. -/
def cacheLastsUptoRow : OpenClaim := { program := "ytbnjeekhoaapiaa", sum := "0c6262fd920f973ef19dc51e43794ee8642781d02694913c45f89f9626053e59", func := "pursuivant/pursuivantlaw24.CacheLasts", spec := "cacheLasts", unfollowed := true, recurses := true, apart := false, narrowed := true }
def CacheLastsUptoSaid : Prop := cacheLastsUptoRow.holds Try.pinned (OpenSpec.upto cacheLastsSpec)

/-- 'pursuivantlaw24.CacheWaits', WHERE WHAT IT READS IS OF BULK AT MOST 1048576: true; the input reads as it did. -/
def cacheWaitsUptoRow : OpenClaim := { program := "ytbnjeekhoaapiaa", sum := "0c6262fd920f973ef19dc51e43794ee8642781d02694913c45f89f9626053e59", func := "pursuivant/pursuivantlaw24.CacheWaits", spec := "cacheWaits", unfollowed := true, recurses := true, apart := false, narrowed := true }
def CacheWaitsUptoSaid : Prop := cacheWaitsUptoRow.holds Try.pinned (OpenSpec.upto cacheWaitsSpec)

/-- 'pursuivantlaw24.CacheRoom', WHERE WHAT IT READS IS OF BULK AT MOST 1048576: true; the input reads as it did. -/
def cacheRoomUptoRow : OpenClaim := { program := "ytbnjeekhoaapiaa", sum := "0c6262fd920f973ef19dc51e43794ee8642781d02694913c45f89f9626053e59", func := "pursuivant/pursuivantlaw24.CacheRoom", spec := "cacheRoom", unfollowed := true, recurses := true, apart := false, narrowed := true }
def CacheRoomUptoSaid : Prop := cacheRoomUptoRow.holds Try.pinned (OpenSpec.upto cacheRoomSpec)

/-- 'pursuivantlaw24.CachePlays', WHERE WHAT IT READS IS OF BULK AT MOST 1048576: true; the input reads as it did. -/
def cachePlaysUptoRow : OpenClaim := { program := "ytbnjeekhoaapiaa", sum := "0c6262fd920f973ef19dc51e43794ee8642781d02694913c45f89f9626053e59", func := "pursuivant/pursuivantlaw24.CachePlays", spec := "cachePlays", unfollowed := true, recurses := true, apart := false, narrowed := true }
def CachePlaysUptoSaid : Prop := cachePlaysUptoRow.holds Try.pinned (OpenSpec.upto cachePlaysSpec)

end Rows
end Go.Proofs.Ytbnjeekhoaapiaa
