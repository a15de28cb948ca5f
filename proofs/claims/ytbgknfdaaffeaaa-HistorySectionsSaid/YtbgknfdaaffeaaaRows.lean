/-
  No cell of these rows narrows 'for every input' (looked for: loops, veiled, ifaces, maps, wideKeys, modest, calm, conditions, laid).
  DERIVED. THE GIVEN ROWS OF THIS SEAT. 11 by the template 'for every input the law returns true; each argument reads behind the call as it read before'; 0 by the template 'total and deterministic' (their statements: YtbgknfdaaffeaaaTotals.lean).
  GIVEN WITH THE SEED: the statements are not yours to turn. If you find one false, say at which input.
  Laid BY PROGRAM, IN A SANDBOX (cutbox-rows.mjs): the forced cells as the released guide's own fill.sh prints them over the translation 072e7b1da52586e1… (all of the seat's roots in one cut). By AI agents, Wed Nov 11 2026. No macro, syntax, notation, axiom, sorry.
-/
import Derived.Test.YtbgknfdaaffeaaaChecked
import GoSem.Claim
import GoSem.ClaimJoined
import GoSem.ClaimMapViews
import Derived.JoinedTies
import Derived.KernelRfl
namespace Go.Proofs.Ytbgknfdaaffeaaa
/- THE CELL 'sum', in the pinned program and in every row, IS THE sha256 OF THE DUMP (.gsa) THAT YtbgknfdaaffeaaaProg.lean LOADS. Nothing in Lean hashes anything: it is a label: what it is worth is what the hold of that sum in a sandbox is worth. -/
noncomputable def Try.pinned : Pinned := { name := "ytbgknfdaaffeaaa", sum := "072e7b1da52586e13cf4307005d2c5d6e8f2fd46f9627284713a88301ef3ab1c", checked := Try.checked }
namespace Rows
def none {H : Type} : Left H := { results := [], args := [] }

/-- 'pursuivantlaw28.HistoryExplains': WHATEVER THE INPUT: true; the input reads as it did. -/
def historyExplainsSpec : ChangeSpec := { name := "historyExplains", fn := fun _ => fun
  | [d] => { results := [.lit (.bool true)], args := [d] }
  | _ => none }
def historyExplainsRow : OpenClaim := { program := "ytbgknfdaaffeaaa", sum := "072e7b1da52586e13cf4307005d2c5d6e8f2fd46f9627284713a88301ef3ab1c", func := "pursuivant/pursuivantlaw28.HistoryExplains", spec := "historyExplains", unfollowed := true, recurses := true, apart := false }
def HistoryExplainsSaid : Prop := historyExplainsRow.holds Try.pinned (OpenSpec.ofChange historyExplainsSpec)

/-- ITS FALSE NEIGHBOUR: 'it returns false'. Refute it at one input. -/
def historyExplainsWrong : ChangeSpec := { name := "historyExplains", fn := fun _ => fun
  | [d] => { results := [.lit (.bool false)], args := [d] }
  | _ => none }
def HistoryExplainsWrongFalsely : Prop := historyExplainsRow.holds Try.pinned (OpenSpec.ofChange historyExplainsWrong)

/-- 'pursuivantlaw28.HistoryRight': WHATEVER THE INPUT: true; the input reads as it did. -/
def historyRightSpec : ChangeSpec := { name := "historyRight", fn := fun _ => fun
  | [d] => { results := [.lit (.bool true)], args := [d] }
  | _ => none }
def historyRightRow : OpenClaim := { program := "ytbgknfdaaffeaaa", sum := "072e7b1da52586e13cf4307005d2c5d6e8f2fd46f9627284713a88301ef3ab1c", func := "pursuivant/pursuivantlaw28.HistoryRight", spec := "historyRight", unfollowed := true, recurses := true, apart := false }
def HistoryRightSaid : Prop := historyRightRow.holds Try.pinned (OpenSpec.ofChange historyRightSpec)

/-- ITS FALSE NEIGHBOUR: 'it returns false'. Refute it at one input. -/
def historyRightWrong : ChangeSpec := { name := "historyRight", fn := fun _ => fun
  | [d] => { results := [.lit (.bool false)], args := [d] }
  | _ => none }
def HistoryRightWrongFalsely : Prop := historyRightRow.holds Try.pinned (OpenSpec.ofChange historyRightWrong)

/-- 'pursuivantlaw24.CachePlays': WHATEVER THE INPUT: true; the input reads as it did. -/
def cachePlaysSpec : ChangeSpec := { name := "cachePlays", fn := fun _ => fun
  | [d] => { results := [.lit (.bool true)], args := [d] }
  | _ => none }
def cachePlaysRow : OpenClaim := { program := "ytbgknfdaaffeaaa", sum := "072e7b1da52586e13cf4307005d2c5d6e8f2fd46f9627284713a88301ef3ab1c", func := "pursuivant/pursuivantlaw24.CachePlays", spec := "cachePlays", unfollowed := true, recurses := true, apart := false }
def CachePlaysSaid : Prop := cachePlaysRow.holds Try.pinned (OpenSpec.ofChange cachePlaysSpec)

/-- ITS FALSE NEIGHBOUR: 'it returns false'. Refute it at one input. -/
def cachePlaysWrong : ChangeSpec := { name := "cachePlays", fn := fun _ => fun
  | [d] => { results := [.lit (.bool false)], args := [d] }
  | _ => none }
def CachePlaysWrongFalsely : Prop := cachePlaysRow.holds Try.pinned (OpenSpec.ofChange cachePlaysWrong)

/-- 'pursuivantlaw19.LocksOrder': WHATEVER THE INPUT: true; the input reads as it did. -/
def locksOrderSpec : ChangeSpec := { name := "locksOrder", fn := fun _ => fun
  | [d] => { results := [.lit (.bool true)], args := [d] }
  | _ => none }
def locksOrderRow : OpenClaim := { program := "ytbgknfdaaffeaaa", sum := "072e7b1da52586e13cf4307005d2c5d6e8f2fd46f9627284713a88301ef3ab1c", func := "pursuivant/pursuivantlaw19.LocksOrder", spec := "locksOrder", unfollowed := true, recurses := true, apart := false }
def LocksOrderSaid : Prop := locksOrderRow.holds Try.pinned (OpenSpec.ofChange locksOrderSpec)

/-- ITS FALSE NEIGHBOUR: 'it returns false'. Refute it at one input. -/
def locksOrderWrong : ChangeSpec := { name := "locksOrder", fn := fun _ => fun
  | [d] => { results := [.lit (.bool false)], args := [d] }
  | _ => none }
def LocksOrderWrongFalsely : Prop := locksOrderRow.holds Try.pinned (OpenSpec.ofChange locksOrderWrong)

/-- 'pursuivantlaw19.LocksAlone': WHATEVER THE INPUT: true; the input reads as it did. -/
def locksAloneSpec : ChangeSpec := { name := "locksAlone", fn := fun _ => fun
  | [d] => { results := [.lit (.bool true)], args := [d] }
  | _ => none }
def locksAloneRow : OpenClaim := { program := "ytbgknfdaaffeaaa", sum := "072e7b1da52586e13cf4307005d2c5d6e8f2fd46f9627284713a88301ef3ab1c", func := "pursuivant/pursuivantlaw19.LocksAlone", spec := "locksAlone", unfollowed := true, recurses := true, apart := false }
def LocksAloneSaid : Prop := locksAloneRow.holds Try.pinned (OpenSpec.ofChange locksAloneSpec)

/-- ITS FALSE NEIGHBOUR: 'it returns false'. Refute it at one input. -/
def locksAloneWrong : ChangeSpec := { name := "locksAlone", fn := fun _ => fun
  | [d] => { results := [.lit (.bool false)], args := [d] }
  | _ => none }
def LocksAloneWrongFalsely : Prop := locksAloneRow.holds Try.pinned (OpenSpec.ofChange locksAloneWrong)

/-- 'pursuivantlaw26.HolderAlone': WHATEVER THE INPUT: true; the input reads as it did. -/
def holderAloneSpec : ChangeSpec := { name := "holderAlone", fn := fun _ => fun
  | [d] => { results := [.lit (.bool true)], args := [d] }
  | _ => none }
def holderAloneRow : OpenClaim := { program := "ytbgknfdaaffeaaa", sum := "072e7b1da52586e13cf4307005d2c5d6e8f2fd46f9627284713a88301ef3ab1c", func := "pursuivant/pursuivantlaw26.HolderAlone", spec := "holderAlone", unfollowed := true, recurses := true, apart := false }
def HolderAloneSaid : Prop := holderAloneRow.holds Try.pinned (OpenSpec.ofChange holderAloneSpec)

/-- ITS FALSE NEIGHBOUR: 'it returns false'. Refute it at one input. -/
def holderAloneWrong : ChangeSpec := { name := "holderAlone", fn := fun _ => fun
  | [d] => { results := [.lit (.bool false)], args := [d] }
  | _ => none }
def HolderAloneWrongFalsely : Prop := holderAloneRow.holds Try.pinned (OpenSpec.ofChange holderAloneWrong)

/-- 'pursuivantlaw19.LocksFull': WHATEVER THE INPUT: true; the input reads as it did. -/
def locksFullSpec : ChangeSpec := { name := "locksFull", fn := fun _ => fun
  | [d1, d2] => { results := [.lit (.bool true)], args := [d1, d2] }
  | _ => none }
def locksFullRow : OpenClaim := { program := "ytbgknfdaaffeaaa", sum := "072e7b1da52586e13cf4307005d2c5d6e8f2fd46f9627284713a88301ef3ab1c", func := "pursuivant/pursuivantlaw19.LocksFull", spec := "locksFull", unfollowed := true, recurses := true, apart := false }
def LocksFullSaid : Prop := locksFullRow.holds Try.pinned (OpenSpec.ofChange locksFullSpec)

/-- ITS FALSE NEIGHBOUR: 'it returns false'. Refute it at one input. -/
def locksFullWrong : ChangeSpec := { name := "locksFull", fn := fun _ => fun
  | [d1, d2] => { results := [.lit (.bool false)], args := [d1, d2] }
  | _ => none }
def LocksFullWrongFalsely : Prop := locksFullRow.holds Try.pinned (OpenSpec.ofChange locksFullWrong)

/-- 'pursuivantlaw28.HistorySections': WHATEVER THE INPUT: true; the input reads as it did. -/
def historySectionsSpec : ChangeSpec := { name := "historySections", fn := fun _ => fun
  | [d1, d2] => { results := [.lit (.bool true)], args := [d1, d2] }
  | _ => none }
def historySectionsRow : OpenClaim := { program := "ytbgknfdaaffeaaa", sum := "072e7b1da52586e13cf4307005d2c5d6e8f2fd46f9627284713a88301ef3ab1c", func := "pursuivant/pursuivantlaw28.HistorySections", spec := "historySections", unfollowed := true, recurses := true, apart := false }
def HistorySectionsSaid : Prop := historySectionsRow.holds Try.pinned (OpenSpec.ofChange historySectionsSpec)

/-- ITS FALSE NEIGHBOUR: 'it returns false'. Refute it at one input. -/
def historySectionsWrong : ChangeSpec := { name := "historySections", fn := fun _ => fun
  | [d1, d2] => { results := [.lit (.bool false)], args := [d1, d2] }
  | _ => none }
def HistorySectionsWrongFalsely : Prop := historySectionsRow.holds Try.pinned (OpenSpec.ofChange historySectionsWrong)

/-- 'pursuivantlaw19.LocksTokens': WHATEVER THE INPUT: true; the input reads as it did. -/
def locksTokensSpec : ChangeSpec := { name := "locksTokens", fn := fun _ => fun
  | [d1, d2] => { results := [.lit (.bool true)], args := [d1, d2] }
  | _ => none }
def locksTokensRow : OpenClaim := { program := "ytbgknfdaaffeaaa", sum := "072e7b1da52586e13cf4307005d2c5d6e8f2fd46f9627284713a88301ef3ab1c", func := "pursuivant/pursuivantlaw19.LocksTokens", spec := "locksTokens", unfollowed := true, recurses := true, apart := false }
def LocksTokensSaid : Prop := locksTokensRow.holds Try.pinned (OpenSpec.ofChange locksTokensSpec)

/-- ITS FALSE NEIGHBOUR: 'it returns false'. Refute it at one input. -/
def locksTokensWrong : ChangeSpec := { name := "locksTokens", fn := fun _ => fun
  | [d1, d2] => { results := [.lit (.bool false)], args := [d1, d2] }
  | _ => none }
def LocksTokensWrongFalsely : Prop := locksTokensRow.holds Try.pinned (OpenSpec.ofChange locksTokensWrong)

/-- 'pursuivantlaw19.LocksUnpacks': WHATEVER THE INPUT: true; the input reads as it did. -/
def locksUnpacksSpec : ChangeSpec := { name := "locksUnpacks", fn := fun _ => fun
  | [d] => { results := [.lit (.bool true)], args := [d] }
  | _ => none }
def locksUnpacksRow : OpenClaim := { program := "ytbgknfdaaffeaaa", sum := "072e7b1da52586e13cf4307005d2c5d6e8f2fd46f9627284713a88301ef3ab1c", func := "pursuivant/pursuivantlaw19.LocksUnpacks", spec := "locksUnpacks", unfollowed := true, recurses := true, apart := false }
def LocksUnpacksSaid : Prop := locksUnpacksRow.holds Try.pinned (OpenSpec.ofChange locksUnpacksSpec)

/-- ITS FALSE NEIGHBOUR: 'it returns false'. Refute it at one input. -/
def locksUnpacksWrong : ChangeSpec := { name := "locksUnpacks", fn := fun _ => fun
  | [d] => { results := [.lit (.bool false)], args := [d] }
  | _ => none }
def LocksUnpacksWrongFalsely : Prop := locksUnpacksRow.holds Try.pinned (OpenSpec.ofChange locksUnpacksWrong)

/-- 'pursuivantlaw19.LocksPlays': WHATEVER THE INPUT: true; the input reads as it did. -/
def locksPlaysSpec : ChangeSpec := { name := "locksPlays", fn := fun _ => fun
  | [d] => { results := [.lit (.bool true)], args := [d] }
  | _ => none }
def locksPlaysRow : OpenClaim := { program := "ytbgknfdaaffeaaa", sum := "072e7b1da52586e13cf4307005d2c5d6e8f2fd46f9627284713a88301ef3ab1c", func := "pursuivant/pursuivantlaw19.LocksPlays", spec := "locksPlays", unfollowed := true, recurses := true, apart := false }
def LocksPlaysSaid : Prop := locksPlaysRow.holds Try.pinned (OpenSpec.ofChange locksPlaysSpec)

/-- ITS FALSE NEIGHBOUR: 'it returns false'. Refute it at one input. -/
def locksPlaysWrong : ChangeSpec := { name := "locksPlays", fn := fun _ => fun
  | [d] => { results := [.lit (.bool false)], args := [d] }
  | _ => none }
def LocksPlaysWrongFalsely : Prop := locksPlaysRow.holds Try.pinned (OpenSpec.ofChange locksPlaysWrong)

/- THE SECOND FORM. 'bulk': how many values and letters a reading holds, each counted each time it is reached (what is shared counts as often as it is met; a slice's spare places count too). A statement '..UptoSaid' is the law's where the arguments, and the package variables that the reading takes, are together of bulk at most 1048576: NARROWER than '..Said'. Prove '..Said' where nothing that the law and all that it calls make is longer than what came in: it says more and counts as full. Else prove '..UptoSaid'. A law counts once. -/
mutual
def uptoBulk {H : Type} : DataW H → Nat
  | .lit (.string bytes) => bytes.length + 1
  | .lit _ => 1
  | .nil => 1
  | .ptr d => uptoBulk d + 1
  | .slice elems spare => uptoBulkAll elems + uptoBulkAll spare + 1
  | .agg parts => uptoBulkAll parts + 1
  | .iface _ d => uptoBulk d + 1
  | .map entries => uptoBulkEntries entries + 1
  | .held _ => 1
def uptoBulkAll {H : Type} : List (DataW H) → Nat
  | [] => 0
  | d :: r => uptoBulk d + uptoBulkAll r
def uptoBulkEntries {H : Type} : List (Lit × DataW H) → Nat
  | [] => 0
  | x :: r => uptoBulkEntry x + uptoBulkEntries r
def uptoBulkEntry {H : Type} : Lit × DataW H → Nat
  | (.string bytes, d) => bytes.length + uptoBulk d + 1
  | (_, d) => uptoBulk d + 1
 end
def uptoSmall : (H : Type) → List (DataW H) → Bool := fun _ ds => decide (uptoBulkAll ds ≤ 1048576)
def OpenSpec.upto (s : _root_.Go.ChangeSpec) : _root_.Go.OpenSpec := { _root_.Go.OpenSpec.ofChange s with cond := some uptoSmall }

/-- 'pursuivantlaw28.HistoryExplains', WHERE WHAT IT READS IS OF BULK AT MOST 1048576: true; the input reads as it did. -/
def historyExplainsUptoRow : OpenClaim := { program := "ytbgknfdaaffeaaa", sum := "072e7b1da52586e13cf4307005d2c5d6e8f2fd46f9627284713a88301ef3ab1c", func := "pursuivant/pursuivantlaw28.HistoryExplains", spec := "historyExplains", unfollowed := true, recurses := true, apart := false, narrowed := true }
def HistoryExplainsUptoSaid : Prop := historyExplainsUptoRow.holds Try.pinned (OpenSpec.upto historyExplainsSpec)

/-- 'pursuivantlaw28.HistoryRight', WHERE WHAT IT READS IS OF BULK AT MOST 1048576: true; the input reads as it did. -/
def historyRightUptoRow : OpenClaim := { program := "ytbgknfdaaffeaaa", sum := "072e7b1da52586e13cf4307005d2c5d6e8f2fd46f9627284713a88301ef3ab1c", func := "pursuivant/pursuivantlaw28.HistoryRight", spec := "historyRight", unfollowed := true, recurses := true, apart := false, narrowed := true }
def HistoryRightUptoSaid : Prop := historyRightUptoRow.holds Try.pinned (OpenSpec.upto historyRightSpec)

/-- 'pursuivantlaw24.CachePlays', WHERE WHAT IT READS IS OF BULK AT MOST 1048576: true; the input reads as it did. -/
def cachePlaysUptoRow : OpenClaim := { program := "ytbgknfdaaffeaaa", sum := "072e7b1da52586e13cf4307005d2c5d6e8f2fd46f9627284713a88301ef3ab1c", func := "pursuivant/pursuivantlaw24.CachePlays", spec := "cachePlays", unfollowed := true, recurses := true, apart := false, narrowed := true }
def CachePlaysUptoSaid : Prop := cachePlaysUptoRow.holds Try.pinned (OpenSpec.upto cachePlaysSpec)

/-- 'pursuivantlaw19.LocksOrder', WHERE WHAT IT READS IS OF BULK AT MOST 1048576: true; the input reads as it did. -/
def locksOrderUptoRow : OpenClaim := { program := "ytbgknfdaaffeaaa", sum := "072e7b1da52586e13cf4307005d2c5d6e8f2fd46f9627284713a88301ef3ab1c", func := "pursuivant/pursuivantlaw19.LocksOrder", spec := "locksOrder", unfollowed := true, recurses := true, apart := false, narrowed := true }
def LocksOrderUptoSaid : Prop := locksOrderUptoRow.holds Try.pinned (OpenSpec.upto locksOrderSpec)

/-- 'pursuivantlaw19.LocksAlone', WHERE WHAT IT READS IS OF BULK AT MOST 1048576: true; the input reads as it did. -/
def locksAloneUptoRow : OpenClaim := { program := "ytbgknfdaaffeaaa", sum := "072e7b1da52586e13cf4307005d2c5d6e8f2fd46f9627284713a88301ef3ab1c", func := "pursuivant/pursuivantlaw19.LocksAlone", spec := "locksAlone", unfollowed := true, recurses := true, apart := false, narrowed := true }
def LocksAloneUptoSaid : Prop := locksAloneUptoRow.holds Try.pinned (OpenSpec.upto locksAloneSpec)

/-- 'pursuivantlaw26.HolderAlone', WHERE WHAT IT READS IS OF BULK AT MOST 1048576: true; the input reads as it did. -/
def holderAloneUptoRow : OpenClaim := { program := "ytbgknfdaaffeaaa", sum := "072e7b1da52586e13cf4307005d2c5d6e8f2fd46f9627284713a88301ef3ab1c", func := "pursuivant/pursuivantlaw26.HolderAlone", spec := "holderAlone", unfollowed := true, recurses := true, apart := false, narrowed := true }
def HolderAloneUptoSaid : Prop := holderAloneUptoRow.holds Try.pinned (OpenSpec.upto holderAloneSpec)

/-- 'pursuivantlaw19.LocksFull', WHERE WHAT IT READS IS OF BULK AT MOST 1048576: true; the input reads as it did. -/
def locksFullUptoRow : OpenClaim := { program := "ytbgknfdaaffeaaa", sum := "072e7b1da52586e13cf4307005d2c5d6e8f2fd46f9627284713a88301ef3ab1c", func := "pursuivant/pursuivantlaw19.LocksFull", spec := "locksFull", unfollowed := true, recurses := true, apart := false, narrowed := true }
def LocksFullUptoSaid : Prop := locksFullUptoRow.holds Try.pinned (OpenSpec.upto locksFullSpec)

/-- 'pursuivantlaw28.HistorySections', WHERE WHAT IT READS IS OF BULK AT MOST 1048576: true; the input reads as it did. -/
def historySectionsUptoRow : OpenClaim := { program := "ytbgknfdaaffeaaa", sum := "072e7b1da52586e13cf4307005d2c5d6e8f2fd46f9627284713a88301ef3ab1c", func := "pursuivant/pursuivantlaw28.HistorySections", spec := "historySections", unfollowed := true, recurses := true, apart := false, narrowed := true }
def HistorySectionsUptoSaid : Prop := historySectionsUptoRow.holds Try.pinned (OpenSpec.upto historySectionsSpec)

/-- 'pursuivantlaw19.LocksTokens', WHERE WHAT IT READS IS OF BULK AT MOST 1048576: true; the input reads as it did. -/
def locksTokensUptoRow : OpenClaim := { program := "ytbgknfdaaffeaaa", sum := "072e7b1da52586e13cf4307005d2c5d6e8f2fd46f9627284713a88301ef3ab1c", func := "pursuivant/pursuivantlaw19.LocksTokens", spec := "locksTokens", unfollowed := true, recurses := true, apart := false, narrowed := true }
def LocksTokensUptoSaid : Prop := locksTokensUptoRow.holds Try.pinned (OpenSpec.upto locksTokensSpec)

/-- 'pursuivantlaw19.LocksUnpacks', WHERE WHAT IT READS IS OF BULK AT MOST 1048576: true; the input reads as it did. -/
def locksUnpacksUptoRow : OpenClaim := { program := "ytbgknfdaaffeaaa", sum := "072e7b1da52586e13cf4307005d2c5d6e8f2fd46f9627284713a88301ef3ab1c", func := "pursuivant/pursuivantlaw19.LocksUnpacks", spec := "locksUnpacks", unfollowed := true, recurses := true, apart := false, narrowed := true }
def LocksUnpacksUptoSaid : Prop := locksUnpacksUptoRow.holds Try.pinned (OpenSpec.upto locksUnpacksSpec)

/-- 'pursuivantlaw19.LocksPlays', WHERE WHAT IT READS IS OF BULK AT MOST 1048576: true; the input reads as it did. -/
def locksPlaysUptoRow : OpenClaim := { program := "ytbgknfdaaffeaaa", sum := "072e7b1da52586e13cf4307005d2c5d6e8f2fd46f9627284713a88301ef3ab1c", func := "pursuivant/pursuivantlaw19.LocksPlays", spec := "locksPlays", unfollowed := true, recurses := true, apart := false, narrowed := true }
def LocksPlaysUptoSaid : Prop := locksPlaysUptoRow.holds Try.pinned (OpenSpec.upto locksPlaysSpec)

end Rows
end Go.Proofs.Ytbgknfdaaffeaaa
