/- Bytes as values. -/
import Derived.Test.YtbgknfdaaffeaaaCells
namespace Go.Proofs.Ytbgknfdaaffeaaa

def bv (l : List Int) : List Value := l.map (Value.int .u8)
@[simp] theorem bv_length (l : List Int) : (bv l).length = l.length := by simp [bv]
theorem bv_one (l : List Int) : ∀ u ∈ bv l, u.oneCell' = true := nums_oneCell .u8 l
theorem bv_splice (l vs : List Int) (o : Nat) : bv (splice l o vs) = splice (bv l) o (bv vs) := splice_map _ _ _ _
theorem bv_append (a b : List Int) : bv (a ++ b) = bv a ++ bv b := by simp [bv]
theorem bv_snoc (a : List Int) (x : Int) : bv (a ++ [x]) = bv a ++ [.int .u8 x] := by simp [bv]

end Go.Proofs.Ytbgknfdaaffeaaa
