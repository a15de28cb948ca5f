/- Numbers and bytes, one behind the other (plain). -/
import Derived.Test.YtbgknfdaaffeaaaBv
namespace Go.Proofs.Ytbgknfdaaffeaaa

/-- a number's bytes, the lowest one first -/
def numB (n : Int) (k : Nat) : List Int := (List.range k).map fun i => n / 256 ^ i % 256
theorem numB_zero (n : Int) : numB n 0 = [] := rfl
theorem numB_succ (n : Int) (k : Nat) : numB n (k + 1) = numB n k ++ [n / 256 ^ k % 256] := by simp [numB, List.range_succ]
theorem numB_length (n : Int) (k : Nat) : (numB n k).length = k := by simp [numB]
/-- none, where the size is none -/
def numI (n size : Int) : List Int := if size < 1 ∨ 8 < size then [] else numB n size.toNat
theorem numI_length (n size : Int) : (numI n size).length ≤ 8 := by
  unfold numI
  split
  · simp
  · rw [numB_length]; omega
/-- bytes, their number ahead of them -/
def bytB (b : List Int) : List Int := numB (b.take 1000).length 2 ++ b.take 1000
theorem bytB_length (b : List Int) : (bytB b).length ≤ 1002 := by
  unfold bytB
  rw [List.length_append, numB_length, List.length_take]
  omega

end Go.Proofs.Ytbgknfdaaffeaaa
