/- Redo: writes, their records (plain). -/
import Derived.Test.YtbgknfdaaffeaaaImgM
import Derived.Test.YtbgknfdaaffeaaaStRows
namespace Go.Proofs.Ytbgknfdaaffeaaa
open Go.RowKit

structure PU where
  region : Int
  index : Int
  data : List Int
def PutR (w : World) (cs : List Value) (p : PU) : Prop := ∃ v, cs = [.int .i64 p.region, .int .i64 p.index, v] ∧ Ints w .u8 v p.data
abbrev putV (p : PU) (v : Value) : Value := .agg #[.int .i64 p.region, .int .i64 p.index, v]
def recE (p : PU) : Int := if p.index < 0 ∨ 4 ≤ p.index then 101 else if 23 < p.data.length then 2 else 0
def recB (p : PU) : List Int := if recE p = 0 then p.index :: p.data else []
def parE (b : List Int) : Int := match b with
  | [] => 10
  | i :: d => if 4 ≤ i then 101 else if 23 < d.length then 2 else 0
def parP (region : Int) (b : List Int) : PU := match b with
  | [] => ⟨0, 0, []⟩
  | i :: d => if parE (i :: d) = 0 then ⟨region, i, d⟩ else ⟨0, 0, []⟩
theorem rec_par (region : Int) (i : Int) (d : List Int) (h0 : 0 ≤ i) : recE ⟨region, i, d⟩ = parE (i :: d) := by
  rw [show parE (i :: d) = if 4 ≤ i then 101 else if 23 < d.length then 2 else 0 from rfl]
  unfold recE
  by_cases h : 4 ≤ i
  · rw [if_pos (.inr h), if_pos h]
  · rw [if_neg (by intro h1; rcases h1 with h1 | h1 <;> simp only at h1 <;> omega), if_neg h]
/-- the first of which it is said, or none -/
def idxP (p : PU → Bool) : Nat → List PU → Int
  | _, [] => -1
  | i, x :: r => if p x = true then i else idxP p (i + 1) r
theorem idxP_any (p : PU → Bool) (l : List PU) : ∀ i, decide (0 ≤ idxP p i l) = l.any p := by
  induction l with
  | nil => intro i; rfl
  | cons x r ih =>
    intro i
    show decide (0 ≤ (if p x = true then (i : Int) else idxP p (i + 1) r)) = (p x || r.any p)
    cases hp : p x with
    | true => rw [if_pos rfl, Bool.true_or]; exact decide_eq_true (by omega)
    | false => rw [if_neg Bool.false_ne_true, Bool.false_or]; exact ih _
end Go.Proofs.Ytbgknfdaaffeaaa
