/- The first one of a list of which something holds. -/
import Derived.Test.YtbgknfdaaffeaaaBase
namespace Go.Proofs.Ytbgknfdaaffeaaa

/-- where the first one is of which it is said -/
def idxL {α : Type} (p : α → Bool) : Nat → List α → Int
  | _, [] => -1
  | i, x :: r => if p x = true then (i : Int) else idxL p (i + 1) r
theorem idxL_spec {α : Type} (p : α → Bool) (l : List α) : ∀ i : Nat, (idxL p i l = -1 ∧ l.any p = false) ∨ ∃ (k : Nat) (x : α), idxL p i l = ((i + k : Nat) : Int) ∧ l[k]? = some x ∧ p x = true ∧ (l.take k).any p = false := by
  induction l with
  | nil => exact fun i => .inl ⟨rfl, rfl⟩
  | cons y r ih =>
    intro i
    by_cases hy : p y = true
    · exact .inr ⟨0, y, if_pos hy, rfl, hy, rfl⟩
    · have e : idxL p i (y :: r) = idxL p (i + 1) r := if_neg hy
      have hy : p y = false := by simpa using hy
      rcases ih (i + 1) with ⟨h1, h2⟩ | ⟨k, x, h1, h2, h3, h4⟩
      · exact .inl ⟨e.trans h1, by rw [List.any_cons, hy, h2]; rfl⟩
      · exact .inr ⟨k + 1, x, by rw [e, h1]; congr 1; omega, h2, h3, by rw [List.take_succ_cons, List.any_cons, hy, h4]; rfl⟩
theorem idxL_any {α : Type} (p : α → Bool) (l : List α) : decide (idxL p 0 l ≥ 0) = l.any p := by
  rcases idxL_spec p l 0 with ⟨h1, h2⟩ | ⟨k, x, h1, h2, h3, _⟩
  · rw [h1, h2]; rfl
  · rw [h1, List.any_eq_true.2 ⟨x, List.mem_of_getElem? h2, h3⟩]
    exact decide_eq_true (by omega)
end Go.Proofs.Ytbgknfdaaffeaaa
