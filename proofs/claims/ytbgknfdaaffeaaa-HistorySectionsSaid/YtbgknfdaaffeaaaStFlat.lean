/- The cells of rows one behind the other; a copy of rows that grows on. -/
import Derived.Test.YtbgknfdaaffeaaaStRows
namespace Go.Proofs.Ytbgknfdaaffeaaa
open Go.RowKit

def flat (css : Nat → List Value) (n : Nat) : List Value := (List.range n).flatMap css
theorem flat_succ (css : Nat → List Value) (n : Nat) : flat css (n + 1) = flat css n ++ css n := by simp [flat, List.range_succ]
theorem flat_length {css : Nat → List Value} {n size : Nat} (h : ∀ i, i < n → (css i).length = size) : (flat css n).length = n * size := by
  induction n with
  | zero => simp [flat]
  | succ n ih => rw [flat_succ, List.length_append, ih (fun i hi => h i (by omega)), h n (by omega), Nat.add_mul, Nat.one_mul]
theorem flat_at {css : Nat → List Value} {n size : Nat} (h : ∀ i, i < n → (css i).length = size) {i : Nat} (hi : i < n) : ((flat css n).drop (i * size)).take size = css i := by
  induction n with
  | zero => omega
  | succ n ih =>
    have hl := flat_length (css := css) (n := n) (size := size) (fun i hi => h i (by omega))
    rw [flat_succ]
    by_cases hin : i < n
    · have hle : (i + 1) * size ≤ n * size := Nat.mul_le_mul_right _ hin
      rw [Nat.add_mul, Nat.one_mul] at hle
      rw [List.drop_append_of_le_length (by omega), List.take_append_of_le_length (by rw [List.length_drop]; omega)]
      exact ih (fun i hi => h i (by omega)) hin
    · have e : i = n := by omega
      subst e
      rw [← hl, List.drop_left, ← h i (by omega), List.take_length]
theorem flat_mem {css : Nat → List Value} {n : Nat} {u : Value} (h : u ∈ flat css n) : ∃ i, i < n ∧ u ∈ css i := by
  unfold flat at h
  obtain ⟨i, hi, hu⟩ := List.mem_flatMap.1 h
  exact ⟨i, List.mem_range.1 hi, hu⟩

section
variable {α : Type} {M0 : Imm} {w : World} {L : List Res} {size : Nat} {R : World → List Value → α → Prop} {xs : List α}
theorem RowsC.sl {A : Option Addr} {n c : Nat} {css : Nat → List Value} (h : RowsC w size R (.slice A n c) css xs) (hs : 0 < size) : Sl w Any size A n (flat css n) ∧ n = xs.length ∧ n ≤ c ∧ c ≤ maxLen ∧ (∀ i, i < n → (css i).length = size) := by
  obtain ⟨A', c', e, h1, h2, h3⟩ := h
  injection e with e1 e2 e3
  subst e1; subst e2; subst e3
  have hl : ∀ i, i < xs.length → (css i).length = size := fun i hi => by
    obtain ⟨ad, _, h4, _⟩ := h3 i _ (List.getElem?_eq_getElem hi)
    exact h4
  refine ⟨⟨flat_length hl, fun hn => ?_⟩, rfl, h1, h2, hl⟩
  obtain ⟨ad, rfl, _, hc0, _⟩ := h3 0 _ (List.getElem?_eq_getElem hn)
  have hat : ∀ j u, (flat css xs.length)[j]? = some u → w.cell? (ad.add j) = some u := by
    intro j u hu
    have hj : j < xs.length * size := by
      have := (List.getElem?_eq_some_iff.1 hu).1
      rwa [flat_length hl] at this
    have hi : j / size < xs.length := Nat.div_lt_of_lt_mul (by rwa [Nat.mul_comm] at hj)
    obtain ⟨ad', e, _, hc, _⟩ := h3 (j / size) _ (List.getElem?_eq_getElem hi)
    injection e with e
    subst e
    have hfa := flat_at hl hi
    have hj2 : j % size < size := Nat.mod_lt _ hs
    have hu2 : (css (j / size))[j % size]? = some u := by
      rw [← hfa, List.getElem?_take, if_pos hj2, List.getElem?_drop, show j / size * size + j % size = j from Nat.div_add_mod' j size]
      exact hu
    have := hc (j % size) u hu2
    rwa [addr_add, Nat.div_add_mod' j size] at this
  refine ⟨ad, rfl, trivial, ?_, hat⟩
  have hpos : 0 < (flat css xs.length).length := by rw [flat_length hl]; exact Nat.mul_pos hn hs
  have := World.block_lt_of_cell? _ _ (hat 0 _ (List.getElem?_eq_getElem hpos))
  rwa [addr_block] at this
/-- rows, opened: their cells, as facts that stay -/
theorem St.openRows {v : Value} (h : St M0 w (rowsR size R v xs :: L)) : ∃ css, St M0 w (persR (fun w' => RowsC w' size R v css xs) :: L) := h.ex
theorem St.growOf {e : TypeId} {q : Nat} {v u : Value} {css : Nat → List Value} (h : St M0 w (rowR e size v q (flat css q) :: persR (fun w' => RowsC w' size R u css xs) :: L)) (hq : q = xs.length) (hl : ∀ i, i < q → (css i).length = size) : St M0 w (growR e size R v xs :: L) := by
  subst hq
  refine St.addEx (f := fun vs => starR (rowR e size v xs.length vs) (persR (fun w => ∀ (i : Nat) x, xs[i]? = some x → R w ((vs.drop (i * size)).take size) x))) (flat css xs.length) (St.addStar ?_)
  refine (h.swap.pers1 (fun w' hr i x hi => ?_)).swap
  have hlt := (List.getElem?_eq_some_iff.1 hi).1
  rw [flat_at hl hlt]
  obtain ⟨A', c', _, _, _, h3⟩ := hr
  obtain ⟨_, _, _, _, h5⟩ := h3 i x hi
  exact h5
end

end Go.Proofs.Ytbgknfdaaffeaaa
