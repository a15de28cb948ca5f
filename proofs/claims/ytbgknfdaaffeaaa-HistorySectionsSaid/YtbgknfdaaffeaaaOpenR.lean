/- Arguments opened: a slice of slices of bytes, with what bounds each. -/
import Derived.Test.YtbgknfdaaffeaaaOpenS
namespace Go.Proofs.Ytbgknfdaaffeaaa
open Go.ChangeShapes Go.WideShapes Go.ChangeAt Go.RowKit Go.Deep

section
variable {H : Type} {enc : TypeId × Value → H} {P : Program} {W : World}
theorem weightsAll_each {p : Nat → Bool} {e : TypeId} (l : List (DataW H)) (h : (DataW.weightsAll P e l).all p = true) : ∀ d ∈ l, (d.weights P e).all p = true := by
  induction l with
  | nil => intro d hd; cases hd
  | cons x r ih =>
    simp only [DataW.weightsAll, List.all_append, Bool.and_eq_true] at h
    intro d hd
    rcases List.mem_cons.1 hd with rfl | hd
    · exact h.1
    · exact ih h.2 d hd
theorem weight_len {t e : TypeId} {m n c : Nat} {A : Option Addr} {y : DataW H × List MemPlace} (ht : P.underlying t = some (.slice e)) (hc : P.cellsOf e = 1) (h : DataW.trod enc P W 0 (fun _ => true) true m t [.slice A n c] = some y) (hw : (y.1.weights P t).all (· ≤ reachBytes) = true) : n * P.bytesOf e ≤ reachBytes := by
  rcases open_slice1 ht hc h with ⟨hu, _⟩ | ⟨a, len, cap, m, k, V, D, Pl, hu, _, hl, hm, hmm, hx, hi⟩
  · simp only [List.cons.injEq, Value.slice.injEq, and_true] at hu
    rw [hu.2.1, Nat.zero_mul]
    exact Nat.zero_le _
  · simp only [List.cons.injEq, Value.slice.injEq, and_true] at hu
    rw [hx] at hw
    simp only [DataW.weights, ht, List.all_cons, Bool.and_eq_true, decide_eq_true_eq, List.length_map, List.length_range] at hw
    rw [hu.2.1]
    exact Nat.le_trans (Nat.mul_le_mul_right _ (Nat.le_add_right _ _)) hw.1
/-- slices of numbers, each of which has a length within the reach -/
theorem open_numss {t e f : TypeId} {k : IntKind} {r : Reach} {b0 : Nat} {v : Value} {d : DataW H} {ps : List MemPlace} (ht : P.underlying t = some (.slice e)) (hce : P.cellsOf e = 1) (he : P.underlying e = some (.slice f)) (hf : P.underlying f = some (.int k)) (hcf : P.cellsOf f = 1) (hbf : 1 ≤ P.bytesOf f)
    (hv : Value.okWide P W r b0 t v) (h : DataW.Trod enc P W 0 (fun _ => true) true t v d ps) (hw : (d.weights P t).all (· ≤ reachBytes) = true) :
    ∃ (xs : List (List Int)) (css : Nat → List Value), (∀ x ∈ xs, (∀ y ∈ x, (Lit.int k y).wf = true) ∧ x.length ≤ reachBytes) ∧ ∀ w', Fr Non W w' → RowsC w' 1 (fun w cs b => ∃ v, cs = [v] ∧ Ints w k v b) v css xs := by
  obtain ⟨A, n, c, rfl⟩ := okWide_slice ht hv
  obtain ⟨fuel, hf'⟩ := h
  simp only [Value.cells] at hf'
  rcases open_slice1 ht hce hf' with ⟨hu, _⟩ | ⟨a, len, cap, m, q, V, D, Pl, hu, _, hl, hm, hmm, hx, hi⟩
  · simp only [List.cons.injEq, Value.slice.injEq, and_true] at hu
    obtain ⟨rfl, rfl, rfl⟩ := hu
    exact ⟨[], fun _ => [], fun x hx => absurd hx (List.not_mem_nil), fun w' _ => RowsC.none_ w' _ _ _⟩
  · simp only [List.cons.injEq, Value.slice.injEq, and_true] at hu
    obtain ⟨rfl, rfl, rfl⟩ := hu
    simp only [if_true] at hmm
    subst hmm
    injection hx with hx _
    subst hx
    simp only [DataW.weights, ht, List.all_cons, List.all_append, Bool.and_eq_true] at hw
    have hwD : ∀ i, i < n → ((D i).weights P e).all (· ≤ reachBytes) = true := fun i hin => weightsAll_each _ hw.2.1 _ (List.mem_map.2 ⟨i, List.mem_range.2 hin, rfl⟩)
    have hall : ∀ i, ∃ x : List Int, i < n → ((∀ y ∈ x, (Lit.int k y).wf = true) ∧ x.length ≤ reachBytes) ∧ W.cell? (a.add i) = some (V i) ∧ ∀ w', Fr Non W w' → Ints w' k (V i) x := by
      intro i
      by_cases hin : i < n
      · obtain ⟨hcell, htr⟩ := hi i (by omega)
        obtain ⟨x, hwf, hI⟩ := ints_of_cell he hf hcf htr
        obtain ⟨B, c', hVi, _, _, _⟩ := hI W (Fr.refl _ _)
        rw [hVi] at htr
        have hb := weight_len he hcf htr (hwD i hin)
        exact ⟨x, fun _ => ⟨⟨hwf, Nat.le_trans (Nat.le_mul_of_pos_right _ hbf) hb⟩, hcell, hI⟩⟩
      · exact ⟨[], fun h => absurd h hin⟩
    let g : Nat → List Int := fun i => (hall i).choose
    have hg : ∀ i, i < n → ((∀ y ∈ g i, (Lit.int k y).wf = true) ∧ (g i).length ≤ reachBytes) ∧ W.cell? (a.add i) = some (V i) ∧ ∀ w', Fr Non W w' → Ints w' k (V i) (g i) := fun i hin => (hall i).choose_spec hin
    refine ⟨(List.range n).map g, fun i => [V i], ?_, fun w' hF => ?_⟩
    · intro x hx
      obtain ⟨i, hi', rfl⟩ := List.mem_map.1 hx
      exact (hg i (List.mem_range.1 hi')).1
    · refine ⟨some a, m, by simp, by simpa using hl, hm, fun i x hix => ?_⟩
      have hin : i < n := by have := (List.getElem?_eq_some_iff.1 hix).1; simpa using this
      rw [List.getElem?_map, List.getElem?_range hin] at hix
      obtain rfl : g i = x := by simpa using hix
      obtain ⟨_, h2, h3⟩ := hg i hin
      refine ⟨a, rfl, rfl, fun j u hu => ?_, ⟨V i, rfl, h3 w' hF⟩⟩
      obtain ⟨rfl, rfl⟩ : j = 0 ∧ V i = u := by
        match j, hu with
        | 0, hu => exact ⟨rfl, by simpa using hu⟩
        | j + 1, hu => simp at hu
      rw [addr_add, Nat.mul_one, Nat.add_zero]
      exact hF.cellSome h2
end
theorem u8_bytes1 : Try.prog.bytesOf 5 = 1 := by kernel_rfl
theorem bytes_cells1 : Try.prog.cellsOf 48 = 1 := by kernel_rfl
set_option maxRecDepth 100000 in
theorem open_log {H : Type} {enc : TypeId × Value → H} {W : World} {r : Reach} {b0 : Nat} {v : Value} {d : DataW H} {ps : List MemPlace} (hv : Value.okWide Try.prog W r b0 160 v) (h : DataW.Trod enc Try.prog W 0 (fun _ => true) true 160 v d ps) (hw : (d.weights Try.prog 160).all (· ≤ reachBytes) = true) :
    ∃ (xs : List (List Int)) (css : Nat → List Value), (∀ x ∈ xs, Bytes x ∧ x.length ≤ 140737488355328) ∧ ∀ w', Fr Non W w' → RowsC w' 1 (fun w cs b => ∃ v, cs = [v] ∧ Ints w .u8 v b) v css xs := by
  obtain ⟨xs, css, h1, h2⟩ := open_numss Try.underlying160 bytes_cells1 Try.underlying48 Try.underlying5 u8_cells1 (by rw [u8_bytes1]; exact Nat.le_refl _) hv h hw
  exact ⟨xs, css, fun x hx => ⟨bytes_of_wf (h1 x hx).1, by have := (h1 x hx).2; unfold reachBytes at this; omega⟩, h2⟩
end Go.Proofs.Ytbgknfdaaffeaaa
