/- Arguments opened: a slice of numbers, also as a field of a struct of a slice. -/
import Derived.Test.YtbgknfdaaffeaaaOpen
namespace Go.Proofs.Ytbgknfdaaffeaaa
open Go.ChangeShapes Go.WideShapes Go.ChangeAt Go.RowKit Go.Deep

section
variable {H : Type} {enc : TypeId × Value → H} {P : Program} {W : World}

theorem open_nums_cell {t e : TypeId} {k : IntKind} {m : Nat} {u : Value} {y : DataW H × List MemPlace} (ht : P.underlying t = some (.slice e)) (he : P.underlying e = some (.int k)) (hc : P.cellsOf e = 1)
    (h : DataW.trod enc P W 0 (fun _ => true) true m t [u] = some y) :
    ∃ (A : Option Addr) (c : Nat) (xs : List Int), u = .slice A xs.length c ∧ xs.length ≤ c ∧ c ≤ maxLen ∧ (∀ x ∈ xs, (Lit.int k x).wf = true) ∧ Sl W (fun b => b < W.heap.size) 1 A xs.length (xs.map (Value.int k)) := by
  rcases open_slice1 ht hc h with ⟨hu, _⟩ | ⟨a, len, cap, m, n, V, D, Pl, hu, _, hl, hm, hmm, _, hi⟩
  · simp only [List.cons.injEq, and_true] at hu
    exact ⟨none, 0, [], hu, Nat.le_refl _, Nat.zero_le _, fun x hx => absurd hx (List.not_mem_nil), Sl.nil_ _ _ _ _⟩
  · simp only [List.cons.injEq, and_true] at hu
    simp only [if_true] at hmm
    subst hmm
    have hV : ∀ i, ∃ x : Int, i < len → V i = .int k x ∧ (Lit.int k x).wf = true := by
      intro i
      by_cases hil : i < len
      · obtain ⟨x, hx, hw⟩ := int_cell he (hi i (by omega)).2
        exact ⟨x, fun _ => ⟨hx, hw⟩⟩
      · exact ⟨0, fun h => absurd h hil⟩
    let f : Nat → Int := fun i => (hV i).choose
    have hf : ∀ i, i < len → V i = .int k (f i) ∧ (Lit.int k (f i)).wf = true := fun i hil => (hV i).choose_spec hil
    have hlen : ((List.range len).map f).length = len := by simp
    refine ⟨some a, m, (List.range len).map f, by rw [hu, hlen], by rw [hlen]; exact hl, hm, ?_, ?_⟩
    · intro x hx
      obtain ⟨i, hi', rfl⟩ := List.mem_map.1 hx
      exact (hf i (List.mem_range.1 hi')).2
    · refine ⟨by simp, fun hp => ⟨a, rfl, ?_, ?_, fun j u hu' => ?_⟩⟩
      · have := World.block_lt_of_cell? _ _ (hi 0 (by omega)).1
        simpa [addr_block] using this
      · have := World.block_lt_of_cell? _ _ (hi 0 (by omega)).1
        simpa [addr_block] using this
      · simp only [List.map_map, List.getElem?_map] at hu'
        have hj : j < len := by
          rcases Nat.lt_or_ge j len with h | h
          · exact h
          · rw [List.getElem?_eq_none (by simpa using h)] at hu'; cases hu'
        rw [List.getElem?_range hj] at hu'
        simp only [Option.map_some, Function.comp, Option.some.injEq] at hu'
        rw [(hi j (by omega)).1, (hf j hj).1, hu']

theorem open_nums {t e : TypeId} {k : IntKind} {r : Reach} {b0 : Nat} {v : Value} {d : DataW H} {ps : List MemPlace} (ht : P.underlying t = some (.slice e)) (he : P.underlying e = some (.int k)) (hc : P.cellsOf e = 1)
    (hv : Value.okWide P W r b0 t v) (h : DataW.Trod enc P W 0 (fun _ => true) true t v d ps) :
    ∃ (A : Option Addr) (c : Nat) (xs : List Int), v = .slice A xs.length c ∧ xs.length ≤ c ∧ c ≤ maxLen ∧ (∀ x ∈ xs, (Lit.int k x).wf = true) ∧ Sl W (fun b => b < W.heap.size) 1 A xs.length (xs.map (Value.int k)) := by
  obtain ⟨A, n, c, rfl⟩ := okWide_slice ht hv
  obtain ⟨fuel, hf⟩ := h
  exact open_nums_cell ht he hc hf
end

end Go.Proofs.Ytbgknfdaaffeaaa
