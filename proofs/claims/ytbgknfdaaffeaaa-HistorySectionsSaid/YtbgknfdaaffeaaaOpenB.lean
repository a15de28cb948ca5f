/- Arguments opened: integers, slices of integers, slices of structs whose fields are one cell each. -/
import Derived.Test.YtbgknfdaaffeaaaLift
import Derived.Test.YtbgknfdaaffeaaaWords
import Derived.Deep.Slices
import Derived.Deep.Fields
import Derived.Test.YtbgknfdaaffeaaaStRows
import Derived.Test.YtbgknfdaaffeaaaPackD
namespace Go.Proofs.Ytbgknfdaaffeaaa
open Go.ChangeShapes Go.WideShapes Go.ChangeAt Go.RowKit Go.Deep

theorem u64_bounds {n : Int} (h : (Lit.int .u64 n).wf = true) : 0 ≤ n ∧ n ≤ 18446744073709551615 := by
  have := bounds_u64 h
  omega

section
variable {H : Type} {enc : TypeId × Value → H} {P : Program} {W : World}

/-- a slice of structs: the cells of each field of each element, and how they read -/
theorem open_rows {t e : TypeId} {fs : Array Field} {r : Reach} {b0 : Nat} {v : Value} {d : DataW H} {ps : List MemPlace} (ht : P.underlying t = some (.slice e)) (he : P.underlying e = some (.struct fs))
    (hone : oneCellFields P fs = true) (hC : P.cellsOf e = fs.size) (hv : Value.okWide P W r b0 t v) (h : DataW.Trod enc P W 0 (fun _ => true) true t v d ps) :
    ∃ A n c, v = .slice A n c ∧ n ≤ maxLen ∧ ∀ i, i < n → ∃ ad, A = some ad ∧ ∀ (j : Nat) (f : Field), fs[j]? = some f →
      ∃ u y m, W.cell? ((ad.add (i * fs.size)).add j) = some u ∧ DataW.trod enc P W 0 (fun _ => true) true m f.type [u] = some y := by
  obtain ⟨A, n, c, rfl⟩ := okWide_slice ht hv
  obtain ⟨fuel, hf⟩ := h
  rcases open_slice ht hf with ⟨hcs, _⟩ | ⟨a, len, cap, m, k, D, Pl, hcs, _, hl, hm, hmm, _, hi⟩
  · simp only [Value.cells, List.cons.injEq, Value.slice.injEq, and_true] at hcs
    obtain ⟨rfl, rfl, rfl⟩ := hcs
    exact ⟨_, _, _, rfl, Nat.zero_le _, fun i hi => absurd hi (by omega)⟩
  · simp only [Value.cells, List.cons.injEq, Value.slice.injEq, and_true] at hcs
    obtain ⟨rfl, rfl, rfl⟩ := hcs
    refine ⟨_, _, _, rfl, Nat.le_trans hl hm, fun i hin => ⟨a, rfl, fun j f hj => ?_⟩⟩
    obtain ⟨cs', hc, ht'⟩ := hi i (by simp at hmm; omega)
    rw [hC] at hc
    obtain ⟨ys, n', _, _, hlen, hyl, hff⟩ := DataW.trod_struct he ht'
    obtain ⟨_, hcl, hat⟩ := World.cells?_some hc
    obtain ⟨ho, hk⟩ := hone_of hone j f hj
    have hjl : j < fs.size := (Array.getElem?_eq_some_iff.1 hj).1
    have hcell := hat j hjl
    have hvj : cs'[j]? = some (cs'[j]'(by omega)) := List.getElem?_eq_getElem (by omega)
    have h1 := hff j f hj
    rw [ho, hk, List.drop_eq_getElem_cons (show j < cs'.length by omega), List.take_succ_cons, List.take_zero] at h1
    have hys : ys[j]? = some (ys[j]'(by omega)) := List.getElem?_eq_getElem (by omega)
    exact ⟨_, _, _, hcell.trans hvj, h1.trans hys⟩

/-- an integer's cell -/
theorem int_cell {t : TypeId} {k : IntKind} {m : Nat} {u : Value} {y : DataW H × List MemPlace} (ht : P.underlying t = some (.int k)) (h : DataW.trod enc P W 0 (fun _ => true) true m t [u] = some y) :
    ∃ x, u = .int k x ∧ (Lit.int k x).wf = true := by
  obtain ⟨x, hx, _, hw⟩ := DataW.trod_int ht h
  simp only [List.cons.injEq, and_true] at hx
  exact ⟨x, hx, hw⟩
end

end Go.Proofs.Ytbgknfdaaffeaaa
/- Arguments opened: a slice of numbers, also as a field of a struct of a slice. -/
namespace Go.Proofs.Ytbgknfdaaffeaaa
open Go.ChangeShapes Go.WideShapes Go.ChangeAt Go.RowKit Go.Deep

section
variable {H : Type} {enc : TypeId × Value → H} {P : Program} {W : World}

theorem open_nums_cell {t e : TypeId} {k : IntKind} {m : Nat} {u : Value} {y : DataW H × List MemPlace} (ht : P.underlying t = some (.slice e)) (he : P.underlying e = some (.int k)) (hc : P.cellsOf e = 1)
    (h : DataW.trod enc P W 0 (fun _ => true) true m t [u] = some y) :
    ∃ (A : Option Addr) (c : Nat) (xs : List Int), u = .slice A xs.length c ∧ xs.length ≤ c ∧ c ≤ maxLen ∧ (∀ x ∈ xs, (Lit.int k x).wf = true) ∧ Sl W (fun b => b < W.heap.size) 1 A xs.length (xs.map (Value.int k)) := by
  rcases open_slice1 ht hc h with ⟨hu, _⟩ | ⟨a, len, cap, m, n, V, D, Pl, hu, _, hl, hm, hmm, _, hi⟩
  · simp only [List.cons.injEq, and_true] at hu
    exact ⟨none, 0, [], hu, Nat.le_refl _, Nat.zero_le _, fun x hx => absurd hx (List.not_mem_nil), Sl.nil_ _ _ _ _⟩
  · simp only [List.cons.injEq, and_true] at hu
    simp only [if_true] at hmm
    subst hmm
    have hV : ∀ i, ∃ x : Int, i < len → V i = .int k x ∧ (Lit.int k x).wf = true := by
      intro i
      by_cases hil : i < len
      · obtain ⟨x, hx, hw⟩ := int_cell he (hi i (by omega)).2
        exact ⟨x, fun _ => ⟨hx, hw⟩⟩
      · exact ⟨0, fun h => absurd h hil⟩
    let f : Nat → Int := fun i => (hV i).choose
    have hf : ∀ i, i < len → V i = .int k (f i) ∧ (Lit.int k (f i)).wf = true := fun i hil => (hV i).choose_spec hil
    have hlen : ((List.range len).map f).length = len := by simp
    refine ⟨some a, m, (List.range len).map f, by rw [hu, hlen], by rw [hlen]; exact hl, hm, ?_, ?_⟩
    · intro x hx
      obtain ⟨i, hi', rfl⟩ := List.mem_map.1 hx
      exact (hf i (List.mem_range.1 hi')).2
    · refine ⟨by simp, fun hp => ⟨a, rfl, ?_, ?_, fun j u hu' => ?_⟩⟩
      · have := World.block_lt_of_cell? _ _ (hi 0 (by omega)).1
        simpa [addr_block] using this
      · have := World.block_lt_of_cell? _ _ (hi 0 (by omega)).1
        simpa [addr_block] using this
      · simp only [List.map_map, List.getElem?_map] at hu'
        have hj : j < len := by
          rcases Nat.lt_or_ge j len with h | h
          · exact h
          · rw [List.getElem?_eq_none (by simpa using h)] at hu'; cases hu'
        rw [List.getElem?_range hj] at hu'
        simp only [Option.map_some, Function.comp, Option.some.injEq] at hu'
        rw [(hi j (by omega)).1, (hf j hj).1, hu']

theorem open_nums {t e : TypeId} {k : IntKind} {r : Reach} {b0 : Nat} {v : Value} {d : DataW H} {ps : List MemPlace} (ht : P.underlying t = some (.slice e)) (he : P.underlying e = some (.int k)) (hc : P.cellsOf e = 1)
    (hv : Value.okWide P W r b0 t v) (h : DataW.Trod enc P W 0 (fun _ => true) true t v d ps) :
    ∃ (A : Option Addr) (c : Nat) (xs : List Int), v = .slice A xs.length c ∧ xs.length ≤ c ∧ c ≤ maxLen ∧ (∀ x ∈ xs, (Lit.int k x).wf = true) ∧ Sl W (fun b => b < W.heap.size) 1 A xs.length (xs.map (Value.int k)) := by
  obtain ⟨A, n, c, rfl⟩ := okWide_slice ht hv
  obtain ⟨fuel, hf⟩ := h
  exact open_nums_cell ht he hc hf
end

end Go.Proofs.Ytbgknfdaaffeaaa
/- Arguments opened: slices of structs, as rows that stay. -/
namespace Go.Proofs.Ytbgknfdaaffeaaa
open Go.ChangeShapes Go.WideShapes Go.ChangeAt Go.RowKit Go.Deep

section
variable {H : Type} {enc : TypeId × Value → H} {P : Program} {W : World}

theorem Fr.cellSome {w w' : World} (h : Fr Non w w') {p : Addr} {u : Value} (hc : w.cell? p = some u) : w'.cell? p = some u :=
  (h.cell (p := p) (World.block_lt_of_cell? _ _ hc) (fun x => x)).trans hc

/-- a slice of structs of cells: as rows of R, of elements of which Q holds -/
theorem open_rowsC {α : Type} {t e : TypeId} {fs : Array Field} {r : Reach} {b0 : Nat} {v : Value} {d : DataW H} {ps : List MemPlace} (R : World → List Value → α → Prop) (Q : α → Prop) (x0 : α) (ht : P.underlying t = some (.slice e)) (he : P.underlying e = some (.struct fs))
    (hone : oneCellFields P fs = true) (hC : P.cellsOf e = fs.size) (hv : Value.okWide P W r b0 t v) (h : DataW.Trod enc P W 0 (fun _ => true) true t v d ps)
    (hR : ∀ us : Nat → Value, (∀ (j : Nat) (f : Field), fs[j]? = some f → ∃ y m, DataW.trod enc P W 0 (fun _ => true) true m f.type [us j] = some y) → ∃ x, Q x ∧ ∀ w', Fr Non W w' → R w' ((List.range fs.size).map us) x) :
    ∃ xs css, (∀ x ∈ xs, Q x) ∧ ∀ w', Fr Non W w' → RowsC w' fs.size R v css xs := by
  obtain ⟨A, n, c, rfl⟩ := okWide_slice ht hv
  obtain ⟨fuel, hf⟩ := h
  rcases open_slice ht hf with ⟨hcs, _⟩ | ⟨a, len, cap, m, k, D, Pl, hcs, _, hl, hm, hmm, _, hi⟩
  · simp only [Value.cells, List.cons.injEq, Value.slice.injEq, and_true] at hcs
    obtain ⟨rfl, rfl, rfl⟩ := hcs
    exact ⟨[], fun _ => [], fun x hx => absurd hx (List.not_mem_nil), fun w' _ => RowsC.none_ w' _ R _⟩
  · simp only [Value.cells, List.cons.injEq, Value.slice.injEq, and_true] at hcs
    obtain ⟨rfl, rfl, rfl⟩ := hcs
    simp only [if_true] at hmm
    subst hmm
    have hall : ∀ i, ∃ (us : Nat → Value) (x : α), i < n → Q x ∧ (∀ w', Fr Non W w' → R w' ((List.range fs.size).map us) x) ∧ ∀ j, j < fs.size → W.cell? ((a.add (i * fs.size)).add j) = some (us j) := by
      intro i
      by_cases hin : i < n
      · obtain ⟨cs', hc, ht'⟩ := hi i (by omega)
        rw [hC] at hc
        obtain ⟨ys, n', _, _, hlen, hyl, hff⟩ := DataW.trod_struct he ht'
        obtain ⟨_, hcl, hat⟩ := World.cells?_some hc
        have hcell : ∀ j, j < fs.size → W.cell? ((a.add (i * fs.size)).add j) = some (cs'.getD j default) := by
          intro j hj
          have h1 := hat j hj
          rw [h1, List.getElem?_eq_getElem (by omega), List.getD_eq_getElem?_getD, List.getElem?_eq_getElem (by omega)]
          rfl
        obtain ⟨x, hq, hx⟩ := hR (fun j => cs'.getD j default) (fun j f hj => by
          obtain ⟨ho, hk⟩ := hone_of hone j f hj
          have hjl : j < fs.size := (Array.getElem?_eq_some_iff.1 hj).1
          have h1 := hff j f hj
          rw [ho, hk, List.drop_eq_getElem_cons (show j < cs'.length by omega), List.take_succ_cons, List.take_zero] at h1
          have hys : ys[j]? = some (ys[j]'(by omega)) := List.getElem?_eq_getElem (by omega)
          have hgd : cs'.getD j default = cs'[j]'(by omega) := by rw [List.getD_eq_getElem?_getD, List.getElem?_eq_getElem (show j < cs'.length by omega), Option.getD_some]
          show ∃ y m, DataW.trod enc P W 0 (fun _ => true) true m f.type [cs'.getD j default] = some y
          rw [hgd]
          exact ⟨_, _, h1.trans hys⟩)
        exact ⟨fun j => cs'.getD j default, x, fun _ => ⟨hq, hx, hcell⟩⟩
      · exact ⟨fun _ => default, x0, fun h => absurd h hin⟩
    let us : Nat → Nat → Value := fun i => (hall i).choose
    let xf : Nat → α := fun i => (hall i).choose_spec.choose
    have hf : ∀ i, i < n → Q (xf i) ∧ (∀ w', Fr Non W w' → R w' ((List.range fs.size).map (us i)) (xf i)) ∧ ∀ j, j < fs.size → W.cell? ((a.add (i * fs.size)).add j) = some (us i j) := fun i => (hall i).choose_spec.choose_spec
    refine ⟨(List.range n).map xf, fun i => (List.range fs.size).map (us i), ?_, fun w' hF => ?_⟩
    · intro x hx
      obtain ⟨i, hi', rfl⟩ := List.mem_map.1 hx
      exact (hf i (List.mem_range.1 hi')).1
    · refine ⟨some a, m, by simp, by simpa using hl, hm, fun i x hix => ?_⟩
      have hin : i < n := by have := (List.getElem?_eq_some_iff.1 hix).1; simpa using this
      rw [List.getElem?_map, List.getElem?_range hin] at hix
      obtain rfl : xf i = x := by simpa using hix
      obtain ⟨_, h2, h3⟩ := hf i hin
      refine ⟨a, rfl, by simp, fun j u hu => ?_, h2 w' hF⟩
      have hj : j < fs.size := by have := (List.getElem?_eq_some_iff.1 hu).1; simpa using this
      rw [List.getElem?_map, List.getElem?_range hj] at hu
      obtain rfl : us i j = u := by simpa using hu
      exact hF.cellSome (h3 j hj)

/-- a slice of numbers, as a thing that stays -/
theorem ints_of_cell {t e : TypeId} {k : IntKind} {m : Nat} {u : Value} {y : DataW H × List MemPlace} (ht : P.underlying t = some (.slice e)) (he : P.underlying e = some (.int k)) (hc : P.cellsOf e = 1)
    (h : DataW.trod enc P W 0 (fun _ => true) true m t [u] = some y) : ∃ xs : List Int, (∀ x ∈ xs, (Lit.int k x).wf = true) ∧ ∀ w', Fr Non W w' → Ints w' k u xs := by
  obtain ⟨A, c, xs, rfl, h1, h2, h3, h4⟩ := open_nums_cell ht he hc h
  exact ⟨xs, h3, fun w' hF => ⟨A, c, rfl, h1, h2, (h4.mono (fun _ _ _ => trivial)).non hF⟩⟩
theorem ints_of {t e : TypeId} {k : IntKind} {r : Reach} {b0 : Nat} {v : Value} {d : DataW H} {ps : List MemPlace} (ht : P.underlying t = some (.slice e)) (he : P.underlying e = some (.int k)) (hc : P.cellsOf e = 1)
    (hv : Value.okWide P W r b0 t v) (h : DataW.Trod enc P W 0 (fun _ => true) true t v d ps) : ∃ xs : List Int, (∀ x ∈ xs, (Lit.int k x).wf = true) ∧ ∀ w', Fr Non W w' → Ints w' k v xs := by
  obtain ⟨A, n, c, rfl⟩ := okWide_slice ht hv
  obtain ⟨fuel, hf⟩ := h
  exact ints_of_cell ht he hc hf
theorem bytes_of_wf {xs : List Int} (h : ∀ x ∈ xs, (Lit.int .u8 x).wf = true) : Bytes xs := by
  intro x hx
  have := bounds_u8 (h x hx)
  unfold isByte
  omega
end

end Go.Proofs.Ytbgknfdaaffeaaa
