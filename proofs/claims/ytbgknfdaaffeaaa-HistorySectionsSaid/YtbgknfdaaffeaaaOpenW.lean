/- Arguments opened: slices of structs, with what each part weighs. -/
import Derived.Test.YtbgknfdaaffeaaaOpenR
namespace Go.Proofs.Ytbgknfdaaffeaaa
open Go.ChangeShapes Go.WideShapes Go.ChangeAt Go.RowKit Go.Deep

section
variable {H : Type} {enc : TypeId × Value → H} {P : Program} {W : World}
theorem weightsEach_at {p : Nat → Bool} : ∀ (ts : List TypeId) (ds : List (DataW H)) (_h : (DataW.weightsEach P ts ds).all p = true) (j : Nat) (t : TypeId) (d : DataW H), ts[j]? = some t → ds[j]? = some d → (d.weights P t).all p = true
  | [], _, _, j, t, d, ht, _ => by simp at ht
  | _ :: _, [], _, j, t, d, _, hd => by simp at hd
  | t0 :: ts, d0 :: ds, h, j, t, d, ht, hd => by
    simp only [DataW.weightsEach, List.all_append, Bool.and_eq_true] at h
    cases j with
    | zero =>
      simp only [List.getElem?_cons_zero, Option.some.injEq] at ht hd
      subst ht; subst hd
      exact h.1
    | succ j => exact weightsEach_at ts ds h.2 j t d (by simpa using ht) (by simpa using hd)
/-- a cell that is a slice of structs: its rows, how many, what the elements' parts weigh -/
theorem open_rowsWc {α : Type} {t e : TypeId} {fs : Array Field} {m0 : Nat} {u0 : Value} {y0 : DataW H × List MemPlace} (R : World → List Value → α → Prop) (Q : α → Prop) (x0 : α) (ht : P.underlying t = some (.slice e)) (he : P.underlying e = some (.struct fs))
    (hone : oneCellFields P fs = true) (hC : P.cellsOf e = fs.size) (h : DataW.trod enc P W 0 (fun _ => true) true m0 t [u0] = some y0) (hw : (y0.1.weights P t).all (· ≤ reachBytes) = true)
    (hR : ∀ us : Nat → Value, (∀ (j : Nat) (f : Field), fs[j]? = some f → ∃ y m, DataW.trod enc P W 0 (fun _ => true) true m f.type [us j] = some y ∧ (y.1.weights P f.type).all (· ≤ reachBytes) = true) → ∃ x, Q x ∧ ∀ w', Fr Non W w' → R w' ((List.range fs.size).map us) x) :
    ∃ xs css, (∀ x ∈ xs, Q x) ∧ xs.length * P.bytesOf e ≤ reachBytes ∧ ∀ w', Fr Non W w' → RowsC w' fs.size R u0 css xs := by
  rcases open_slice ht h with ⟨hcs, _⟩ | ⟨a, n, cap, m, k, D, Pl, hcs, _, hl, hm, hmm, hxx, hi⟩
  · simp only [List.cons.injEq, and_true] at hcs
    subst hcs
    exact ⟨[], fun _ => [], fun x hx => absurd hx (List.not_mem_nil), by simp, fun w' _ => RowsC.none_ w' _ R _⟩
  · simp only [List.cons.injEq, and_true] at hcs
    subst hcs
    simp only [if_true] at hmm
    subst hmm
    subst hxx
    simp only [DataW.weights, ht, List.all_cons, List.all_append, Bool.and_eq_true, decide_eq_true_eq, List.length_map, List.length_range] at hw
    have hwD : ∀ i, i < n → ((D i).weights P e).all (· ≤ reachBytes) = true := fun i hin => weightsAll_each _ hw.2.1 _ (List.mem_map.2 ⟨i, List.mem_range.2 hin, rfl⟩)
    have hall : ∀ i, ∃ (us : Nat → Value) (x : α), i < n → Q x ∧ (∀ w', Fr Non W w' → R w' ((List.range fs.size).map us) x) ∧ ∀ j, j < fs.size → W.cell? ((a.add (i * fs.size)).add j) = some (us j) := by
      intro i
      by_cases hin : i < n
      · obtain ⟨cs', hc, ht'⟩ := hi i (by omega)
        rw [hC] at hc
        obtain ⟨ys, n', _, hag, hlen, hyl, hff⟩ := DataW.trod_struct he ht'
        injection hag with hag _
        have hwi := hwD i hin
        rw [hag] at hwi
        simp only [DataW.weights, he] at hwi
        obtain ⟨_, hcl, hat⟩ := World.cells?_some hc
        have hcell : ∀ j, j < fs.size → W.cell? ((a.add (i * fs.size)).add j) = some (cs'.getD j default) := by
          intro j hj
          have h1 := hat j hj
          rw [h1, List.getElem?_eq_getElem (by omega), List.getD_eq_getElem?_getD, List.getElem?_eq_getElem (by omega)]
          rfl
        obtain ⟨x, hq, hx⟩ := hR (fun j => cs'.getD j default) (fun j f hj => by
          obtain ⟨ho, hk⟩ := hone_of hone j f hj
          have hjl : j < fs.size := (Array.getElem?_eq_some_iff.1 hj).1
          have h1 := hff j f hj
          rw [ho, hk, List.drop_eq_getElem_cons (show j < cs'.length by omega), List.take_succ_cons, List.take_zero] at h1
          have hys : ys[j]? = some (ys[j]'(by omega)) := List.getElem?_eq_getElem (by omega)
          have hgd : cs'.getD j default = cs'[j]'(by omega) := by rw [List.getD_eq_getElem?_getD, List.getElem?_eq_getElem (show j < cs'.length by omega), Option.getD_some]
          show ∃ y m, DataW.trod enc P W 0 (fun _ => true) true m f.type [cs'.getD j default] = some y ∧ _
          rw [hgd]
          refine ⟨_, _, h1.trans hys, weightsEach_at _ _ hwi j f.type _ ?_ ?_⟩
          · rw [List.getElem?_map, Array.getElem?_toList, hj]; rfl
          · rw [List.getElem?_map, hys]; rfl)
        exact ⟨fun j => cs'.getD j default, x, fun _ => ⟨hq, hx, hcell⟩⟩
      · exact ⟨fun _ => default, x0, fun h => absurd h hin⟩
    let us : Nat → Nat → Value := fun i => (hall i).choose
    let xf : Nat → α := fun i => (hall i).choose_spec.choose
    have hf : ∀ i, i < n → Q (xf i) ∧ (∀ w', Fr Non W w' → R w' ((List.range fs.size).map (us i)) (xf i)) ∧ ∀ j, j < fs.size → W.cell? ((a.add (i * fs.size)).add j) = some (us i j) := fun i => (hall i).choose_spec.choose_spec
    refine ⟨(List.range n).map xf, fun i => (List.range fs.size).map (us i), ?_, by rw [List.length_map, List.length_range]; exact Nat.le_trans (Nat.mul_le_mul_right _ (Nat.le_add_right _ _)) hw.1, fun w' hF => ?_⟩
    · intro x hx
      obtain ⟨i, hi', rfl⟩ := List.mem_map.1 hx
      exact (hf i (List.mem_range.1 hi')).1
    · refine ⟨some a, m, by simp, by simpa using hl, hm, fun i x hix => ?_⟩
      have hin : i < n := by have := (List.getElem?_eq_some_iff.1 hix).1; simpa using this
      rw [List.getElem?_map, List.getElem?_range hin] at hix
      obtain rfl : xf i = x := by simpa using hix
      obtain ⟨_, h2, h3⟩ := hf i hin
      refine ⟨a, rfl, by simp, fun j u hu => ?_, h2 w' hF⟩
      have hj : j < fs.size := by have := (List.getElem?_eq_some_iff.1 hu).1; simpa using this
      rw [List.getElem?_map, List.getElem?_range hj] at hu
      obtain rfl : us i j = u := by simpa using hu
      exact hF.cellSome (h3 j hj)
/-- the same of an argument -/
theorem open_rowsWn {α : Type} {t e : TypeId} {fs : Array Field} {r : Reach} {b0 : Nat} {v : Value} {d : DataW H} {ps : List MemPlace} (R : World → List Value → α → Prop) (Q : α → Prop) (x0 : α) (ht : P.underlying t = some (.slice e)) (he : P.underlying e = some (.struct fs))
    (hone : oneCellFields P fs = true) (hC : P.cellsOf e = fs.size) (hv : Value.okWide P W r b0 t v) (h : DataW.Trod enc P W 0 (fun _ => true) true t v d ps) (hw : (d.weights P t).all (· ≤ reachBytes) = true)
    (hR : ∀ us : Nat → Value, (∀ (j : Nat) (f : Field), fs[j]? = some f → ∃ y m, DataW.trod enc P W 0 (fun _ => true) true m f.type [us j] = some y ∧ (y.1.weights P f.type).all (· ≤ reachBytes) = true) → ∃ x, Q x ∧ ∀ w', Fr Non W w' → R w' ((List.range fs.size).map us) x) :
    ∃ xs css, (∀ x ∈ xs, Q x) ∧ xs.length * P.bytesOf e ≤ reachBytes ∧ ∀ w', Fr Non W w' → RowsC w' fs.size R v css xs := by
  obtain ⟨A, n, c, rfl⟩ := okWide_slice ht hv
  obtain ⟨fuel, hf⟩ := h
  exact open_rowsWc R Q x0 ht he hone hC hf hw hR
theorem open_rowsW {α : Type} {t e : TypeId} {fs : Array Field} {r : Reach} {b0 : Nat} {v : Value} {d : DataW H} {ps : List MemPlace} (R : World → List Value → α → Prop) (Q : α → Prop) (x0 : α) (ht : P.underlying t = some (.slice e)) (he : P.underlying e = some (.struct fs))
    (hone : oneCellFields P fs = true) (hC : P.cellsOf e = fs.size) (hv : Value.okWide P W r b0 t v) (h : DataW.Trod enc P W 0 (fun _ => true) true t v d ps) (hw : (d.weights P t).all (· ≤ reachBytes) = true)
    (hR : ∀ us : Nat → Value, (∀ (j : Nat) (f : Field), fs[j]? = some f → ∃ y m, DataW.trod enc P W 0 (fun _ => true) true m f.type [us j] = some y ∧ (y.1.weights P f.type).all (· ≤ reachBytes) = true) → ∃ x, Q x ∧ ∀ w', Fr Non W w' → R w' ((List.range fs.size).map us) x) :
    ∃ xs css, (∀ x ∈ xs, Q x) ∧ ∀ w', Fr Non W w' → RowsC w' fs.size R v css xs := by
  obtain ⟨xs, css, h1, _, h2⟩ := open_rowsWn R Q x0 ht he hone hC hv h hw hR
  exact ⟨xs, css, h1, h2⟩
/-- a field of numbers: how many -/
theorem ints_len_cell {t e : TypeId} {k : IntKind} {m : Nat} {u : Value} {y : DataW H × List MemPlace} (ht : P.underlying t = some (.slice e)) (he : P.underlying e = some (.int k)) (hc : P.cellsOf e = 1) (hb : 1 ≤ P.bytesOf e)
    (h : DataW.trod enc P W 0 (fun _ => true) true m t [u] = some y) (hw : (y.1.weights P t).all (· ≤ reachBytes) = true) :
    ∃ xs : List Int, (∀ x ∈ xs, (Lit.int k x).wf = true) ∧ xs.length ≤ reachBytes ∧ ∀ w', Fr Non W w' → Ints w' k u xs := by
  obtain ⟨x, hwf, hI⟩ := ints_of_cell ht he hc h
  obtain ⟨B, c', hVi, _, _, _⟩ := hI W (Fr.refl _ _)
  rw [hVi] at h
  have hl := weight_len ht hc h hw
  exact ⟨x, hwf, Nat.le_trans (Nat.le_mul_of_pos_right _ hb) hl, hI⟩
end
end Go.Proofs.Ytbgknfdaaffeaaa
