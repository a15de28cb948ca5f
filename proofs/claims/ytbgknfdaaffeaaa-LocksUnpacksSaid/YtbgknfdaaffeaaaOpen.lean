/- Arguments opened: integers, slices of integers, slices of structs whose fields are one cell each. -/
import Derived.Test.YtbgknfdaaffeaaaLift
import Derived.Test.YtbgknfdaaffeaaaWords
import Derived.Deep.Slices
import Derived.Deep.Fields
namespace Go.Proofs.Ytbgknfdaaffeaaa
open Go.ChangeShapes Go.WideShapes Go.ChangeAt Go.RowKit Go.Deep

theorem u64_bounds {n : Int} (h : (Lit.int .u64 n).wf = true) : 0 ≤ n ∧ n ≤ 18446744073709551615 := by
  have := bounds_u64 h
  omega

section
variable {H : Type} {enc : TypeId × Value → H} {P : Program} {W : World}

/-- a slice of structs: the cells of each field of each element, and how they read -/
theorem open_rows {t e : TypeId} {fs : Array Field} {r : Reach} {b0 : Nat} {v : Value} {d : DataW H} {ps : List MemPlace} (ht : P.underlying t = some (.slice e)) (he : P.underlying e = some (.struct fs))
    (hone : oneCellFields P fs = true) (hC : P.cellsOf e = fs.size) (hv : Value.okWide P W r b0 t v) (h : DataW.Trod enc P W 0 (fun _ => true) true t v d ps) :
    ∃ A n c, v = .slice A n c ∧ n ≤ maxLen ∧ ∀ i, i < n → ∃ ad, A = some ad ∧ ∀ (j : Nat) (f : Field), fs[j]? = some f →
      ∃ u y m, W.cell? ((ad.add (i * fs.size)).add j) = some u ∧ DataW.trod enc P W 0 (fun _ => true) true m f.type [u] = some y := by
  obtain ⟨A, n, c, rfl⟩ := okWide_slice ht hv
  obtain ⟨fuel, hf⟩ := h
  rcases open_slice ht hf with ⟨hcs, _⟩ | ⟨a, len, cap, m, k, D, Pl, hcs, _, hl, hm, hmm, _, hi⟩
  · simp only [Value.cells, List.cons.injEq, Value.slice.injEq, and_true] at hcs
    obtain ⟨rfl, rfl, rfl⟩ := hcs
    exact ⟨_, _, _, rfl, Nat.zero_le _, fun i hi => absurd hi (by omega)⟩
  · simp only [Value.cells, List.cons.injEq, Value.slice.injEq, and_true] at hcs
    obtain ⟨rfl, rfl, rfl⟩ := hcs
    refine ⟨_, _, _, rfl, Nat.le_trans hl hm, fun i hin => ⟨a, rfl, fun j f hj => ?_⟩⟩
    obtain ⟨cs', hc, ht'⟩ := hi i (by simp at hmm; omega)
    rw [hC] at hc
    obtain ⟨ys, n', _, _, hlen, hyl, hff⟩ := DataW.trod_struct he ht'
    obtain ⟨_, hcl, hat⟩ := World.cells?_some hc
    obtain ⟨ho, hk⟩ := hone_of hone j f hj
    have hjl : j < fs.size := (Array.getElem?_eq_some_iff.1 hj).1
    have hcell := hat j hjl
    have hvj : cs'[j]? = some (cs'[j]'(by omega)) := List.getElem?_eq_getElem (by omega)
    have h1 := hff j f hj
    rw [ho, hk, List.drop_eq_getElem_cons (show j < cs'.length by omega), List.take_succ_cons, List.take_zero] at h1
    have hys : ys[j]? = some (ys[j]'(by omega)) := List.getElem?_eq_getElem (by omega)
    exact ⟨_, _, _, hcell.trans hvj, h1.trans hys⟩

/-- an integer's cell -/
theorem int_cell {t : TypeId} {k : IntKind} {m : Nat} {u : Value} {y : DataW H × List MemPlace} (ht : P.underlying t = some (.int k)) (h : DataW.trod enc P W 0 (fun _ => true) true m t [u] = some y) :
    ∃ x, u = .int k x ∧ (Lit.int k x).wf = true := by
  obtain ⟨x, hx, _, hw⟩ := DataW.trod_int ht h
  simp only [List.cons.injEq, and_true] at hx
  exact ⟨x, hx, hw⟩
end

end Go.Proofs.Ytbgknfdaaffeaaa
