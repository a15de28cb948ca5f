/- Arguments opened: one struct by value. -/
import Derived.Test.YtbgknfdaaffeaaaOpenB
namespace Go.Proofs.Ytbgknfdaaffeaaa
open Go.ChangeShapes Go.WideShapes Go.ChangeAt Go.RowKit Go.Deep

theorem u8_cells1 : Try.prog.cellsOf 5 = 1 := by kernel_rfl
section
variable {H : Type} {enc : TypeId × Value → H} {P : Program} {W : World}
/-- a struct by value, of fields of one cell each -/
theorem open_struct {r : Reach} {b0 : Nat} {t : TypeId} {fs : Array Field} {v : Value} {d : DataW H} {ps : List MemPlace} (hs : P.underlying t = some (.struct fs)) (hone : oneCellFields P fs = true) (hC : P.cellsOf t = fs.size)
    (hv : Value.okWide P W r b0 t v) (h : DataW.Trod enc P W 0 (fun _ => true) true t v d ps) :
    ∃ us : Nat → Value, v = .agg ((List.range fs.size).map us).toArray ∧ ∀ (j : Nat) (f : Field), fs[j]? = some f → ∃ y m, DataW.trod enc P W 0 (fun _ => true) true m f.type [us j] = some y := by
  obtain ⟨cs, rfl, hsz⟩ := okWide_struct hs hv
  obtain ⟨fuel, hf⟩ := h
  obtain ⟨ys, n', _, _, hlen, hyl, hff⟩ := DataW.trod_struct hs hf
  have hl : cs.toList.length = fs.size := by rw [Array.length_toList, hsz, hC]
  refine ⟨fun j => cs.toList.getD j default, ?_, fun j f hj => ?_⟩
  · congr 1
    apply Array.toList_inj.1
    apply List.ext_getElem?
    intro i
    by_cases hi : i < fs.size
    · rw [List.getElem?_map, List.getElem?_range hi, List.getElem?_eq_getElem (by omega), Option.map_some, List.getD_eq_getElem?_getD, List.getElem?_eq_getElem (by omega)]
      rfl
    · rw [List.getElem?_eq_none (by omega), List.getElem?_eq_none (by simp; omega)]
  · obtain ⟨ho, hk⟩ := hone_of hone j f hj
    have hjl : j < fs.size := (Array.getElem?_eq_some_iff.1 hj).1
    have h1 := hff j f hj
    simp only [Value.cells] at h1
    rw [ho, hk, List.drop_eq_getElem_cons (show j < cs.toList.length by omega), List.take_succ_cons, List.take_zero] at h1
    have hys : ys[j]? = some (ys[j]'(by omega)) := List.getElem?_eq_getElem (by omega)
    show ∃ y m, DataW.trod enc P W 0 (fun _ => true) true m f.type [cs.toList.getD j default] = some y
    rw [List.getD_eq_getElem?_getD, List.getElem?_eq_getElem (show j < cs.toList.length by omega), Option.getD_some]
    exact ⟨_, _, h1.trans hys⟩
end
end Go.Proofs.Ytbgknfdaaffeaaa
