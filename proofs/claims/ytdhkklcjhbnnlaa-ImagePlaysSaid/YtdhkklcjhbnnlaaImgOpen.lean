/- Arguments opened: a slice of requests; one request; bytes. -/
import Derived.Test.YtdhkklcjhbnnlaaOpenC
import Derived.Test.YtdhkklcjhbnnlaaImgL
namespace Go.Proofs.Ytdhkklcjhbnnlaa
open Go.ChangeShapes Go.WideShapes Go.ChangeAt Go.RowKit Go.Deep

theorem u8_cells1 : Try.prog.cellsOf 5 = 1 := by kernel_rfl
theorem req_cells : Try.prog.cellsOf 69 = 6 := by kernel_rfl
set_option maxRecDepth 100000 in
theorem open_reqs {H : Type} {enc : TypeId × Value → H} {W : World} {r : Reach} {b0 : Nat} {v : Value} {d : DataW H} {ps : List MemPlace} (hv : Value.okWide Try.prog W r b0 56 v) (h : DataW.Trod enc Try.prog W 0 (fun _ => true) true 56 v d ps) :
    ∃ l css, (∀ x ∈ l, Bytes (RQ.data x)) ∧ ∀ w', Fr Non W w' → RowsC w' 6 ReqR v css l := by
  refine open_rowsC ReqR (fun x => Bytes x.data) ⟨0, 0, 0, 0, 0, []⟩ Try.underlying56 Try.underlying69 (by kernel_rfl) req_cells hv h (fun us hu => ?_)
  obtain ⟨y0, m0, t0⟩ := hu 0 _ rfl
  obtain ⟨y1, m1, t1⟩ := hu 1 _ rfl
  obtain ⟨y2, m2, t2⟩ := hu 2 _ rfl
  obtain ⟨y3, m3, t3⟩ := hu 3 _ rfl
  obtain ⟨y4, m4, t4⟩ := hu 4 _ rfl
  obtain ⟨y5, m5, t5⟩ := hu 5 _ rfl
  obtain ⟨x0, e0, _⟩ := int_cell Try.underlying3 t0
  obtain ⟨x1, e1, _⟩ := int_cell Try.underlying3 t1
  obtain ⟨x2, e2, _⟩ := int_cell Try.underlying3 t2
  obtain ⟨x3, e3, h3⟩ := int_cell Try.underlying39 t3
  obtain ⟨x4, e4, h4⟩ := int_cell Try.underlying58 t4
  obtain ⟨xs, hwf, hI⟩ := ints_of_cell Try.underlying24 Try.underlying5 u8_cells1 t5
  have hb := u64_bounds h3
  have hb4 := bounds_u32 h4
  exact ⟨⟨x0, x1, x2, x3, x4, xs⟩, bytes_of_wf hwf, fun w' hF => ⟨us 5, by show [us 0, us 1, us 2, us 3, us 4, us 5] = _; rw [e0, e1, e2, e3, e4], hI w' hF, hb.1, by show x3 < _; omega, by show 0 ≤ x4; omega, by show x4 < _; omega⟩⟩

section
variable {H : Type} {enc : TypeId × Value → H} {P : Program} {W : World}
/-- a struct by value, of fields of one cell each -/
theorem open_struct {r : Reach} {b0 : Nat} {t : TypeId} {fs : Array Field} {v : Value} {d : DataW H} {ps : List MemPlace} (hs : P.underlying t = some (.struct fs)) (hone : oneCellFields P fs = true) (hC : P.cellsOf t = fs.size)
    (hv : Value.okWide P W r b0 t v) (h : DataW.Trod enc P W 0 (fun _ => true) true t v d ps) :
    ∃ us : Nat → Value, v = .agg ((List.range fs.size).map us).toArray ∧ ∀ (j : Nat) (f : Field), fs[j]? = some f → ∃ y m, DataW.trod enc P W 0 (fun _ => true) true m f.type [us j] = some y := by
  obtain ⟨cs, rfl, hsz⟩ := okWide_struct hs hv
  obtain ⟨fuel, hf⟩ := h
  obtain ⟨ys, n', _, _, hlen, hyl, hff⟩ := DataW.trod_struct hs hf
  have hl : cs.toList.length = fs.size := by rw [Array.length_toList, hsz, hC]
  refine ⟨fun j => cs.toList.getD j default, ?_, fun j f hj => ?_⟩
  · congr 1
    apply Array.toList_inj.1
    apply List.ext_getElem?
    intro i
    by_cases hi : i < fs.size
    · rw [List.getElem?_map, List.getElem?_range hi, List.getElem?_eq_getElem (by omega), Option.map_some, List.getD_eq_getElem?_getD, List.getElem?_eq_getElem (by omega)]
      rfl
    · rw [List.getElem?_eq_none (by omega), List.getElem?_eq_none (by simp; omega)]
  · obtain ⟨ho, hk⟩ := hone_of hone j f hj
    have hjl : j < fs.size := (Array.getElem?_eq_some_iff.1 hj).1
    have h1 := hff j f hj
    simp only [Value.cells] at h1
    rw [ho, hk, List.drop_eq_getElem_cons (show j < cs.toList.length by omega), List.take_succ_cons, List.take_zero] at h1
    have hys : ys[j]? = some (ys[j]'(by omega)) := List.getElem?_eq_getElem (by omega)
    show ∃ y m, DataW.trod enc P W 0 (fun _ => true) true m f.type [cs.toList.getD j default] = some y
    rw [List.getD_eq_getElem?_getD, List.getElem?_eq_getElem (show j < cs.toList.length by omega), Option.getD_some]
    exact ⟨_, _, h1.trans hys⟩
end
set_option maxRecDepth 100000 in
theorem open_req {H : Type} {enc : TypeId × Value → H} {W : World} {r : Reach} {b0 : Nat} {v : Value} {d : DataW H} {ps : List MemPlace} (hv : Value.okWide Try.prog W r b0 69 v) (h : DataW.Trod enc Try.prog W 0 (fun _ => true) true 69 v d ps) :
    ∃ (x : RQ) (B : Option Addr) (n c : Nat), v = reqV x (.slice B n c) ∧ x.ok ∧ Bytes x.data ∧ ∀ w', Fr Non W w' → Ints w' .u8 (.slice B n c) x.data := by
  obtain ⟨us, rfl, hu⟩ := open_struct Try.underlying69 (by kernel_rfl) req_cells hv h
  obtain ⟨y0, m0, t0⟩ := hu 0 _ rfl
  obtain ⟨y1, m1, t1⟩ := hu 1 _ rfl
  obtain ⟨y2, m2, t2⟩ := hu 2 _ rfl
  obtain ⟨y3, m3, t3⟩ := hu 3 _ rfl
  obtain ⟨y4, m4, t4⟩ := hu 4 _ rfl
  obtain ⟨y5, m5, t5⟩ := hu 5 _ rfl
  obtain ⟨x0, e0, _⟩ := int_cell Try.underlying3 t0
  obtain ⟨x1, e1, _⟩ := int_cell Try.underlying3 t1
  obtain ⟨x2, e2, _⟩ := int_cell Try.underlying3 t2
  obtain ⟨x3, e3, h3⟩ := int_cell Try.underlying39 t3
  obtain ⟨x4, e4, h4⟩ := int_cell Try.underlying58 t4
  obtain ⟨xs, hwf, hI⟩ := ints_of_cell Try.underlying24 Try.underlying5 u8_cells1 t5
  obtain ⟨B, c, e5, _, _, _⟩ := hI W (Fr.refl _ _)
  have hb := u64_bounds h3
  have hb4 := bounds_u32 h4
  refine ⟨⟨x0, x1, x2, x3, x4, xs⟩, B, xs.length, c, ?_, ⟨hb.1, by show x3 < _; omega, by show 0 ≤ x4; omega, by show x4 < _; omega⟩, bytes_of_wf hwf, fun w' hF => by rw [← e5]; exact hI w' hF⟩
  show Value.agg #[us 0, us 1, us 2, us 3, us 4, us 5] = _
  rw [e0, e1, e2, e3, e4, e5]

end Go.Proofs.Ytdhkklcjhbnnlaa
