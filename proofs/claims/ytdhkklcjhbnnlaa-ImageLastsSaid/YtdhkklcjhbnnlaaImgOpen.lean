/- Arguments opened: a slice of requests; one request; bytes. -/
import Derived.Test.YtdhkklcjhbnnlaaOpenC
import Derived.Test.YtdhkklcjhbnnlaaImgL
namespace Go.Proofs.Ytdhkklcjhbnnlaa
open Go.ChangeShapes Go.WideShapes Go.ChangeAt Go.RowKit Go.Deep

theorem u8_cells1 : Try.prog.cellsOf 5 = 1 := by kernel_rfl
theorem req_cells : Try.prog.cellsOf 69 = 6 := by kernel_rfl
set_option maxRecDepth 100000 in
theorem open_reqs {H : Type} {enc : TypeId × Value → H} {W : World} {r : Reach} {b0 : Nat} {v : Value} {d : DataW H} {ps : List MemPlace} (hv : Value.okWide Try.prog W r b0 56 v) (h : DataW.Trod enc Try.prog W 0 (fun _ => true) true 56 v d ps) :
    ∃ l css, (∀ x ∈ l, Bytes (RQ.data x)) ∧ ∀ w', Fr Non W w' → RowsC w' 6 ReqR v css l := by
  refine open_rowsC ReqR (fun x => Bytes x.data) ⟨0, 0, 0, 0, 0, []⟩ Try.underlying56 Try.underlying69 (by kernel_rfl) req_cells hv h (fun us hu => ?_)
  obtain ⟨y0, m0, t0⟩ := hu 0 _ rfl
  obtain ⟨y1, m1, t1⟩ := hu 1 _ rfl
  obtain ⟨y2, m2, t2⟩ := hu 2 _ rfl
  obtain ⟨y3, m3, t3⟩ := hu 3 _ rfl
  obtain ⟨y4, m4, t4⟩ := hu 4 _ rfl
  obtain ⟨y5, m5, t5⟩ := hu 5 _ rfl
  obtain ⟨x0, e0, _⟩ := int_cell Try.underlying3 t0
  obtain ⟨x1, e1, _⟩ := int_cell Try.underlying3 t1
  obtain ⟨x2, e2, _⟩ := int_cell Try.underlying3 t2
  obtain ⟨x3, e3, h3⟩ := int_cell Try.underlying39 t3
  obtain ⟨x4, e4, h4⟩ := int_cell Try.underlying58 t4
  obtain ⟨xs, hwf, hI⟩ := ints_of_cell Try.underlying24 Try.underlying5 u8_cells1 t5
  have hb := u64_bounds h3
  have hb4 := bounds_u32 h4
  exact ⟨⟨x0, x1, x2, x3, x4, xs⟩, bytes_of_wf hwf, fun w' hF => ⟨us 5, by show [us 0, us 1, us 2, us 3, us 4, us 5] = _; rw [e0, e1, e2, e3, e4], hI w' hF, hb.1, by show x3 < _; omega, by show 0 ≤ x4; omega, by show x4 < _; omega⟩⟩

end Go.Proofs.Ytdhkklcjhbnnlaa
