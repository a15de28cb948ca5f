/- Redo: arguments opened. -/
import Derived.Test.YtbnjeekhoaapiaaOpenS
import Derived.Test.YtbnjeekhoaapiaaRedoM
namespace Go.Proofs.Ytbnjeekhoaapiaa
open Go.ChangeShapes Go.WideShapes Go.ChangeAt Go.RowKit Go.Deep

theorem lput_cells : Try.prog.cellsOf 69 = 3 := by kernel_rfl
set_option maxRecDepth 100000 in
theorem open_puts {H : Type} {enc : TypeId × Value → H} {W : World} {r : Reach} {b0 : Nat} {v : Value} {d : DataW H} {ps : List MemPlace} (hv : Value.okWide Try.prog W r b0 40 v) (h : DataW.Trod enc Try.prog W 0 (fun _ => true) true 40 v d ps) :
    ∃ l css, (∀ x ∈ l, Bytes (PU.data x)) ∧ ∀ w', Fr Non W w' → RowsC w' 3 PutR v css l := by
  refine open_rowsC PutR (fun x => Bytes x.data) ⟨0, 0, []⟩ Try.underlying40 Try.underlying69 (by kernel_rfl) lput_cells hv h (fun us hu => ?_)
  obtain ⟨y0, m0, t0⟩ := hu 0 _ rfl
  obtain ⟨y1, m1, t1⟩ := hu 1 _ rfl
  obtain ⟨y2, m2, t2⟩ := hu 2 _ rfl
  obtain ⟨x0, e0, _⟩ := int_cell Try.underlying3 t0
  obtain ⟨x1, e1, _⟩ := int_cell Try.underlying3 t1
  obtain ⟨xs, hwf, hI⟩ := ints_of_cell Try.underlying60 Try.underlying5 u8_cells1 t2
  exact ⟨⟨x0, x1, xs⟩, bytes_of_wf hwf, fun w' hF => ⟨us 2, by show [us 0, us 1, us 2] = _; rw [e0, e1], hI w' hF⟩⟩
set_option maxRecDepth 100000 in
theorem open_put {H : Type} {enc : TypeId × Value → H} {W : World} {r : Reach} {b0 : Nat} {v : Value} {d : DataW H} {ps : List MemPlace} (hv : Value.okWide Try.prog W r b0 69 v) (h : DataW.Trod enc Try.prog W 0 (fun _ => true) true 69 v d ps) :
    ∃ (x : PU) (B : Option Addr) (n c : Nat), v = putV x (.slice B n c) ∧ Bytes x.data ∧ ∀ w', Fr Non W w' → Ints w' .u8 (.slice B n c) x.data := by
  obtain ⟨us, rfl, hu⟩ := open_struct Try.underlying69 (by kernel_rfl) lput_cells hv h
  obtain ⟨y0, m0, t0⟩ := hu 0 _ rfl
  obtain ⟨y1, m1, t1⟩ := hu 1 _ rfl
  obtain ⟨y2, m2, t2⟩ := hu 2 _ rfl
  obtain ⟨x0, e0, _⟩ := int_cell Try.underlying3 t0
  obtain ⟨x1, e1, _⟩ := int_cell Try.underlying3 t1
  obtain ⟨xs, hwf, hI⟩ := ints_of_cell Try.underlying60 Try.underlying5 u8_cells1 t2
  obtain ⟨B, c, e2, _, _, _⟩ := hI W (Fr.refl _ _)
  refine ⟨⟨x0, x1, xs⟩, B, xs.length, c, ?_, bytes_of_wf hwf, fun w' hF => by rw [← e2]; exact hI w' hF⟩
  show Value.agg #[us 0, us 1, us 2] = _
  rw [e0, e1, e2]
end Go.Proofs.Ytbnjeekhoaapiaa
