/- Locks: arguments opened: what is done. -/
import Derived.Test.YtbgknfdaaffeaaaOpenS
import Derived.Test.YtbgknfdaaffeaaaLkW
namespace Go.Proofs.Ytbgknfdaaffeaaa
open Go.ChangeShapes Go.WideShapes Go.ChangeAt Go.RowKit Go.Deep

theorem opl_cells : Try.prog.cellsOf 84 = 6 := by kernel_rfl
set_option maxRecDepth 100000 in
theorem open_opl {H : Type} {enc : TypeId × Value → H} {W : World} {r : Reach} {b0 : Nat} {v : Value} {d : DataW H} {ps : List MemPlace} (hv : Value.okWide Try.prog W r b0 71 v) (h : DataW.Trod enc Try.prog W 0 (fun _ => true) true 71 v d ps) :
    ∃ l css, (∀ x ∈ l, OpL.n x ≤ 18446744073709551615) ∧ ∀ w', Fr Non W w' → RowsC w' 6 OpLR v css l := by
  refine open_rowsC OpLR (fun x => OpL.n x ≤ 18446744073709551615) ⟨0, 0, 0, 0, 0, false⟩ Try.underlying71 Try.underlying84 (by kernel_rfl) opl_cells hv h (fun us hu => ?_)
  obtain ⟨y0, m0, t0⟩ := hu 0 _ rfl
  obtain ⟨y1, m1, t1⟩ := hu 1 _ rfl
  obtain ⟨y2, m2, t2⟩ := hu 2 _ rfl
  obtain ⟨y3, m3, t3⟩ := hu 3 _ rfl
  obtain ⟨y4, m4, t4⟩ := hu 4 _ rfl
  obtain ⟨y5, m5, t5⟩ := hu 5 _ rfl
  obtain ⟨x0, e0, _⟩ := int_cell Try.underlying3 t0
  obtain ⟨x1, e1, _⟩ := int_cell Try.underlying3 t1
  obtain ⟨x2, e2, _⟩ := int_cell Try.underlying3 t2
  obtain ⟨x3, e3, _⟩ := int_cell Try.underlying3 t3
  obtain ⟨x4, e4, hwf⟩ := int_cell Try.underlying33 t4
  obtain ⟨x5, e5, _⟩ := DataW.trod_bool Try.underlying4 t5
  have e5 : us 5 = .bool x5 := by simpa using e5
  exact ⟨⟨x0, x1, x2, x3, x4, x5⟩, (u64_bounds hwf).2, fun w' _ => by show [us 0, us 1, us 2, us 3, us 4, us 5] = _; rw [e0, e1, e2, e3, e4, e5]⟩
end Go.Proofs.Ytbgknfdaaffeaaa
