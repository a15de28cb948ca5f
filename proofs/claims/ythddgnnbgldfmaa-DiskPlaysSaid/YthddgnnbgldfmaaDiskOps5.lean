/- What is done to a disk, as rows that stay; with the number's range. -/
import Derived.Test.YthddgnnbgldfmaaDiskOps
namespace Go.Proofs.Ythddgnnbgldfmaa
open Go.ChangeShapes Go.WideShapes Go.ChangeAt Go.RowKit Go.Deep

set_option maxRecDepth 100000 in
theorem open_ops5 {H : Type} {enc : TypeId × Value → H} {W : World} {r : Reach} {b0 : Nat} {v : Value} {d : DataW H} {ps : List MemPlace} (hv : Value.okWide Try.prog W r b0 49 v) (h : DataW.Trod enc Try.prog W 0 (fun _ => true) true 49 v d ps) :
    ∃ (os : List Op4) (css : Nat → List Value), (∀ o ∈ os, -9223372036854775808 ≤ o.i ∧ o.i ≤ 9223372036854775807) ∧ ∀ w', Fr Non W w' → RowsC w' 4 Op4R v css os := by
  refine open_rowsC Op4R (fun o => -9223372036854775808 ≤ o.i ∧ o.i ≤ 9223372036854775807) ⟨0, 0, [], []⟩ Try.underlying49 Try.underlying61 (by kernel_rfl) op_cells hv h (fun us hu => ?_)
  obtain ⟨y0, m0, t0⟩ := hu 0 _ rfl
  obtain ⟨y1, m1, t1⟩ := hu 1 _ rfl
  obtain ⟨y2, m2, t2⟩ := hu 2 _ rfl
  obtain ⟨y3, m3, t3⟩ := hu 3 _ rfl
  obtain ⟨x0, e0, _⟩ := int_cell Try.underlying3 t0
  obtain ⟨x1, e1, hx1⟩ := int_cell Try.underlying3 t1
  obtain ⟨xs, hwf, hI⟩ := ints_of_cell Try.underlying50 Try.underlying5 u8_cells t2
  obtain ⟨zs, _, hJ⟩ := ints_of_cell Try.underlying44 Try.underlying3 i64_cells t3
  exact ⟨⟨x0, x1, xs, zs⟩, bounds_i64 hx1, fun w' hF => ⟨us 2, us 3, by show [us 0, us 1, us 2, us 3] = _; rw [e0, e1], hI w' hF, hJ w' hF⟩⟩

end Go.Proofs.Ythddgnnbgldfmaa
