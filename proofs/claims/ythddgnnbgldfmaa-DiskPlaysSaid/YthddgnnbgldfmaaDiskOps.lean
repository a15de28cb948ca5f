/- What is done to a disk, as rows that stay. -/
import Derived.Test.YthddgnnbgldfmaaOpenC
import Derived.Test.YthddgnnbgldfmaaDiskSt
import Derived.Test.YthddgnnbgldfmaaDiskFold
import Derived.Test.YthddgnnbgldfmaaDiskMade
namespace Go.Proofs.Ythddgnnbgldfmaa
open Go.ChangeShapes Go.WideShapes Go.ChangeAt Go.RowKit Go.Deep

def Op4R (w : World) (cs : List Value) (o : Op4) : Prop := ∃ B C, cs = [.int .i64 o.d, .int .i64 o.i, B, C] ∧ Ints w .u8 B o.b ∧ Ints w .i64 C o.p
theorem cells4 {w : World} {p : Addr} {a b c d : Value} (h : ∀ j u, [a, b, c, d][j]? = some u → w.cell? (p.add j) = some u) :
    w.cell? p = some a ∧ w.cell? ⟨p.block, p.off + 1, none⟩ = some b ∧ w.cell? ⟨p.block, p.off + 2, none⟩ = some c ∧ w.cell? ⟨p.block, p.off + 3, none⟩ = some d :=
  ⟨by simpa [Addr.add] using h 0 a rfl, by simpa [Addr.add] using h 1 b rfl, by simpa [Addr.add] using h 2 c rfl, by simpa [Addr.add] using h 3 d rfl⟩
theorem Op4R.b {w : World} {x y B C : Value} {o : Op4} (h : Op4R w [x, y, B, C] o) : Ints w .u8 B o.b := by
  obtain ⟨B', C', e, h1, _⟩ := h
  simp at e
  rw [e.2.2.1]
  exact h1
theorem Op4R.p {w : World} {x y B C : Value} {o : Op4} (h : Op4R w [x, y, B, C] o) : Ints w .i64 C o.p := by
  obtain ⟨B', C', e, _, h1⟩ := h
  simp at e
  rw [e.2.2.2]
  exact h1
theorem op_cells : Try.prog.cellsOf 61 = 4 := by kernel_rfl
theorem i64_cells : Try.prog.cellsOf 3 = 1 := by kernel_rfl
theorem u8_cells : Try.prog.cellsOf 5 = 1 := by kernel_rfl

set_option maxRecDepth 100000 in
theorem open_ops {H : Type} {enc : TypeId × Value → H} {W : World} {r : Reach} {b0 : Nat} {v : Value} {d : DataW H} {ps : List MemPlace} (hv : Value.okWide Try.prog W r b0 49 v) (h : DataW.Trod enc Try.prog W 0 (fun _ => true) true 49 v d ps) :
    ∃ (os : List Op4) (css : Nat → List Value), (∀ o ∈ os, Bytes o.b) ∧ ∀ w', Fr Non W w' → RowsC w' 4 Op4R v css os := by
  refine open_rowsC Op4R (fun o => Bytes o.b) ⟨0, 0, [], []⟩ Try.underlying49 Try.underlying61 (by kernel_rfl) op_cells hv h (fun us hu => ?_)
  obtain ⟨y0, m0, t0⟩ := hu 0 _ rfl
  obtain ⟨y1, m1, t1⟩ := hu 1 _ rfl
  obtain ⟨y2, m2, t2⟩ := hu 2 _ rfl
  obtain ⟨y3, m3, t3⟩ := hu 3 _ rfl
  obtain ⟨x0, e0, _⟩ := int_cell Try.underlying3 t0
  obtain ⟨x1, e1, _⟩ := int_cell Try.underlying3 t1
  obtain ⟨xs, hwf, hI⟩ := ints_of_cell Try.underlying50 Try.underlying5 u8_cells t2
  obtain ⟨zs, _, hJ⟩ := ints_of_cell Try.underlying44 Try.underlying3 i64_cells t3
  exact ⟨⟨x0, x1, xs, zs⟩, bytes_of_wf hwf, fun w' hF => ⟨us 2, us 3, by show [us 0, us 1, us 2, us 3] = _; rw [e0, e1], hI w' hF, hJ w' hF⟩⟩

theorem int_row : ElemOf Try.prog 44 3 (.int .i64 0) 1 8 := ⟨Try.underlying44, by kernel_rfl, by kernel_rfl, by omega⟩

end Go.Proofs.Ythddgnnbgldfmaa
