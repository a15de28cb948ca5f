/- A list of what is done to a disk, opened. -/
import Derived.Test.YthddgnnbgldfmaaOpenN
import Derived.Test.YthddgnnbgldfmaaDiskMade
namespace Go.Proofs.Ythddgnnbgldfmaa
open Go.ChangeShapes Go.WideShapes Go.ChangeAt Go.RowKit Go.Deep

theorem op4_cells : Try.prog.cellsOf 61 = 4 := by kernel_rfl
theorem int_cells : Try.prog.cellsOf 3 = 1 := by kernel_rfl
theorem byte_cells : Try.prog.cellsOf 5 = 1 := by kernel_rfl

theorem add_past4 (a : Addr) {j : Nat} (h : 0 < j) : a.add j = past4 a j := by unfold Addr.add past4; rw [if_neg (by omega)]

theorem open_ops4 {H : Type} {enc : TypeId × Value → H} {W : World} {r : Reach} {b0 : Nat} {v : Value} {d : DataW H} {ps : List MemPlace} (hv : Value.okWide Try.prog W r b0 49 v) (h : DataW.Trod enc Try.prog W 0 (fun _ => true) true 49 v d ps) :
    ∃ A n c ops, v = .slice A n c ∧ n ≤ maxLen ∧ Ops4 W (Old W) A n ops := by
  obtain ⟨B, n, c, rfl, hn, hrow⟩ := open_rows Try.underlying49 Try.underlying61 (by kernel_rfl) op4_cells hv h
  have hall : ∀ i, ∃ o : Op4, i < n → ∃ ad B' C bc pc, At4 W (Old W) B i o ad B' C bc pc := by
    intro i
    by_cases hi : i < n
    · obtain ⟨ad, hB, hf⟩ := hrow i hi
      obtain ⟨u0, y0, m0, k0, t0⟩ := hf 0 _ rfl
      obtain ⟨u1, y1, m1, k1, t1⟩ := hf 1 _ rfl
      obtain ⟨u2, y2, m2, k2, t2⟩ := hf 2 _ rfl
      obtain ⟨u3, y3, m3, k3, t3⟩ := hf 3 _ rfl
      obtain ⟨x0, rfl, _⟩ := int_cell Try.underlying3 t0
      obtain ⟨x1, rfl, _⟩ := int_cell Try.underlying3 t1
      obtain ⟨A2, c2, x2, rfl, _, _, _, s2⟩ := open_nums_cell Try.underlying50 Try.underlying5 byte_cells t2
      obtain ⟨A3, c3, x3, rfl, _, _, _, s3⟩ := open_nums_cell Try.underlying44 Try.underlying3 int_cells t3
      have k0' : W.cell? (ad.add (i * 4)) = some (.int .i64 x0) := by simpa [Addr.add] using k0
      have hb := World.block_lt_of_cell? _ _ k0'
      exact ⟨⟨x0, x1, x2, x3⟩, fun _ => ⟨ad, A2, A3, c2, c3, hB, hb, hb, k0', (by rw [← add_past4 _ (j := 1) (by omega)]; exact k1), (by rw [← add_past4 _ (j := 2) (by omega)]; exact k2), (by rw [← add_past4 _ (j := 3) (by omega)]; exact k3), s2, s3⟩⟩
    · exact ⟨⟨0, 0, [], []⟩, fun h => absurd h hi⟩
  exact ⟨B, n, c, fun i => (hall i).choose, rfl, hn, fun i hi => (hall i).choose_spec hi⟩

end Go.Proofs.Ythddgnnbgldfmaa
