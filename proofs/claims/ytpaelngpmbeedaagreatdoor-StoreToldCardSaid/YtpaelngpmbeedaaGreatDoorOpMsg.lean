/- Arguments opened: a message. -/
import Derived.Test.YtpaelngpmbeedaaGreatDoorOpenZ
namespace Go.Proofs.YtpaelngpmbeedaaGreatDoor
open Go.ChangeShapes Go.WideShapes Go.ChangeAt Go.RowKit Go.Deep

set_option maxRecDepth 100000 in
theorem msg_cells : Tryz.prog.cellsOf 63 = 10 ∧ Tryz.prog.cellsOf 5 = 1 := ⟨by kernel_rfl, by kernel_rfl⟩
set_option maxRecDepth 100000 in
theorem open_msg {H : Type} {enc : TypeId × Value → H} {W : World} {r : Reach} {b0 : Nat} {v : Value} {d : DataW H} {ps : List MemPlace} (hv : Value.okWide Tryz.prog W r b0 63 v) (h : DataW.Trod enc Tryz.prog W 0 (fun _ => true) true 63 v d ps) :
    ∃ (k f t p1 i p2 p3 : Int) (ok : Bool) (A : Option Addr) (c : Nat) (b : List Int) (v9 : Value), v = .agg #[.int .i64 k, .int .i64 f, .int .i64 t, .int .u64 p1, .int .u64 i, .int .u64 p2, .int .u64 p3, .bool ok, .slice A b.length c, v9] ∧ (∃ A n c, v9 = .slice A n c) ∧ Bytes b ∧ ∀ w', Fr Non W w' → Ints w' .u8 (.slice A b.length c) b := by
  obtain ⟨us, rfl, hu⟩ := open_struct Tryz.underlying63 (by kernel_rfl) msg_cells.1 hv h
  obtain ⟨y0, n0, t0⟩ := hu 0 _ rfl
  obtain ⟨y1, n1, t1⟩ := hu 1 _ rfl
  obtain ⟨y2, n2, t2⟩ := hu 2 _ rfl
  obtain ⟨y3, n3, t3⟩ := hu 3 _ rfl
  obtain ⟨y4, n4, t4⟩ := hu 4 _ rfl
  obtain ⟨y5, n5, t5⟩ := hu 5 _ rfl
  obtain ⟨y6, n6, t6⟩ := hu 6 _ rfl
  obtain ⟨y7, n7, t7⟩ := hu 7 _ rfl
  obtain ⟨y8, n8, t8⟩ := hu 8 _ rfl
  obtain ⟨y9, n9, t9⟩ := hu 9 _ rfl
  obtain ⟨x0, e0, _⟩ := int_cell Tryz.underlying3 t0
  obtain ⟨x1, e1, _⟩ := int_cell Tryz.underlying3 t1
  obtain ⟨x2, e2, _⟩ := int_cell Tryz.underlying3 t2
  obtain ⟨x3, e3, _⟩ := int_cell Tryz.underlying30 t3
  obtain ⟨x4, e4, _⟩ := int_cell Tryz.underlying30 t4
  obtain ⟨x5, e5, _⟩ := int_cell Tryz.underlying30 t5
  obtain ⟨x6, e6, _⟩ := int_cell Tryz.underlying30 t6
  obtain ⟨x7, e7, _⟩ := DataW.trod_bool Tryz.underlying4 t7
  simp only [List.cons.injEq, and_true] at e7
  obtain ⟨b, hwf, hI⟩ := ints_of_cell Tryz.underlying34 Tryz.underlying5 msg_cells.2 t8
  obtain ⟨A, c, e8, _, _, _⟩ := hI W (Fr.refl _ _)
  have e9 : ∃ A n c, us 9 = .slice A n c := by
    rcases open_slice Tryz.underlying61 t9 with ⟨hc, _⟩ | ⟨a, len, cap, _, _, _, _, hc, _⟩
    · simp only [List.cons.injEq, and_true] at hc
      exact ⟨_, _, _, hc⟩
    · simp only [List.cons.injEq, and_true] at hc
      exact ⟨_, _, _, hc⟩
  refine ⟨x0, x1, x2, x3, x4, x5, x6, x7, A, c, b, us 9, ?_, e9, bytes_of_wf hwf, fun w' hF => by rw [← e8]; exact hI w' hF⟩
  show Value.agg #[us 0, us 1, us 2, us 3, us 4, us 5, us 6, us 7, us 8, us 9] = _
  rw [e0, e1, e2, e3, e4, e5, e6, e7, e8]
end Go.Proofs.YtpaelngpmbeedaaGreatDoor
