/- History: arguments opened: sections. -/
import Derived.Test.YtbgknfdaaffeaaaOpenW
import Derived.Test.YtbgknfdaaffeaaaHiB
namespace Go.Proofs.Ytbgknfdaaffeaaa
open Go.ChangeShapes Go.WideShapes Go.ChangeAt Go.RowKit Go.Deep

theorem put_cellsH : Try.prog.cellsOf 122 = 2 := by kernel_rfl
theorem look_cellsH : Try.prog.cellsOf 124 = 3 := by kernel_rfl
theorem sec_cellsH : Try.prog.cellsOf 37 = 4 := by kernel_rfl
theorem put_bytesH : Try.prog.bytesOf 122 = 32 := by kernel_rfl
theorem look_bytesH : Try.prog.bytesOf 124 = 40 := by kernel_rfl
theorem sec_bytesH : Try.prog.bytesOf 37 = 64 := by kernel_rfl
set_option maxRecDepth 100000 in
theorem open_putsH {H : Type} {enc : TypeId × Value → H} {W : World} {m : Nat} {u : Value} {y : DataW H × List MemPlace} (h : DataW.trod enc Try.prog W 0 (fun _ => true) true m 34 [u] = some y) (hw : (y.1.weights Try.prog 34).all (· ≤ reachBytes) = true) :
    ∃ l css, (∀ x ∈ l, Bytes (PutH.d x)) ∧ l.length * 32 ≤ 140737488355328 ∧ ∀ w', Fr Non W w' → RowsC w' 2 PutHR u css l := by
  obtain ⟨xs, css, h1, h2, h3⟩ := open_rowsWc PutHR (fun x => Bytes (PutH.d x)) ⟨0, []⟩ Try.underlying34 Try.underlying122 (by kernel_rfl) put_cellsH h hw (fun us hu => by
    obtain ⟨y0, m0, t0, _⟩ := hu 0 _ rfl
    obtain ⟨y1, m1, t1, w1⟩ := hu 1 _ rfl
    obtain ⟨x0, e0, _⟩ := int_cell Try.underlying3 t0
    obtain ⟨xs, hwf, hI⟩ := ints_of_cell Try.underlying48 Try.underlying5 u8_cells1 t1
    exact ⟨⟨x0, xs⟩, bytes_of_wf hwf, fun w' hF => ⟨us 1, by show [us 0, us 1] = _; rw [e0], hI w' hF⟩⟩)
  rw [put_bytesH] at h2
  exact ⟨xs, css, h1, by unfold reachBytes at h2; omega, h3⟩
set_option maxRecDepth 100000 in
theorem open_looksH {H : Type} {enc : TypeId × Value → H} {W : World} {m : Nat} {u : Value} {y : DataW H × List MemPlace} (h : DataW.trod enc Try.prog W 0 (fun _ => true) true m 35 [u] = some y) (hw : (y.1.weights Try.prog 35).all (· ≤ reachBytes) = true) :
    ∃ l css, (∀ x ∈ l, Bytes (LookH.d x)) ∧ l.length * 40 ≤ 140737488355328 ∧ ∀ w', Fr Non W w' → RowsC w' 3 LookHR u css l := by
  obtain ⟨xs, css, h1, h2, h3⟩ := open_rowsWc LookHR (fun x => Bytes (LookH.d x)) ⟨0, 0, []⟩ Try.underlying35 Try.underlying124 (by kernel_rfl) look_cellsH h hw (fun us hu => by
    obtain ⟨y0, m0, t0, _⟩ := hu 0 _ rfl
    obtain ⟨y1, m1, t1, _⟩ := hu 1 _ rfl
    obtain ⟨y2, m2, t2, _⟩ := hu 2 _ rfl
    obtain ⟨x0, e0, _⟩ := int_cell Try.underlying3 t0
    obtain ⟨x1, e1, _⟩ := int_cell Try.underlying3 t1
    obtain ⟨xs, hwf, hI⟩ := ints_of_cell Try.underlying48 Try.underlying5 u8_cells1 t2
    exact ⟨⟨x0, x1, xs⟩, bytes_of_wf hwf, fun w' hF => ⟨us 2, by show [us 0, us 1, us 2] = _; rw [e0, e1], hI w' hF⟩⟩)
  rw [look_bytesH] at h2
  exact ⟨xs, css, h1, by unfold reachBytes at h2; omega, h3⟩
theorem byt_of {xs : List Int} (h : Bytes xs) : Byt xs := fun x hx => by have := h x hx; unfold isByte at this; omega
structure SecIn (x : SecX) : Prop where
  p : ∀ y ∈ x.s.p, Bytes y.d
  k : ∀ y ∈ x.s.k, Bytes y.d
  pl : x.s.p.length * 32 ≤ 140737488355328
  kl : x.s.k.length * 40 ≤ 140737488355328
  s0 : -9223372036854775808 ≤ x.s.s
  s1 : x.s.s ≤ 9223372036854775807
theorem rows_value {α : Type} {W : World} {size : Nat} {R : World → List Value → α → Prop} {u : Value} {css : Nat → List Value} {l : List α} (h : ∀ w', Fr Non W w' → RowsC w' size R u css l) : ∃ A c, u = .slice A l.length c := by
  obtain ⟨A, c, e, _⟩ := h W (Fr.refl _ _)
  exact ⟨A, c, e⟩
set_option maxRecDepth 100000 in
theorem open_secs {H : Type} {enc : TypeId × Value → H} {W : World} {r : Reach} {b0 : Nat} {v : Value} {d : DataW H} {ps : List MemPlace} (hv : Value.okWide Try.prog W r b0 22 v) (h : DataW.Trod enc Try.prog W 0 (fun _ => true) true 22 v d ps) (hw : (d.weights Try.prog 22).all (· ≤ reachBytes) = true) :
    ∃ l css, (∀ x ∈ l, SecIn x) ∧ l.length * 64 ≤ 140737488355328 ∧ ∀ w', Fr Non W w' → RowsC w' 4 SecXR v css l := by
  obtain ⟨xs, css, h1, h2, h3⟩ := open_rowsWn SecXR SecIn ⟨⟨0, [], 0, []⟩, none, 0, fun _ => [], none, 0, fun _ => []⟩ Try.underlying22 Try.underlying37 (by kernel_rfl) sec_cellsH hv h hw (fun us hu => by
    obtain ⟨y0, m0, t0, _⟩ := hu 0 _ rfl
    obtain ⟨y1, m1, t1, w1⟩ := hu 1 _ rfl
    obtain ⟨y2, m2, t2, _⟩ := hu 2 _ rfl
    obtain ⟨y3, m3, t3, w3⟩ := hu 3 _ rfl
    obtain ⟨x0, e0, _⟩ := int_cell Try.underlying33 t0
    obtain ⟨x2, e2, hwf2⟩ := int_cell Try.underlying3 t2
    have hb2 := bounds_i64 hwf2
    obtain ⟨l1, css1, a1, b1, c1⟩ := open_putsH t1 w1
    obtain ⟨l3, css3, a3, b3, c3⟩ := open_looksH t3 w3
    obtain ⟨A1, n1, e1⟩ := rows_value c1
    obtain ⟨A3, n3, e3⟩ := rows_value c3
    refine ⟨⟨⟨x0, l1, x2, l3⟩, A1, n1, css1, A3, n3, css3⟩, ⟨a1, a3, b1, b3, by show _ ≤ x2; omega, by show x2 ≤ _; omega⟩, fun w' hF => ⟨by show [us 0, us 1, us 2, us 3] = _; rw [e0, e1, e2, e3], ?_, ?_⟩⟩
    · rw [← e1]; exact c1 w' hF
    · rw [← e3]; exact c3 w' hF)
  rw [sec_bytesH] at h2
  exact ⟨xs, css, h1, by unfold reachBytes at h2; omega, h3⟩
end Go.Proofs.Ytbgknfdaaffeaaa
