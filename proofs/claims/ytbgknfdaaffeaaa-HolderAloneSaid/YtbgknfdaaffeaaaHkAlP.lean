/- HolderAloneSaid: no condition. -/
import Derived.Test.YtbgknfdaaffeaaaHkAl
import Derived.Test.YtbgknfdaaffeaaaOpenS
import Derived.Test.YtbgknfdaaffeaaaLift
namespace Go.Proofs.Ytbgknfdaaffeaaa
open Go.ChangeShapes Go.WideShapes Go.ChangeAt Go.RowKit Go.Deep

theorem step_cells : Try.prog.cellsOf 101 = 5 := by kernel_rfl
set_option maxRecDepth 100000 in
theorem open_step {H : Type} {enc : TypeId × Value → H} {W : World} {r : Reach} {b0 : Nat} {v : Value} {d : DataW H} {ps : List MemPlace} (hv : Value.okWide Try.prog W r b0 92 v) (h : DataW.Trod enc Try.prog W 0 (fun _ => true) true 92 v d ps) :
    ∃ l css, (∀ x ∈ l, (fun _ : StepM => True) x) ∧ ∀ w', Fr Non W w' → RowsC w' 5 StepR v css l := by
  refine open_rowsC StepR (fun _ => True) ⟨0, 0, 0, 0, 0⟩ Try.underlying92 Try.underlying101 (by kernel_rfl) step_cells hv h (fun us hu => ?_)
  obtain ⟨y0, m0, t0⟩ := hu 0 _ rfl
  obtain ⟨y1, m1, t1⟩ := hu 1 _ rfl
  obtain ⟨y2, m2, t2⟩ := hu 2 _ rfl
  obtain ⟨y3, m3, t3⟩ := hu 3 _ rfl
  obtain ⟨y4, m4, t4⟩ := hu 4 _ rfl
  obtain ⟨x0, e0, _⟩ := int_cell Try.underlying3 t0
  obtain ⟨x1, e1, _⟩ := int_cell Try.underlying3 t1
  obtain ⟨x2, e2, _⟩ := int_cell Try.underlying3 t2
  obtain ⟨x3, e3, _⟩ := int_cell Try.underlying3 t3
  obtain ⟨x4, e4, _⟩ := int_cell Try.underlying3 t4
  exact ⟨⟨x0, x1, x2, x3, x4⟩, trivial, fun w' _ => by show [us 0, us 1, us 2, us 3, us 4] = _; rw [e0, e1, e2, e3, e4]⟩
set_option maxRecDepth 100000 in
theorem holderAlone_lifted (os : Os) (started : os.Started) (H : Type) (enc : TypeId × Value → H) :
    ReturnsInHanded {} Try.checked os 8 .any (Rows.holderAloneSpec.pre6 enc Try.prog Try.f8 Rows.holderAloneRow.domain false) (Rows.holderAloneSpec.post enc Try.prog Try.f8 false true false false) := by
  refine law_lift started (by kernel_rfl) Try.func8 (by kernel_rfl) rfl Try.underlying4 rfl ?_
    (ChangeSpec.witness6 (enc := enc) (C := Try.checked) false ⟨#[], #[.slice none 0 0], []⟩ 8 (by kernel_rfl) (by kernel_rfl) (by kernel_rfl) (by kernel_rfl)) ?_
  · intro ds h
    match ds, h with
    | [_], _ => rfl
  intro W base args ds ps hval hA hlt _
  rw [Try.params8] at hval
  have hA : DataW.TrodAll enc Try.prog W 0 (fun _ => true) true Try.f8.params.toList args.toList ds ps := hA
  rw [Try.params8] at hA
  obtain ⟨v0, vs0, d0, ds0, p0, q0, hargs, rfl, rfl, h0, r0⟩ := trodAll_cons hA
  obtain ⟨rfl, rfl, rfl⟩ := trodAll_nil r0
  obtain rfl : args = #[v0] := by cases args; simp_all
  obtain ⟨l, css, _, hr⟩ := open_step (hval 0 92 v0 rfl rfl) h0
  refine (holdAlone_st v0 l W ((St.init W).rowsW hr)).mono ?_
  rintro e W' ⟨he, h⟩
  exact ⟨he, h.done⟩

theorem holderAlone_over : Rows.holderAloneRow.holds Try.pinned (OpenSpec.ofChange Rows.holderAloneSpec) :=
  OpenClaim.holds_of_wide 8 Try.f8 rfl rfl rfl rfl rfl rfl rfl ⟨rfl, rfl, rfl, rfl, rfl⟩ rfl rfl rfl rfl rfl (by kernel_rfl) Try.func8 (by kernel_rfl)
    (of_decide_eq_true (by kernel_rfl)) (by unfold Func.isWrapper; first | (rw [if_pos (by decide +kernel)]; kernel_rfl) | (rw [if_neg (by decide +kernel)]; exact ⟨rfl, rfl⟩))
    (fun os started H enc _ => holderAlone_lifted os started H enc)

theorem HolderAlone_holds : Rows.HolderAloneSaid := holderAlone_over
#print axioms HolderAlone_holds
end Go.Proofs.Ytbgknfdaaffeaaa
