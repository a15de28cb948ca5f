/- RedoWholeSaid: no condition. -/
import Derived.Test.YtbnjeekhoaapiaaRedoWh
import Derived.Test.YtbnjeekhoaapiaaRedoO
import Derived.Test.YtbnjeekhoaapiaaLift
namespace Go.Proofs.Ytbnjeekhoaapiaa
open Go.ChangeShapes Go.WideShapes Go.ChangeAt Go.RowKit Go.Deep

set_option maxRecDepth 100000 in
theorem redoWhole_lifted (os : Os) (started : os.Started) (H : Type) (enc : TypeId × Value → H) :
    ReturnsInHanded {} Try.checked os 8 .any (Rows.redoWholeSpec.pre6 enc Try.prog Try.f8 Rows.redoWholeRow.domain false) (Rows.redoWholeSpec.post enc Try.prog Try.f8 false true false false) := by
  refine law_lift started (by kernel_rfl) Try.func8 (by kernel_rfl) rfl Try.underlying4 rfl ?_
    (ChangeSpec.witness6 (enc := enc) (C := Try.checked) false ⟨#[], #[.slice none 0 0], []⟩ 8 (by kernel_rfl) (by kernel_rfl) (by kernel_rfl) (by kernel_rfl)) ?_
  · intro ds h
    match ds, h with
    | [_], _ => rfl
  intro W base args ds ps hval hA hlt _
  rw [Try.params8] at hval
  have hA : DataW.TrodAll enc Try.prog W 0 (fun _ => true) true Try.f8.params.toList args.toList ds ps := hA
  rw [Try.params8] at hA
  obtain ⟨v0, vs0, d0, ds0, p0, q0, hargs, rfl, rfl, h0, r0⟩ := trodAll_cons hA
  obtain ⟨rfl, rfl, rfl⟩ := trodAll_nil r0
  obtain rfl : args = #[v0] := by cases args; simp_all
  obtain ⟨l, css, _, hr⟩ := open_puts (hval 0 40 v0 rfl rfl) h0
  refine (whole_st l v0 W ((St.init W).rowsW hr)).mono ?_
  rintro e W' ⟨he, L', h⟩
  exact ⟨he, h.done⟩

theorem redoWhole_over : Rows.redoWholeRow.holds Try.pinned (OpenSpec.ofChange Rows.redoWholeSpec) :=
  OpenClaim.holds_of_wide 8 Try.f8 rfl rfl rfl rfl rfl rfl rfl ⟨rfl, rfl, rfl, rfl, rfl⟩ rfl rfl rfl rfl rfl (by kernel_rfl) Try.func8 (by kernel_rfl)
    (of_decide_eq_true (by kernel_rfl)) (by unfold Func.isWrapper; first | (rw [if_pos (by decide +kernel)]; kernel_rfl) | (rw [if_neg (by decide +kernel)]; exact ⟨rfl, rfl⟩))
    (fun os started H enc _ => redoWhole_lifted os started H enc)

theorem RedoWhole_holds : Rows.RedoWholeSaid := redoWhole_over
#print axioms RedoWhole_holds
end Go.Proofs.Ytbnjeekhoaapiaa
