/- PackEncodesSaid: no condition. -/
import Derived.Test.YtdhkklcjhbnnlaaPackEn
namespace Go.Proofs.Ytdhkklcjhbnnlaa
open Go.ChangeShapes Go.WideShapes Go.ChangeAt Go.RowKit Go.Deep

set_option maxRecDepth 100000 in
theorem packEncodes_lifted (os : Os) (started : os.Started) (H : Type) (enc : TypeId × Value → H) :
    ReturnsInHanded {} Try.checked os 3 .any (Rows.packEncodesSpec.pre6 enc Try.prog Try.f3 Rows.packEncodesRow.domain false) (Rows.packEncodesSpec.post enc Try.prog Try.f3 false true false false) := by
  refine law_lift started (by kernel_rfl) Try.func3 (by kernel_rfl) rfl Try.underlying4 rfl ?_
    (ChangeSpec.witness6 (enc := enc) (C := Try.checked) false ⟨#[], #[.slice none 0 0], []⟩ 8 (by kernel_rfl) (by kernel_rfl) (by kernel_rfl) (by kernel_rfl)) ?_
  · intro ds h
    match ds, h with
    | [_], _ => rfl
  intro W base args ds ps hval hA hlt _
  rw [Try.params3] at hval
  have hA : DataW.TrodAll enc Try.prog W 0 (fun _ => true) true Try.f3.params.toList args.toList ds ps := hA
  rw [Try.params3] at hA
  obtain ⟨v0, vs0, d0, ds0, p0, q0, hargs, rfl, rfl, h0, r0⟩ := trodAll_cons hA
  obtain ⟨rfl, rfl, rfl⟩ := trodAll_nil r0
  obtain rfl : args = #[v0] := by cases args; simp_all
  obtain ⟨fs, css, _, hr⟩ := open_flds (hval 0 22 v0 rfl rfl) h0
  refine (encodes_st v0 fs W ((St.init W).rowsW hr)).mono ?_
  rintro e W' ⟨he, h⟩
  exact ⟨he, h.done⟩

theorem packEncodes_over : Rows.packEncodesRow.holds Try.pinned (OpenSpec.ofChange Rows.packEncodesSpec) :=
  OpenClaim.holds_of_wide 3 Try.f3 rfl rfl rfl rfl rfl rfl rfl ⟨rfl, rfl, rfl, rfl, rfl⟩ rfl rfl rfl rfl rfl (by kernel_rfl) Try.func3 (by kernel_rfl)
    (of_decide_eq_true (by kernel_rfl)) (by unfold Func.isWrapper; first | (rw [if_pos (by decide +kernel)]; kernel_rfl) | (rw [if_neg (by decide +kernel)]; exact ⟨rfl, rfl⟩))
    (fun os started H enc _ => packEncodes_lifted os started H enc)

theorem PackEncodes_holds : Rows.PackEncodesSaid := packEncodes_over
#print axioms PackEncodes_holds
end Go.Proofs.Ytdhkklcjhbnnlaa
