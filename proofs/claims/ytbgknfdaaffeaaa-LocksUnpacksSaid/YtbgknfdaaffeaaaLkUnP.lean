/- LocksUnpacksSaid: no condition. -/
import Derived.Test.YtbgknfdaaffeaaaLkUn
import Derived.Test.YtbgknfdaaffeaaaLift
import Derived.Test.YtbgknfdaaffeaaaOpenC
namespace Go.Proofs.Ytbgknfdaaffeaaa
open Go.ChangeShapes Go.WideShapes Go.ChangeAt Go.RowKit Go.Deep

set_option maxRecDepth 100000 in
theorem locksUnpacks_lifted (os : Os) (started : os.Started) (H : Type) (enc : TypeId × Value → H) :
    ReturnsInHanded {} Try.checked os 12 .any (Rows.locksUnpacksSpec.pre6 enc Try.prog Try.f12 Rows.locksUnpacksRow.domain false) (Rows.locksUnpacksSpec.post enc Try.prog Try.f12 false true false false) := by
  refine law_lift started (by kernel_rfl) Try.func12 (by kernel_rfl) rfl Try.underlying4 rfl ?_
    (ChangeSpec.witness6 (enc := enc) (C := Try.checked) false ⟨#[], #[.slice none 0 0], []⟩ 8 (by kernel_rfl) (by kernel_rfl) (by kernel_rfl) (by kernel_rfl)) ?_
  · intro ds h
    match ds, h with
    | [_], _ => rfl
  intro W base args ds ps hval hA hlt _
  rw [Try.params12] at hval
  have hA : DataW.TrodAll enc Try.prog W 0 (fun _ => true) true Try.f12.params.toList args.toList ds ps := hA
  rw [Try.params12] at hA
  obtain ⟨v0, vs0, d0, ds0, p0, q0, hargs, rfl, rfl, h0, r0⟩ := trodAll_cons hA
  obtain ⟨rfl, rfl, rfl⟩ := trodAll_nil r0
  obtain rfl : args = #[v0] := by cases args; simp_all
  obtain ⟨bs, hb, hbI⟩ := ints_of Try.underlying48 Try.underlying5 (by kernel_rfl) (hval 0 48 v0 rfl rfl) h0
  refine (unpacksL_st v0 bs W (bytes_of_wf hb) ((St.init W).persW hbI)).mono ?_
  rintro e W2 ⟨he, L2, h⟩
  exact ⟨he, h.done⟩

theorem locksUnpacks_over : Rows.locksUnpacksRow.holds Try.pinned (OpenSpec.ofChange Rows.locksUnpacksSpec) :=
  OpenClaim.holds_of_wide 12 Try.f12 rfl rfl rfl rfl rfl rfl rfl ⟨rfl, rfl, rfl, rfl, rfl⟩ rfl rfl rfl rfl rfl (by kernel_rfl) Try.func12 (by kernel_rfl)
    (of_decide_eq_true (by kernel_rfl)) (by unfold Func.isWrapper; first | (rw [if_pos (by decide +kernel)]; kernel_rfl) | (rw [if_neg (by decide +kernel)]; exact ⟨rfl, rfl⟩))
    (fun os started H enc _ => locksUnpacks_lifted os started H enc)

theorem LocksUnpacks_holds : Rows.LocksUnpacksSaid := locksUnpacks_over
#print axioms LocksUnpacks_holds
end Go.Proofs.Ytbgknfdaaffeaaa
