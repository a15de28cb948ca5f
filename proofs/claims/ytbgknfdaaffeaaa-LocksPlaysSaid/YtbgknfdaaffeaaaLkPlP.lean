/- LocksPlaysSaid: no condition. -/
import Derived.Test.YtbgknfdaaffeaaaLkPl
import Derived.Test.YtbgknfdaaffeaaaLkO
import Derived.Test.YtbgknfdaaffeaaaLift
namespace Go.Proofs.Ytbgknfdaaffeaaa
open Go.ChangeShapes Go.WideShapes Go.ChangeAt Go.RowKit Go.Deep

set_option maxRecDepth 100000 in
theorem locksPlays_lifted (os : Os) (started : os.Started) (H : Type) (enc : TypeId × Value → H) :
    ReturnsInHanded {} Try.checked os 13 .any (Rows.locksPlaysSpec.pre6 enc Try.prog Try.f13 Rows.locksPlaysRow.domain false) (Rows.locksPlaysSpec.post enc Try.prog Try.f13 false true false false) := by
  refine law_lift started (by kernel_rfl) Try.func13 (by kernel_rfl) rfl Try.underlying4 rfl ?_
    (ChangeSpec.witness6 (enc := enc) (C := Try.checked) false ⟨#[], #[.slice none 0 0], []⟩ 8 (by kernel_rfl) (by kernel_rfl) (by kernel_rfl) (by kernel_rfl)) ?_
  · intro ds h
    match ds, h with
    | [_], _ => rfl
  intro W base args ds ps hval hA hlt _
  rw [Try.params13] at hval
  have hA : DataW.TrodAll enc Try.prog W 0 (fun _ => true) true Try.f13.params.toList args.toList ds ps := hA
  rw [Try.params13] at hA
  obtain ⟨v0, vs0, d0, ds0, p0, q0, hargs, rfl, rfl, h0, r0⟩ := trodAll_cons hA
  obtain ⟨rfl, rfl, rfl⟩ := trodAll_nil r0
  obtain rfl : args = #[v0] := by cases args; simp_all
  obtain ⟨l, css, hb, hr⟩ := open_opl (hval 0 71 v0 rfl rfl) h0
  refine (plays_st v0 l W hb ((St.init W).rowsW hr)).mono ?_
  rintro e W' ⟨he, _, h⟩
  exact ⟨he, h.done⟩

theorem locksPlays_over : Rows.locksPlaysRow.holds Try.pinned (OpenSpec.ofChange Rows.locksPlaysSpec) :=
  OpenClaim.holds_of_wide 13 Try.f13 rfl rfl rfl rfl rfl rfl rfl ⟨rfl, rfl, rfl, rfl, rfl⟩ rfl rfl rfl rfl rfl (by kernel_rfl) Try.func13 (by kernel_rfl)
    (of_decide_eq_true (by kernel_rfl)) (by unfold Func.isWrapper; first | (rw [if_pos (by decide +kernel)]; kernel_rfl) | (rw [if_neg (by decide +kernel)]; exact ⟨rfl, rfl⟩))
    (fun os started H enc _ => locksPlays_lifted os started H enc)

theorem LocksPlays_holds : Rows.LocksPlaysSaid := locksPlays_over
#print axioms LocksPlays_holds
end Go.Proofs.Ytbgknfdaaffeaaa
