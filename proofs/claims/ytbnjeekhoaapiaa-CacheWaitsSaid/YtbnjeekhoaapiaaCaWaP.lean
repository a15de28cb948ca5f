/- CacheWaitsSaid: no condition. -/
import Derived.Test.YtbnjeekhoaapiaaCaWa
import Derived.Test.YtbnjeekhoaapiaaCaO
import Derived.Test.YtbnjeekhoaapiaaLift
namespace Go.Proofs.Ytbnjeekhoaapiaa
open Go.ChangeShapes Go.WideShapes Go.ChangeAt Go.RowKit Go.Deep

set_option maxRecDepth 100000 in
theorem cacheWaits_lifted (os : Os) (started : os.Started) (H : Type) (enc : TypeId × Value → H) :
    ReturnsInHanded {} Try.checked os 10 .any (Rows.cacheWaitsSpec.pre6 enc Try.prog Try.f10 Rows.cacheWaitsRow.domain false) (Rows.cacheWaitsSpec.post enc Try.prog Try.f10 false true false false) := by
  refine law_lift started (by kernel_rfl) Try.func10 (by kernel_rfl) rfl Try.underlying4 rfl ?_
    (ChangeSpec.witness6 (enc := enc) (C := Try.checked) false ⟨#[], #[.slice none 0 0, .int .i64 0], []⟩ 8 (by kernel_rfl) (by kernel_rfl) (by kernel_rfl) (by kernel_rfl)) ?_
  · intro ds h
    match ds, h with
    | [_, _], _ => rfl
  intro W base args ds ps hval hA hlt hsz
  rw [Try.params10] at hval
  have hA : DataW.TrodAll enc Try.prog W 0 (fun _ => true) true Try.f10.params.toList args.toList ds ps := hA
  rw [Try.params10] at hA
  obtain ⟨v0, vs0, d0, ds0, p0, q0, hargs, rfl, rfl, h0, r0⟩ := trodAll_cons hA
  obtain ⟨v1, vs1, d1, ds1, p1, q1, rfl, rfl, rfl, h1, r1⟩ := trodAll_cons r0
  obtain ⟨rfl, rfl, rfl⟩ := trodAll_nil r1
  obtain rfl : args = #[v0, v1] := by cases args; simp_all
  rw [Try.params10] at hsz
  simp only [DataW.weightsEach, List.all_append, Bool.and_eq_true] at hsz
  obtain ⟨l, css, hb, hr⟩ := open_ops (hval 0 94 v0 rfl rfl) h0 hsz.1
  obtain ⟨a1, rfl, rfl, rfl, _⟩ := open_int Try.underlying3 (hval 1 3 v1 rfl rfl) h1
  refine (waits_st v0 l a1 W hb ((St.init W).rowsW hr)).mono ?_
  rintro e W' ⟨he, h⟩
  exact ⟨he, h.done⟩

theorem cacheWaits_over : Rows.cacheWaitsRow.holds Try.pinned (OpenSpec.ofChange Rows.cacheWaitsSpec) :=
  OpenClaim.holds_of_wide 10 Try.f10 rfl rfl rfl rfl rfl rfl rfl ⟨rfl, rfl, rfl, rfl, rfl⟩ rfl rfl rfl rfl rfl (by kernel_rfl) Try.func10 (by kernel_rfl)
    (of_decide_eq_true (by kernel_rfl)) (by unfold Func.isWrapper; first | (rw [if_pos (by decide +kernel)]; kernel_rfl) | (rw [if_neg (by decide +kernel)]; exact ⟨rfl, rfl⟩))
    (fun os started H enc _ => cacheWaits_lifted os started H enc)

theorem CacheWaits_holds : Rows.CacheWaitsSaid := cacheWaits_over
#print axioms CacheWaits_holds
end Go.Proofs.Ytbnjeekhoaapiaa
