/- RedoPlansSaid: no condition. -/
import Derived.Test.YtbnjeekhoaapiaaRedoPl
import Derived.Test.YtbnjeekhoaapiaaRedoO
import Derived.Test.YtbnjeekhoaapiaaOpenR
import Derived.Test.YtbnjeekhoaapiaaLift
namespace Go.Proofs.Ytbnjeekhoaapiaa
open Go.ChangeShapes Go.WideShapes Go.ChangeAt Go.RowKit Go.Deep

set_option maxRecDepth 100000 in
theorem redoPlans_lifted (os : Os) (started : os.Started) (H : Type) (enc : TypeId × Value → H) :
    ReturnsInHanded {} Try.checked os 5 .any (Rows.redoPlansSpec.pre6 enc Try.prog Try.f5 Rows.redoPlansRow.domain false) (Rows.redoPlansSpec.post enc Try.prog Try.f5 false true false false) := by
  refine law_lift started (by kernel_rfl) Try.func5 (by kernel_rfl) rfl Try.underlying4 rfl ?_
    (ChangeSpec.witness6 (enc := enc) (C := Try.checked) false ⟨#[], #[.int .i64 0, .int .u64 0, .int .u32 0, .slice none 0 0, .slice none 0 0], []⟩ 8 (by kernel_rfl) (by kernel_rfl) (by kernel_rfl) (by kernel_rfl)) ?_
  · intro ds h
    match ds, h with
    | [_, _, _, _, _], _ => rfl
  intro W base args ds ps hval hA hlt hsz
  rw [Try.params5] at hval
  have hA : DataW.TrodAll enc Try.prog W 0 (fun _ => true) true Try.f5.params.toList args.toList ds ps := hA
  rw [Try.params5] at hA
  obtain ⟨v0, vs0, d0, ds0, p0, q0, hargs, rfl, rfl, h0, r0⟩ := trodAll_cons hA
  obtain ⟨v1, vs1, d1, ds1, p1, q1, rfl, rfl, rfl, h1, r1⟩ := trodAll_cons r0
  obtain ⟨v2, vs2, d2, ds2, p2, q2, rfl, rfl, rfl, h2, r2⟩ := trodAll_cons r1
  obtain ⟨v3, vs3, d3, ds3, p3, q3, rfl, rfl, rfl, h3, r3⟩ := trodAll_cons r2
  obtain ⟨v4, vs4, d4, ds4, p4, q4, rfl, rfl, rfl, h4, r4⟩ := trodAll_cons r3
  obtain ⟨rfl, rfl, rfl⟩ := trodAll_nil r4
  obtain rfl : args = #[v0, v1, v2, v3, v4] := by cases args; simp_all
  obtain ⟨a0, rfl, rfl, rfl, _⟩ := open_int Try.underlying3 (hval 0 3 v0 rfl rfl) h0
  obtain ⟨a1, rfl, rfl, rfl, _⟩ := open_int Try.underlying33 (hval 1 33 v1 rfl rfl) h1
  obtain ⟨a2, rfl, rfl, rfl, hwf⟩ := open_int Try.underlying39 (hval 2 39 v2 rfl rfl) h2
  have hb4 := bounds_u32 hwf
  obtain ⟨l, css, _, hr⟩ := open_puts (hval 3 40 v3 rfl rfl) h3
  rw [Try.params5] at hsz
  simp only [DataW.weightsEach, List.all_append, Bool.and_eq_true] at hsz
  obtain ⟨rs, css2, hbs, hl⟩ := open_log (hval 4 41 v4 rfl rfl) h4 hsz.2.2.2.2.1
  refine (plans_st a0 a1 a2 l rs v3 v4 W (by omega) hbs (((St.init W).rowsW hl).rowsW hr)).mono ?_
  rintro e W' ⟨he, L', h⟩
  exact ⟨he, h.done⟩

theorem redoPlans_over : Rows.redoPlansRow.holds Try.pinned (OpenSpec.ofChange Rows.redoPlansSpec) :=
  OpenClaim.holds_of_wide 5 Try.f5 rfl rfl rfl rfl rfl rfl rfl ⟨rfl, rfl, rfl, rfl, rfl⟩ rfl rfl rfl rfl rfl (by kernel_rfl) Try.func5 (by kernel_rfl)
    (of_decide_eq_true (by kernel_rfl)) (by unfold Func.isWrapper; first | (rw [if_pos (by decide +kernel)]; kernel_rfl) | (rw [if_neg (by decide +kernel)]; exact ⟨rfl, rfl⟩))
    (fun os started H enc _ => redoPlans_lifted os started H enc)

theorem RedoPlans_holds : Rows.RedoPlansSaid := redoPlans_over
#print axioms RedoPlans_holds
end Go.Proofs.Ytbnjeekhoaapiaa
