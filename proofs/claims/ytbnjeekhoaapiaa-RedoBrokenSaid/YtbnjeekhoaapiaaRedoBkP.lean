/- RedoBrokenSaid: no condition. -/
import Derived.Test.YtbnjeekhoaapiaaRedoBk
import Derived.Test.YtbnjeekhoaapiaaRedoO
import Derived.Test.YtbnjeekhoaapiaaLift
namespace Go.Proofs.Ytbnjeekhoaapiaa
open Go.ChangeShapes Go.WideShapes Go.ChangeAt Go.RowKit Go.Deep

set_option maxRecDepth 100000 in
theorem redoBroken_lifted (os : Os) (started : os.Started) (H : Type) (enc : TypeId × Value → H) :
    ReturnsInHanded {} Try.checked os 7 .any (Rows.redoBrokenSpec.pre6 enc Try.prog Try.f7 Rows.redoBrokenRow.domain false) (Rows.redoBrokenSpec.post enc Try.prog Try.f7 false true false false) := by
  refine law_lift started (by kernel_rfl) Try.func7 (by kernel_rfl) rfl Try.underlying4 rfl ?_
    (ChangeSpec.witness6 (enc := enc) (C := Try.checked) false ⟨#[], #[.slice none 0 0, .slice none 0 0, .int .i64 0, .int .i64 0], []⟩ 8 (by kernel_rfl) (by kernel_rfl) (by kernel_rfl) (by kernel_rfl)) ?_
  · intro ds h
    match ds, h with
    | [_, _, _, _], _ => rfl
  intro W base args ds ps hval hA hlt _
  rw [Try.params7] at hval
  have hA : DataW.TrodAll enc Try.prog W 0 (fun _ => true) true Try.f7.params.toList args.toList ds ps := hA
  rw [Try.params7] at hA
  obtain ⟨v0, vs0, d0, ds0, p0, q0, hargs, rfl, rfl, h0, r0⟩ := trodAll_cons hA
  obtain ⟨v1, vs1, d1, ds1, p1, q1, rfl, rfl, rfl, h1, r1⟩ := trodAll_cons r0
  obtain ⟨v2, vs2, d2, ds2, p2, q2, rfl, rfl, rfl, h2, r2⟩ := trodAll_cons r1
  obtain ⟨v3, vs3, d3, ds3, p3, q3, rfl, rfl, rfl, h3, r3⟩ := trodAll_cons r2
  obtain ⟨rfl, rfl, rfl⟩ := trodAll_nil r3
  obtain rfl : args = #[v0, v1, v2, v3] := by cases args; simp_all
  obtain ⟨l0, css0, _, hr0⟩ := open_puts (hval 0 40 v0 rfl rfl) h0
  obtain ⟨l1, css1, hb1, hr1⟩ := open_puts (hval 1 40 v1 rfl rfl) h1
  obtain ⟨a2, rfl, rfl, rfl, hwf2⟩ := open_int Try.underlying3 (hval 2 3 v2 rfl rfl) h2
  obtain ⟨a3, rfl, rfl, rfl, hwf3⟩ := open_int Try.underlying3 (hval 3 3 v3 rfl rfl) h3
  have hb2 := bounds_i64 hwf2
  have hb3 := bounds_i64 hwf3
  refine (broken_st l0 l1 v0 v1 a2 a3 W (by omega) (by omega) hb1 (((St.init W).rowsW hr1).rowsW hr0)).mono ?_
  rintro e W' ⟨he, L', h⟩
  exact ⟨he, h.done⟩

theorem redoBroken_over : Rows.redoBrokenRow.holds Try.pinned (OpenSpec.ofChange Rows.redoBrokenSpec) :=
  OpenClaim.holds_of_wide 7 Try.f7 rfl rfl rfl rfl rfl rfl rfl ⟨rfl, rfl, rfl, rfl, rfl⟩ rfl rfl rfl rfl rfl (by kernel_rfl) Try.func7 (by kernel_rfl)
    (of_decide_eq_true (by kernel_rfl)) (by unfold Func.isWrapper; first | (rw [if_pos (by decide +kernel)]; kernel_rfl) | (rw [if_neg (by decide +kernel)]; exact ⟨rfl, rfl⟩))
    (fun os started H enc _ => redoBroken_lifted os started H enc)

theorem RedoBroken_holds : Rows.RedoBrokenSaid := redoBroken_over
#print axioms RedoBroken_holds
end Go.Proofs.Ytbnjeekhoaapiaa
