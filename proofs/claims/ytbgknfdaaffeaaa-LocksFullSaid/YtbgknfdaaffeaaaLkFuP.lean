/- LocksFullSaid: no condition. -/
import Derived.Test.YtbgknfdaaffeaaaLkFu2
import Derived.Test.YtbgknfdaaffeaaaLkO
import Derived.Test.YtbgknfdaaffeaaaLift
namespace Go.Proofs.Ytbgknfdaaffeaaa
open Go.ChangeShapes Go.WideShapes Go.ChangeAt Go.RowKit Go.Deep

set_option maxRecDepth 100000 in
theorem locksFull_lifted (os : Os) (started : os.Started) (H : Type) (enc : TypeId × Value → H) :
    ReturnsInHanded {} Try.checked os 9 .any (Rows.locksFullSpec.pre6 enc Try.prog Try.f9 Rows.locksFullRow.domain false) (Rows.locksFullSpec.post enc Try.prog Try.f9 false true false false) := by
  refine law_lift started (by kernel_rfl) Try.func9 (by kernel_rfl) rfl Try.underlying4 rfl ?_
    (ChangeSpec.witness6 (enc := enc) (C := Try.checked) false ⟨#[], #[.int .i64 0, .slice none 0 0], []⟩ 8 (by kernel_rfl) (by kernel_rfl) (by kernel_rfl) (by kernel_rfl)) ?_
  · intro ds h
    match ds, h with
    | [_, _], _ => rfl
  intro W base args ds ps hval hA hlt _
  rw [Try.params9] at hval
  have hA : DataW.TrodAll enc Try.prog W 0 (fun _ => true) true Try.f9.params.toList args.toList ds ps := hA
  rw [Try.params9] at hA
  obtain ⟨v0, vs0, d0, ds0, p0, q0, hargs, rfl, rfl, h0, r0⟩ := trodAll_cons hA
  obtain ⟨v1, vs1, d1, ds1, p1, q1, rfl, rfl, rfl, h1, r1⟩ := trodAll_cons r0
  obtain ⟨rfl, rfl, rfl⟩ := trodAll_nil r1
  obtain rfl : args = #[v0, v1] := by cases args; simp_all
  obtain ⟨a0, rfl, rfl, rfl, _⟩ := open_int Try.underlying3 (hval 0 3 v0 rfl rfl) h0
  obtain ⟨l, css, _, hr⟩ := open_opl (hval 1 71 v1 rfl rfl) h1
  refine (full_st a0 v1 l W ((St.init W).rowsW hr)).mono ?_
  rintro e W2 ⟨he, L2, h⟩
  exact ⟨he, h.done⟩

theorem locksFull_over : Rows.locksFullRow.holds Try.pinned (OpenSpec.ofChange Rows.locksFullSpec) :=
  OpenClaim.holds_of_wide 9 Try.f9 rfl rfl rfl rfl rfl rfl rfl ⟨rfl, rfl, rfl, rfl, rfl⟩ rfl rfl rfl rfl rfl (by kernel_rfl) Try.func9 (by kernel_rfl)
    (of_decide_eq_true (by kernel_rfl)) (by unfold Func.isWrapper; first | (rw [if_pos (by decide +kernel)]; kernel_rfl) | (rw [if_neg (by decide +kernel)]; exact ⟨rfl, rfl⟩))
    (fun os started H enc _ => locksFull_lifted os started H enc)

theorem LocksFull_holds : Rows.LocksFullSaid := locksFull_over
#print axioms LocksFull_holds
end Go.Proofs.Ytbgknfdaaffeaaa
