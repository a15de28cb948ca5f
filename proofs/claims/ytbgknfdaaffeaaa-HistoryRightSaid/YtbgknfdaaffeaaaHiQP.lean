/- HistoryRightSaid: no condition. -/
import Derived.Test.YtbgknfdaaffeaaaHiQ
import Derived.Test.YtbgknfdaaffeaaaHiO
import Derived.Test.YtbgknfdaaffeaaaLift
namespace Go.Proofs.Ytbgknfdaaffeaaa
open Go.ChangeShapes Go.WideShapes Go.ChangeAt Go.RowKit Go.Deep

set_option maxRecDepth 100000 in
theorem historyRight_lifted (os : Os) (started : os.Started) (H : Type) (enc : TypeId × Value → H) :
    ReturnsInHanded {} Try.checked os 4 .any (Rows.historyRightSpec.pre6 enc Try.prog Try.f4 Rows.historyRightRow.domain false) (Rows.historyRightSpec.post enc Try.prog Try.f4 false true false false) := by
  refine law_lift started (by kernel_rfl) Try.func4 (by kernel_rfl) rfl Try.underlying4 rfl ?_
    (ChangeSpec.witness6 (enc := enc) (C := Try.checked) false ⟨#[], #[.slice none 0 0], []⟩ 8 (by kernel_rfl) (by kernel_rfl) (by kernel_rfl) (by kernel_rfl)) ?_
  · intro ds h
    match ds, h with
    | [_], _ => rfl
  intro W base args ds ps hval hA hlt hsz
  rw [Try.params4] at hval
  have hA : DataW.TrodAll enc Try.prog W 0 (fun _ => true) true Try.f4.params.toList args.toList ds ps := hA
  rw [Try.params4] at hA
  obtain ⟨v0, vs0, d0, ds0, p0, q0, hargs, rfl, rfl, h0, r0⟩ := trodAll_cons hA
  obtain ⟨rfl, rfl, rfl⟩ := trodAll_nil r0
  obtain rfl : args = #[v0] := by cases args; simp_all
  rw [Try.params4] at hsz
  simp only [DataW.weightsEach, List.all_append, Bool.and_eq_true] at hsz
  obtain ⟨l, css, hb, _, hr⟩ := open_secs (hval 0 22 v0 rfl rfl) h0 hsz.1
  refine (rightL_st v0 l W (fun x hx => ⟨fun y hy => byt_of ((hb x hx).p y hy), fun y hy => byt_of ((hb x hx).k y hy)⟩) (fun x hx => ⟨(hb x hx).pl, (hb x hx).kl⟩) ((St.init W).rowsW hr)).mono ?_
  rintro e W' ⟨he, h⟩
  exact ⟨he, h.done⟩

theorem historyRight_over : Rows.historyRightRow.holds Try.pinned (OpenSpec.ofChange Rows.historyRightSpec) :=
  OpenClaim.holds_of_wide 4 Try.f4 rfl rfl rfl rfl rfl rfl rfl ⟨rfl, rfl, rfl, rfl, rfl⟩ rfl rfl rfl rfl rfl (by kernel_rfl) Try.func4 (by kernel_rfl)
    (of_decide_eq_true (by kernel_rfl)) (by unfold Func.isWrapper; first | (rw [if_pos (by decide +kernel)]; kernel_rfl) | (rw [if_neg (by decide +kernel)]; exact ⟨rfl, rfl⟩))
    (fun os started H enc _ => historyRight_lifted os started H enc)

theorem HistoryRight_holds : Rows.HistoryRightSaid := historyRight_over
#print axioms HistoryRight_holds
end Go.Proofs.Ytbgknfdaaffeaaa
