/- HistoryExplainsSaid: no condition. -/
import Derived.Test.YtbgknfdaaffeaaaHiS
import Derived.Test.YtbgknfdaaffeaaaHiO
import Derived.Test.YtbgknfdaaffeaaaLift
namespace Go.Proofs.Ytbgknfdaaffeaaa
open Go.ChangeShapes Go.WideShapes Go.ChangeAt Go.RowKit Go.Deep

set_option maxRecDepth 100000 in
theorem historyExplains_lifted (os : Os) (started : os.Started) (H : Type) (enc : TypeId × Value → H) :
    ReturnsInHanded {} Try.checked os 3 .any (Rows.historyExplainsSpec.pre6 enc Try.prog Try.f3 Rows.historyExplainsRow.domain false) (Rows.historyExplainsSpec.post enc Try.prog Try.f3 false true false false) := by
  refine law_lift started (by kernel_rfl) Try.func3 (by kernel_rfl) rfl Try.underlying4 rfl ?_
    (ChangeSpec.witness6 (enc := enc) (C := Try.checked) false ⟨#[], #[.slice none 0 0], []⟩ 8 (by kernel_rfl) (by kernel_rfl) (by kernel_rfl) (by kernel_rfl)) ?_
  · intro ds h
    match ds, h with
    | [_], _ => rfl
  intro W base args ds ps hval hA hlt hsz
  rw [Try.params3] at hval
  have hA : DataW.TrodAll enc Try.prog W 0 (fun _ => true) true Try.f3.params.toList args.toList ds ps := hA
  rw [Try.params3] at hA
  obtain ⟨v0, vs0, d0, ds0, p0, q0, hargs, rfl, rfl, h0, r0⟩ := trodAll_cons hA
  obtain ⟨rfl, rfl, rfl⟩ := trodAll_nil r0
  obtain rfl : args = #[v0] := by cases args; simp_all
  rw [Try.params3] at hsz
  simp only [DataW.weightsEach, List.all_append, Bool.and_eq_true] at hsz
  obtain ⟨l, css, hb, _, hr⟩ := open_secs (hval 0 22 v0 rfl rfl) h0 hsz.1
  refine (explains_st v0 l W (fun x hx => ⟨fun y hy => byt_of ((hb x hx).p y hy), fun y hy => byt_of ((hb x hx).k y hy)⟩) ((St.init W).rowsW hr)).mono ?_
  rintro e W' ⟨he, h⟩
  exact ⟨he, h.done⟩

theorem historyExplains_over : Rows.historyExplainsRow.holds Try.pinned (OpenSpec.ofChange Rows.historyExplainsSpec) :=
  OpenClaim.holds_of_wide 3 Try.f3 rfl rfl rfl rfl rfl rfl rfl ⟨rfl, rfl, rfl, rfl, rfl⟩ rfl rfl rfl rfl rfl (by kernel_rfl) Try.func3 (by kernel_rfl)
    (of_decide_eq_true (by kernel_rfl)) (by unfold Func.isWrapper; first | (rw [if_pos (by decide +kernel)]; kernel_rfl) | (rw [if_neg (by decide +kernel)]; exact ⟨rfl, rfl⟩))
    (fun os started H enc _ => historyExplains_lifted os started H enc)

theorem HistoryExplains_holds : Rows.HistoryExplainsSaid := historyExplains_over
#print axioms HistoryExplains_holds
end Go.Proofs.Ytbgknfdaaffeaaa
