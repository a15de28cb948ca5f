/- RedoRecordsSaid: no condition. -/
import Derived.Test.YtbnjeekhoaapiaaRedoRc
import Derived.Test.YtbnjeekhoaapiaaRedoO
import Derived.Test.YtbnjeekhoaapiaaLift
namespace Go.Proofs.Ytbnjeekhoaapiaa
open Go.ChangeShapes Go.WideShapes Go.ChangeAt Go.RowKit Go.Deep

set_option maxRecDepth 100000 in
theorem redoRecords_lifted (os : Os) (started : os.Started) (H : Type) (enc : TypeId × Value → H) :
    ReturnsInHanded {} Try.checked os 6 .any (Rows.redoRecordsSpec.pre6 enc Try.prog Try.f6 Rows.redoRecordsRow.domain false) (Rows.redoRecordsSpec.post enc Try.prog Try.f6 false true false false) := by
  refine law_lift started (by kernel_rfl) Try.func6 (by kernel_rfl) rfl Try.underlying4 rfl ?_
    (ChangeSpec.witness6 (enc := enc) (C := Try.checked) false ⟨#[], #[.agg #[.int .i64 0, .int .i64 0, .slice none 0 0], .int .i64 0, .slice none 0 0], []⟩ 8 (by kernel_rfl) (by kernel_rfl) (by kernel_rfl) (by kernel_rfl)) ?_
  · intro ds h
    match ds, h with
    | [_, _, _], _ => rfl
  intro W base args ds ps hval hA hlt _
  rw [Try.params6] at hval
  have hA : DataW.TrodAll enc Try.prog W 0 (fun _ => true) true Try.f6.params.toList args.toList ds ps := hA
  rw [Try.params6] at hA
  obtain ⟨v0, vs0, d0, ds0, p0, q0, hargs, rfl, rfl, h0, r0⟩ := trodAll_cons hA
  obtain ⟨v1, vs1, d1, ds1, p1, q1, rfl, rfl, rfl, h1, r1⟩ := trodAll_cons r0
  obtain ⟨v2, vs2, d2, ds2, p2, q2, rfl, rfl, rfl, h2, r2⟩ := trodAll_cons r1
  obtain ⟨rfl, rfl, rfl⟩ := trodAll_nil r2
  obtain rfl : args = #[v0, v1, v2] := by cases args; simp_all
  obtain ⟨x, A0, n, c, rfl, hx, hI⟩ := open_put (hval 0 69 v0 rfl rfl) h0
  obtain ⟨a1, rfl, rfl, rfl, _⟩ := open_int Try.underlying3 (hval 1 3 v1 rfl rfl) h1
  obtain ⟨bs, hwf, hb⟩ := ints_of Try.underlying60 Try.underlying5 u8_cells1 (hval 2 60 v2 rfl rfl) h2
  obtain ⟨B, m, d, rfl⟩ : ∃ B m d, v2 = .slice B m d := by obtain ⟨B, d, e, _⟩ := hb W (Fr.refl _ _); exact ⟨B, _, d, e⟩
  refine (recs_st x a1 bs A0 B n c m d W hx (bytes_of_wf hwf) (((St.init W).persW hb).persW hI)).mono ?_
  rintro e W' ⟨he, L', h⟩
  exact ⟨he, h.done⟩

theorem redoRecords_over : Rows.redoRecordsRow.holds Try.pinned (OpenSpec.ofChange Rows.redoRecordsSpec) :=
  OpenClaim.holds_of_wide 6 Try.f6 rfl rfl rfl rfl rfl rfl rfl ⟨rfl, rfl, rfl, rfl, rfl⟩ rfl rfl rfl rfl rfl (by kernel_rfl) Try.func6 (by kernel_rfl)
    (of_decide_eq_true (by kernel_rfl)) (by unfold Func.isWrapper; first | (rw [if_pos (by decide +kernel)]; kernel_rfl) | (rw [if_neg (by decide +kernel)]; exact ⟨rfl, rfl⟩))
    (fun os started H enc _ => redoRecords_lifted os started H enc)

theorem RedoRecords_holds : Rows.RedoRecordsSaid := redoRecords_over
#print axioms RedoRecords_holds
end Go.Proofs.Ytbnjeekhoaapiaa
