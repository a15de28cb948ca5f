/- DiskWholeSaid: a crash that keeps all writes whole changes nothing. No condition. -/
import Derived.Test.YthddgnnbgldfmaaDiskArgs
import Derived.Test.YthddgnnbgldfmaaDiskWhole
namespace Go.Proofs.Ythddgnnbgldfmaa
open Go.ChangeShapes Go.WideShapes Go.ChangeAt Go.RowKit Go.Deep

set_option maxRecDepth 100000 in
theorem wholel_lifted (os : Os) (started : os.Started) (H : Type) (enc : TypeId × Value → H) :
    ReturnsInHanded {} Try.checked os 7 .any (Rows.diskWholeSpec.pre6 enc Try.prog Try.f7 Rows.diskWholeRow.domain false) (Rows.diskWholeSpec.post enc Try.prog Try.f7 false true false false) := by
  refine law_lift started (by kernel_rfl) Try.func7 (by kernel_rfl) rfl Try.underlying4 rfl ?_
    (ChangeSpec.witness6 (enc := enc) (C := Try.checked) false ⟨#[], #[.slice none 0 0, .slice none 0 0], []⟩ 8 (by kernel_rfl) (by kernel_rfl) (by kernel_rfl) (by kernel_rfl)) ?_
  · intro ds h
    match ds, h with
    | [_, _], _ => rfl
  intro W base args ds ps hval hA hlt _
  rw [Try.params7] at hval
  have hA : DataW.TrodAll enc Try.prog W 0 (fun _ => true) true Try.f7.params.toList args.toList ds ps := hA
  rw [Try.params7] at hA
  obtain ⟨v0, vs0, d0, ds0, p0, q0, hargs, rfl, rfl, h0, r0⟩ := trodAll_cons hA
  obtain ⟨v1, vs1, d1, ds1, p1, q1, rfl, rfl, rfl, h1, r1⟩ := trodAll_cons r0
  obtain ⟨rfl, rfl, rfl⟩ := trodAll_nil r1
  obtain rfl : args = #[v0, v1] := by cases args; simp_all
  obtain ⟨A, n, c, ops, rfl, hn, ho⟩ := open_ops4 (hval 0 49 v0 rfl rfl) h0
  obtain ⟨B, m, bc, more, rfl, hm, ho2⟩ := open_ops4 (hval 1 49 v1 rfl rfl) h1
  exact whole_any A n c ops B m bc more W (by unfold maxLen at hn; omega) (by unfold maxLen at hm; omega) ho ho2

theorem wholel_over : Rows.diskWholeRow.holds Try.pinned (OpenSpec.ofChange Rows.diskWholeSpec) :=
  OpenClaim.holds_of_wide 7 Try.f7 rfl rfl rfl rfl rfl rfl rfl ⟨rfl, rfl, rfl, rfl, rfl⟩ rfl rfl rfl rfl rfl (by kernel_rfl) Try.func7 (by kernel_rfl)
    (of_decide_eq_true (by kernel_rfl)) (by unfold Func.isWrapper; first | (rw [if_pos (by decide +kernel)]; kernel_rfl) | (rw [if_neg (by decide +kernel)]; exact ⟨rfl, rfl⟩))
    (fun os started H enc _ => wholel_lifted os started H enc)

theorem DiskWhole_holds : Rows.DiskWholeSaid := wholel_over
#print axioms DiskWhole_holds
end Go.Proofs.Ythddgnnbgldfmaa
