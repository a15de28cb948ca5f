/- DiskSureSaid: what was synced survives. No condition. -/
import Derived.Test.YthddgnnbgldfmaaDiskArgs
import Derived.Test.YthddgnnbgldfmaaDiskSure
namespace Go.Proofs.Ythddgnnbgldfmaa
open Go.ChangeShapes Go.WideShapes Go.ChangeAt Go.RowKit Go.Deep

set_option maxRecDepth 100000 in
theorem sure_lifted (os : Os) (started : os.Started) (H : Type) (enc : TypeId × Value → H) :
    ReturnsInHanded {} Try.checked os 6 .any (Rows.diskSureSpec.pre6 enc Try.prog Try.f6 Rows.diskSureRow.domain false) (Rows.diskSureSpec.post enc Try.prog Try.f6 false true false false) := by
  refine law_lift started (by kernel_rfl) Try.func6 (by kernel_rfl) rfl Try.underlying4 rfl ?_
    (ChangeSpec.witness6 (enc := enc) (C := Try.checked) false ⟨#[], #[.slice none 0 0, .slice none 0 0, .slice none 0 0], []⟩ 8 (by kernel_rfl) (by kernel_rfl) (by kernel_rfl) (by kernel_rfl)) ?_
  · intro ds h
    match ds, h with
    | [_, _, _], _ => rfl
  intro W base args ds ps hval hA hlt _
  rw [Try.params6] at hval
  have hA : DataW.TrodAll enc Try.prog W 0 (fun _ => true) true Try.f6.params.toList args.toList ds ps := hA
  rw [Try.params6] at hA
  obtain ⟨v0, vs0, d0, ds0, p0, q0, hargs, rfl, rfl, h0, r0⟩ := trodAll_cons hA
  obtain ⟨v1, vs1, d1, ds1, p1, q1, rfl, rfl, rfl, h1, r1⟩ := trodAll_cons r0
  obtain ⟨v2, vs2, d2, ds2, p2, q2, rfl, rfl, rfl, h2, r2⟩ := trodAll_cons r1
  obtain ⟨rfl, rfl, rfl⟩ := trodAll_nil r2
  obtain rfl : args = #[v0, v1, v2] := by cases args; simp_all
  obtain ⟨A, n, c, ops, rfl, hn, ho⟩ := open_ops4 (hval 0 49 v0 rfl rfl) h0
  obtain ⟨B, bc, one, rfl, _, _, _, s1⟩ := open_nums Try.underlying44 Try.underlying3 int_cells (hval 1 44 v1 rfl rfl) h1
  obtain ⟨C, cc, two, rfl, _, _, _, s2⟩ := open_nums Try.underlying44 Try.underlying3 int_cells (hval 2 44 v2 rfl rfl) h2
  exact sure_any A n c ops B bc one C cc two W (by unfold maxLen at hn; omega) ho s1 s2

theorem sure_over : Rows.diskSureRow.holds Try.pinned (OpenSpec.ofChange Rows.diskSureSpec) :=
  OpenClaim.holds_of_wide 6 Try.f6 rfl rfl rfl rfl rfl rfl rfl ⟨rfl, rfl, rfl, rfl, rfl⟩ rfl rfl rfl rfl rfl (by kernel_rfl) Try.func6 (by kernel_rfl)
    (of_decide_eq_true (by kernel_rfl)) (by unfold Func.isWrapper; first | (rw [if_pos (by decide +kernel)]; kernel_rfl) | (rw [if_neg (by decide +kernel)]; exact ⟨rfl, rfl⟩))
    (fun os started H enc _ => sure_lifted os started H enc)

theorem DiskSure_holds : Rows.DiskSureSaid := sure_over
#print axioms DiskSure_holds
end Go.Proofs.Ythddgnnbgldfmaa
