/- DiskOldSaid: a sector is never anything but its old bytes and a beginning of new ones. No condition. -/
import Derived.Test.YthddgnnbgldfmaaDiskArgs
import Derived.Test.YthddgnnbgldfmaaDiskOld
namespace Go.Proofs.Ythddgnnbgldfmaa
open Go.ChangeShapes Go.WideShapes Go.ChangeAt Go.RowKit Go.Deep

set_option maxRecDepth 100000 in
theorem old_lifted (os : Os) (started : os.Started) (H : Type) (enc : TypeId × Value → H) :
    ReturnsInHanded {} Try.checked os 5 .any (Rows.diskOldSpec.pre6 enc Try.prog Try.f5 Rows.diskOldRow.domain false) (Rows.diskOldSpec.post enc Try.prog Try.f5 false true false false) := by
  refine law_lift started (by kernel_rfl) Try.func5 (by kernel_rfl) rfl Try.underlying4 rfl ?_
    (ChangeSpec.witness6 (enc := enc) (C := Try.checked) false ⟨#[], #[.slice none 0 0, .int .i64 0, .slice none 0 0, .slice none 0 0], []⟩ 8 (by kernel_rfl) (by kernel_rfl) (by kernel_rfl) (by kernel_rfl)) ?_
  · intro ds h
    match ds, h with
    | [_, _, _, _], _ => rfl
  intro W base args ds ps hval hA hlt _
  rw [Try.params5] at hval
  have hA : DataW.TrodAll enc Try.prog W 0 (fun _ => true) true Try.f5.params.toList args.toList ds ps := hA
  rw [Try.params5] at hA
  obtain ⟨v0, vs0, d0, ds0, p0, q0, hargs, rfl, rfl, h0, r0⟩ := trodAll_cons hA
  obtain ⟨v1, vs1, d1, ds1, p1, q1, rfl, rfl, rfl, h1, r1⟩ := trodAll_cons r0
  obtain ⟨v2, vs2, d2, ds2, p2, q2, rfl, rfl, rfl, h2, r2⟩ := trodAll_cons r1
  obtain ⟨v3, vs3, d3, ds3, p3, q3, rfl, rfl, rfl, h3, r3⟩ := trodAll_cons r2
  obtain ⟨rfl, rfl, rfl⟩ := trodAll_nil r3
  obtain rfl : args = #[v0, v1, v2, v3] := by cases args; simp_all
  obtain ⟨A, n, c, ops, rfl, hn, ho⟩ := open_ops4 (hval 0 49 v0 rfl rfl) h0
  obtain ⟨a1, rfl, rfl, rfl, w1⟩ := open_int Try.underlying3 (hval 1 3 v1 rfl rfl) h1
  obtain ⟨B, bc, b, rfl, l1, l2, _, s1⟩ := open_nums Try.underlying50 Try.underlying5 byte_cells (hval 2 50 v2 rfl rfl) h2
  obtain ⟨C, cc, p, rfl, l3, l4, _, s2⟩ := open_nums Try.underlying44 Try.underlying3 int_cells (hval 3 44 v3 rfl rfl) h3
  exact old_any A n c ops a1 B bc b C cc p W (by unfold maxLen at hn; omega) (by unfold maxLen at l2; omega) (by unfold maxLen at l4; omega) ho s1 s2

theorem old_over : Rows.diskOldRow.holds Try.pinned (OpenSpec.ofChange Rows.diskOldSpec) :=
  OpenClaim.holds_of_wide 5 Try.f5 rfl rfl rfl rfl rfl rfl rfl ⟨rfl, rfl, rfl, rfl, rfl⟩ rfl rfl rfl rfl rfl (by kernel_rfl) Try.func5 (by kernel_rfl)
    (of_decide_eq_true (by kernel_rfl)) (by unfold Func.isWrapper; first | (rw [if_pos (by decide +kernel)]; kernel_rfl) | (rw [if_neg (by decide +kernel)]; exact ⟨rfl, rfl⟩))
    (fun os started H enc _ => old_lifted os started H enc)

theorem DiskOld_holds : Rows.DiskOldSaid := old_over
#print axioms DiskOld_holds
end Go.Proofs.Ythddgnnbgldfmaa
