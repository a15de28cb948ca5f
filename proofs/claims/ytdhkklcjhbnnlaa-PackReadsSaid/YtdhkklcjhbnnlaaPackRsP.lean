/- PackReadsSaid: no condition. -/
import Derived.Test.YtdhkklcjhbnnlaaPackRs
import Derived.Test.YtdhkklcjhbnnlaaPackEn
namespace Go.Proofs.Ytdhkklcjhbnnlaa
open Go.ChangeShapes Go.WideShapes Go.ChangeAt Go.RowKit Go.Deep

set_option maxRecDepth 100000 in
theorem packReads_lifted (os : Os) (started : os.Started) (H : Type) (enc : TypeId × Value → H) :
    ReturnsInHanded {} Try.checked os 8 .any (Rows.packReadsSpec.pre6 enc Try.prog Try.f8 Rows.packReadsRow.domain false) (Rows.packReadsSpec.post enc Try.prog Try.f8 false true false false) := by
  refine law_lift started (by kernel_rfl) Try.func8 (by kernel_rfl) rfl Try.underlying4 rfl ?_
    (ChangeSpec.witness6 (enc := enc) (C := Try.checked) false ⟨#[], #[.slice none 0 0, .slice none 0 0], []⟩ 8 (by kernel_rfl) (by kernel_rfl) (by kernel_rfl) (by kernel_rfl)) ?_
  · intro ds h
    match ds, h with
    | [_, _], _ => rfl
  intro W base args ds ps hval hA hlt _
  rw [Try.params8] at hval
  have hA : DataW.TrodAll enc Try.prog W 0 (fun _ => true) true Try.f8.params.toList args.toList ds ps := hA
  rw [Try.params8] at hA
  obtain ⟨v0, vs0, d0, ds0, p0, q0, hargs, rfl, rfl, h0, r0⟩ := trodAll_cons hA
  obtain ⟨v1, vs1, d1, ds1, p1, q1, rfl, rfl, rfl, h1, r1⟩ := trodAll_cons r0
  obtain ⟨rfl, rfl, rfl⟩ := trodAll_nil r1
  obtain rfl : args = #[v0, v1] := by cases args; simp_all
  obtain ⟨bs, hb, hbI⟩ := ints_of Try.underlying24 Try.underlying5 byte_cells (hval 0 24 v0 rfl rfl) h0
  obtain ⟨ks, _, hk⟩ := ints_of Try.underlying30 Try.underlying3 int_cells (hval 1 30 v1 rfl rfl) h1
  refine (reads_st v0 v1 bs ks W (bytes_of_wf hb) (((St.init W).persW hk).persW hbI)).mono ?_
  rintro e W' ⟨he, h⟩
  exact ⟨he, h.done⟩

theorem packReads_over : Rows.packReadsRow.holds Try.pinned (OpenSpec.ofChange Rows.packReadsSpec) :=
  OpenClaim.holds_of_wide 8 Try.f8 rfl rfl rfl rfl rfl rfl rfl ⟨rfl, rfl, rfl, rfl, rfl⟩ rfl rfl rfl rfl rfl (by kernel_rfl) Try.func8 (by kernel_rfl)
    (of_decide_eq_true (by kernel_rfl)) (by unfold Func.isWrapper; first | (rw [if_pos (by decide +kernel)]; kernel_rfl) | (rw [if_neg (by decide +kernel)]; exact ⟨rfl, rfl⟩))
    (fun os started H enc _ => packReads_lifted os started H enc)

theorem PackReads_holds : Rows.PackReadsSaid := packReads_over
#print axioms PackReads_holds
end Go.Proofs.Ytdhkklcjhbnnlaa
