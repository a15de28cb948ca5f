/- PackAgainSaid: no condition. -/
import Derived.Test.YtdhkklcjhbnnlaaPackAg
import Derived.Test.YtdhkklcjhbnnlaaPackEn
namespace Go.Proofs.Ytdhkklcjhbnnlaa
open Go.ChangeShapes Go.WideShapes Go.ChangeAt Go.RowKit Go.Deep

set_option maxRecDepth 100000 in
theorem packAgain_lifted (os : Os) (started : os.Started) (H : Type) (enc : TypeId × Value → H) :
    ReturnsInHanded {} Try.checked os 7 .any (Rows.packAgainSpec.pre6 enc Try.prog Try.f7 Rows.packAgainRow.domain false) (Rows.packAgainSpec.post enc Try.prog Try.f7 false true false false) := by
  refine law_lift started (by kernel_rfl) Try.func7 (by kernel_rfl) rfl Try.underlying4 rfl ?_
    (ChangeSpec.witness6 (enc := enc) (C := Try.checked) false ⟨#[], #[.slice none 0 0, .slice none 0 0, .int .i64 0], []⟩ 8 (by kernel_rfl) (by kernel_rfl) (by kernel_rfl) (by kernel_rfl)) ?_
  · intro ds h
    match ds, h with
    | [_, _, _], _ => rfl
  intro W base args ds ps hval hA hlt _
  rw [Try.params7] at hval
  have hA : DataW.TrodAll enc Try.prog W 0 (fun _ => true) true Try.f7.params.toList args.toList ds ps := hA
  rw [Try.params7] at hA
  obtain ⟨v0, vs0, d0, ds0, p0, q0, hargs, rfl, rfl, h0, r0⟩ := trodAll_cons hA
  obtain ⟨v1, vs1, d1, ds1, p1, q1, rfl, rfl, rfl, h1, r1⟩ := trodAll_cons r0
  obtain ⟨v2, vs2, d2, ds2, p2, q2, rfl, rfl, rfl, h2, r2⟩ := trodAll_cons r1
  obtain ⟨rfl, rfl, rfl⟩ := trodAll_nil r2
  obtain rfl : args = #[v0, v1, v2] := by cases args; simp_all
  obtain ⟨ks, _, hk⟩ := ints_of Try.underlying30 Try.underlying3 int_cells (hval 0 30 v0 rfl rfl) h0
  obtain ⟨bs, hb, hbI⟩ := ints_of Try.underlying24 Try.underlying5 byte_cells (hval 1 24 v1 rfl rfl) h1
  obtain ⟨x, rfl, _⟩ := open_int Try.underlying3 (hval 2 3 v2 rfl rfl) h2
  refine (again_st v0 v1 ks bs x W (bytes_of_wf hb) (((St.init W).persW hbI).persW hk)).mono ?_
  rintro e W' ⟨he, h⟩
  exact ⟨he, h.done⟩

theorem packAgain_over : Rows.packAgainRow.holds Try.pinned (OpenSpec.ofChange Rows.packAgainSpec) :=
  OpenClaim.holds_of_wide 7 Try.f7 rfl rfl rfl rfl rfl rfl rfl ⟨rfl, rfl, rfl, rfl, rfl⟩ rfl rfl rfl rfl rfl (by kernel_rfl) Try.func7 (by kernel_rfl)
    (of_decide_eq_true (by kernel_rfl)) (by unfold Func.isWrapper; first | (rw [if_pos (by decide +kernel)]; kernel_rfl) | (rw [if_neg (by decide +kernel)]; exact ⟨rfl, rfl⟩))
    (fun os started H enc _ => packAgain_lifted os started H enc)

theorem PackAgain_holds : Rows.PackAgainSaid := packAgain_over
#print axioms PackAgain_holds
end Go.Proofs.Ytdhkklcjhbnnlaa
