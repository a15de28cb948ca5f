/- ImageFencedSaid: no condition. -/
import Derived.Test.YtdhkklcjhbnnlaaImgFe
import Derived.Test.YtdhkklcjhbnnlaaImgOpen
namespace Go.Proofs.Ytdhkklcjhbnnlaa
open Go.ChangeShapes Go.WideShapes Go.ChangeAt Go.RowKit Go.Deep

set_option maxRecDepth 100000 in
theorem imageFenced_lifted (os : Os) (started : os.Started) (H : Type) (enc : TypeId × Value → H) :
    ReturnsInHanded {} Try.checked os 12 .any (Rows.imageFencedSpec.pre6 enc Try.prog Try.f12 Rows.imageFencedRow.domain false) (Rows.imageFencedSpec.post enc Try.prog Try.f12 false true false false) := by
  refine law_lift started (by kernel_rfl) Try.func12 (by kernel_rfl) rfl Try.underlying4 rfl ?_
    (ChangeSpec.witness6 (enc := enc) (C := Try.checked) false ⟨#[], #[.slice none 0 0, .agg #[.int .i64 0, .int .i64 0, .int .i64 0, .int .u64 0, .int .u32 0, .slice none 0 0]], []⟩ 8 (by kernel_rfl) (by kernel_rfl) (by kernel_rfl) (by kernel_rfl)) ?_
  · intro ds h
    match ds, h with
    | [_, _], _ => rfl
  intro W base args ds ps hval hA hlt _
  rw [Try.params12] at hval
  have hA : DataW.TrodAll enc Try.prog W 0 (fun _ => true) true Try.f12.params.toList args.toList ds ps := hA
  rw [Try.params12] at hA
  obtain ⟨v0, vs0, d0, ds0, p0, q0, hargs, rfl, rfl, h0, r0⟩ := trodAll_cons hA
  obtain ⟨v1, vs1, d1, ds1, p1, q1, rfl, rfl, rfl, h1, r1⟩ := trodAll_cons r0
  obtain ⟨rfl, rfl, rfl⟩ := trodAll_nil r1
  obtain rfl : args = #[v0, v1] := by cases args; simp_all
  obtain ⟨l, css, _, hr⟩ := open_reqs (hval 0 56 v0 rfl rfl) h0
  obtain ⟨x, B, n, c, rfl, hx, _, hI⟩ := open_req (hval 1 69 v1 rfl rfl) h1
  refine (fenced_st v0 l x B n c W hx (((St.init W).persW hI).rowsW hr)).mono ?_
  rintro e W' ⟨he, h⟩
  exact ⟨he, h.done⟩

theorem imageFenced_over : Rows.imageFencedRow.holds Try.pinned (OpenSpec.ofChange Rows.imageFencedSpec) :=
  OpenClaim.holds_of_wide 12 Try.f12 rfl rfl rfl rfl rfl rfl rfl ⟨rfl, rfl, rfl, rfl, rfl⟩ rfl rfl rfl rfl rfl (by kernel_rfl) Try.func12 (by kernel_rfl)
    (of_decide_eq_true (by kernel_rfl)) (by unfold Func.isWrapper; first | (rw [if_pos (by decide +kernel)]; kernel_rfl) | (rw [if_neg (by decide +kernel)]; exact ⟨rfl, rfl⟩))
    (fun os started H enc _ => imageFenced_lifted os started H enc)

theorem ImageFenced_holds : Rows.ImageFencedSaid := imageFenced_over
#print axioms ImageFenced_holds
end Go.Proofs.Ytdhkklcjhbnnlaa
