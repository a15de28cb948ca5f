/- ImageEncodesSaid: no condition. -/
import Derived.Test.YtdhkklcjhbnnlaaImgEn
import Derived.Test.YtdhkklcjhbnnlaaImgOpen
namespace Go.Proofs.Ytdhkklcjhbnnlaa
open Go.ChangeShapes Go.WideShapes Go.ChangeAt Go.RowKit Go.Deep

set_option maxRecDepth 100000 in
theorem imageEncodes_lifted (os : Os) (started : os.Started) (H : Type) (enc : TypeId × Value → H) :
    ReturnsInHanded {} Try.checked os 14 .any (Rows.imageEncodesSpec.pre6 enc Try.prog Try.f14 Rows.imageEncodesRow.domain false) (Rows.imageEncodesSpec.post enc Try.prog Try.f14 false true false false) := by
  refine law_lift started (by kernel_rfl) Try.func14 (by kernel_rfl) rfl Try.underlying4 rfl ?_
    (ChangeSpec.witness6 (enc := enc) (C := Try.checked) false ⟨#[], #[.agg #[.int .i64 0, .int .i64 0, .int .i64 0, .int .u64 0, .int .u32 0, .slice none 0 0], .slice none 0 0], []⟩ 8 (by kernel_rfl) (by kernel_rfl) (by kernel_rfl) (by kernel_rfl)) ?_
  · intro ds h
    match ds, h with
    | [_, _], _ => rfl
  intro W base args ds ps hval hA hlt _
  rw [Try.params14] at hval
  have hA : DataW.TrodAll enc Try.prog W 0 (fun _ => true) true Try.f14.params.toList args.toList ds ps := hA
  rw [Try.params14] at hA
  obtain ⟨v0, vs0, d0, ds0, p0, q0, hargs, rfl, rfl, h0, r0⟩ := trodAll_cons hA
  obtain ⟨v1, vs1, d1, ds1, p1, q1, rfl, rfl, rfl, h1, r1⟩ := trodAll_cons r0
  obtain ⟨rfl, rfl, rfl⟩ := trodAll_nil r1
  obtain rfl : args = #[v0, v1] := by cases args; simp_all
  obtain ⟨x, B, n, c, rfl, hx, hxb, hI⟩ := open_req (hval 0 69 v0 rfl rfl) h0
  obtain ⟨bs, hwf, hb⟩ := ints_of Try.underlying24 Try.underlying5 u8_cells1 (hval 1 24 v1 rfl rfl) h1
  refine (encodes_st x B n c v1 bs W hx hxb (bytes_of_wf hwf) (((St.init W).persW hb).persW hI)).mono ?_
  rintro e W' ⟨he, h⟩
  exact ⟨he, h.done⟩

theorem imageEncodes_over : Rows.imageEncodesRow.holds Try.pinned (OpenSpec.ofChange Rows.imageEncodesSpec) :=
  OpenClaim.holds_of_wide 14 Try.f14 rfl rfl rfl rfl rfl rfl rfl ⟨rfl, rfl, rfl, rfl, rfl⟩ rfl rfl rfl rfl rfl (by kernel_rfl) Try.func14 (by kernel_rfl)
    (of_decide_eq_true (by kernel_rfl)) (by unfold Func.isWrapper; first | (rw [if_pos (by decide +kernel)]; kernel_rfl) | (rw [if_neg (by decide +kernel)]; exact ⟨rfl, rfl⟩))
    (fun os started H enc _ => imageEncodes_lifted os started H enc)

theorem ImageEncodes_holds : Rows.ImageEncodesSaid := imageEncodes_over
#print axioms ImageEncodes_holds
end Go.Proofs.Ytdhkklcjhbnnlaa
