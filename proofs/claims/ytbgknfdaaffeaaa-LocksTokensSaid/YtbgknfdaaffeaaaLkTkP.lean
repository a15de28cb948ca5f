/- LocksTokensSaid: no condition. -/
import Derived.Test.YtbgknfdaaffeaaaLkTk2
import Derived.Test.YtbgknfdaaffeaaaLkO
import Derived.Test.YtbgknfdaaffeaaaLift
import Derived.Test.YtbgknfdaaffeaaaOpenR
namespace Go.Proofs.Ytbgknfdaaffeaaa
open Go.ChangeShapes Go.WideShapes Go.ChangeAt Go.RowKit Go.Deep

set_option maxRecDepth 100000 in
theorem locksTokens_lifted (os : Os) (started : os.Started) (H : Type) (enc : TypeId × Value → H) :
    ReturnsInHanded {} Try.checked os 11 .any (Rows.locksTokensSpec.pre6 enc Try.prog Try.f11 Rows.locksTokensRow.domain false) (Rows.locksTokensSpec.post enc Try.prog Try.f11 false true false false) := by
  refine law_lift started (by kernel_rfl) Try.func11 (by kernel_rfl) rfl Try.underlying4 rfl ?_
    (ChangeSpec.witness6 (enc := enc) (C := Try.checked) false ⟨#[], #[.slice none 0 0, .slice none 0 0], []⟩ 8 (by kernel_rfl) (by kernel_rfl) (by kernel_rfl) (by kernel_rfl)) ?_
  · intro ds h
    match ds, h with
    | [_, _], _ => rfl
  intro W base args ds ps hval hA hlt hsz
  rw [Try.params11] at hval
  have hA : DataW.TrodAll enc Try.prog W 0 (fun _ => true) true Try.f11.params.toList args.toList ds ps := hA
  rw [Try.params11] at hA
  obtain ⟨v0, vs0, d0, ds0, p0, q0, hargs, rfl, rfl, h0, r0⟩ := trodAll_cons hA
  obtain ⟨v1, vs1, d1, ds1, p1, q1, rfl, rfl, rfl, h1, r1⟩ := trodAll_cons r0
  obtain ⟨rfl, rfl, rfl⟩ := trodAll_nil r1
  obtain rfl : args = #[v0, v1] := by cases args; simp_all
  obtain ⟨A, n, c, rfl⟩ := okWide_slice Try.underlying48 (hval 0 48 v0 rfl rfl)
  obtain ⟨bs, hb, hbI⟩ := ints_of Try.underlying48 Try.underlying5 (by kernel_rfl) (hval 0 48 _ rfl rfl) h0
  rw [Try.params11] at hsz
  simp only [DataW.weightsEach, List.all_append, Bool.and_eq_true] at hsz
  have hlen : bs.length ≤ 140737488355328 := by
    obtain ⟨fuel, hf⟩ := h0
    have h2 := weight_len Try.underlying48 (by kernel_rfl) hf hsz.1
    obtain ⟨A2, c2, e, _⟩ := hbI _ (Fr.refl _ _)
    injection e with e1 e2 e3
    rw [show Try.prog.bytesOf 5 = 1 from u8_bytes1, Nat.mul_one, e2] at h2
    exact Nat.le_trans h2 (by decide)
  obtain ⟨l, css, hbl, hr⟩ := open_opl (hval 1 71 v1 rfl rfl) h1
  refine (tokens_st _ v1 bs l W ⟨bytes_of_wf hb, hlen, fun h => by cases h⟩ hbl (((St.init W).persW hbI).rowsW hr)).mono ?_
  rintro e W2 ⟨he, h⟩
  exact ⟨he, h.done⟩

theorem locksTokens_over : Rows.locksTokensRow.holds Try.pinned (OpenSpec.ofChange Rows.locksTokensSpec) :=
  OpenClaim.holds_of_wide 11 Try.f11 rfl rfl rfl rfl rfl rfl rfl ⟨rfl, rfl, rfl, rfl, rfl⟩ rfl rfl rfl rfl rfl (by kernel_rfl) Try.func11 (by kernel_rfl)
    (of_decide_eq_true (by kernel_rfl)) (by unfold Func.isWrapper; first | (rw [if_pos (by decide +kernel)]; kernel_rfl) | (rw [if_neg (by decide +kernel)]; exact ⟨rfl, rfl⟩))
    (fun os started H enc _ => locksTokens_lifted os started H enc)

theorem LocksTokens_holds : Rows.LocksTokensSaid := locksTokens_over
#print axioms LocksTokens_holds
end Go.Proofs.Ytbgknfdaaffeaaa
