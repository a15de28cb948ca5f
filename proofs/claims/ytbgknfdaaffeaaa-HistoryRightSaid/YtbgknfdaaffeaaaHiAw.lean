/- History: the statement's awake. -/
import Derived.Test.YtbgknfdaaffeaaaHiT
import Derived.Test.YtbgknfdaaffeaaaEqNum
namespace Go.Proofs.Ytbgknfdaaffeaaa
open Go.RowKit Go.Shelf

theorem numbers_st {M0 : Imm} {L : List Res} (v u : Value) (xs ys : List Int) (w : World) (hx : Ints w .i64 v xs) (hy : Ints w .i64 u ys) (hlx : xs.length ≤ 100000) (hly : ys.length ≤ 100000) (h : St M0 w L) :
    Calls Try.prog 19 #[v, u] w fun e w' => e = .returned (.bool (decide (xs = ys))) ∧ St M0 w' L := by
  obtain ⟨A, c, rfl, hl, hm, hs⟩ := hx
  obtain ⟨B, d, rfl, hl', hm', hs'⟩ := hy
  exact (numbers_any _ _ xs ys w Any Any ⟨A, c, rfl, by omega, hs⟩ ⟨B, d, rfl, by omega, hs'⟩).mono (fun e w' ⟨he, hf⟩ => ⟨he, h.grow hf⟩)
theorem twoM_ok {b : List Int} (hb : Byt b) {l : List SecX} (hl : l.map SecX.s = twoM b) : ∀ x ∈ l, SecOk x.s := by
  intro x hx
  have : x.s ∈ twoM b := by rw [← hl]; exact List.mem_map_of_mem hx
  simp only [twoM, List.mem_cons, List.not_mem_nil, or_false] at this
  rcases this with e | e <;> rw [e]
  · exact ⟨by intro y hy; simp only [List.mem_cons, List.not_mem_nil, or_false] at hy; rcases hy with rfl | rfl <;> (intro z hz; simp at hz; subst hz; omega), by intro y hy; simp at hy, by simp⟩
  · exact ⟨by intro y hy; simp at hy, by intro y hy; simp only [List.mem_cons, List.not_mem_nil, or_false] at hy; rcases hy with rfl; exact hb, by simp⟩
theorem explM_a : explM (twoM [97]) = some [1, 0] := by rfl
theorem explM_b : explM (twoM [98]) = some [2, 0] := by rfl
theorem explM_n : explM (twoM []) = none := by rfl
set_option maxHeartbeats 2000000 in
set_option maxRecDepth 100000 in
theorem awakeH_st {M0 : Imm} {L : List Res} (w : World) (h : St M0 w L) :
    Calls Try.prog 14 #[] w fun e w' => e = .returned (.bool true) ∧ St M0 w' L := by
  have H := hide (h.litInts 5 .u8 [97] (by decide) w.heap.size rfl)
  clear h
  go_enter Try.func14, Try.ntmps14
  go_wp2_with fail
  refine (two_st _ 1 1 [97] _ H.out).mono ?_
  rintro e w1 ⟨O1, c1, l1, rfl, hm1, hl1, h1⟩
  have H1 := hide h1
  clear h1 H
  go_wp2_with fail
  refine (explain_st O1 2 c1 l1 _ (by omega) (twoM_ok (by intro z hz; simp at hz; subst hz; omega) hm1) H1.out).mono ?_
  rintro e w2 ⟨v2, rfl, h2⟩
  rw [hm1, explM_a] at h2 ⊢
  have H2 := hide (h2.litInts 5 .u8 [98] (by decide) w2.heap.size rfl)
  clear h2 H1 hm1 hl1
  go_wp2_with fail
  refine (two_st _ 1 1 [98] _ H2.out).mono ?_
  rintro e w3 ⟨O3, c3, l3, rfl, hm3, hl3, h3⟩
  have H3 := hide h3
  clear h3 H2
  go_wp2_with fail
  refine (explain_st O3 2 c3 l3 _ (by omega) (twoM_ok (by intro z hz; simp at hz; subst hz; omega) hm3) H3.out).mono ?_
  rintro e w4 ⟨v4, rfl, h4⟩
  rw [hm3, explM_b] at h4 ⊢
  have H4 := hide (h4.pers0 (R := fun w => Ints w .u8 (.slice none 0 0) []) (fun w' _ => Ints.none_ w' _))
  clear h4 H3 hm3 hl3
  go_wp2_with fail
  refine (two_st _ 0 0 [] _ H4.out).mono ?_
  rintro e w5 ⟨O5, c5, l5, rfl, hm5, hl5, h5⟩
  have H5 := hide h5
  clear h5 H4
  go_wp2_with fail
  refine (explain_st O5 2 c5 l5 _ (by omega) (twoM_ok (by intro z hz; simp at hz) hm5) H5.out).mono ?_
  rintro e w6 ⟨v6, rfl, h6⟩
  rw [hm5, explM_n] at h6 ⊢
  have H6 := hide (h6.tail.litInts 3 .i64 [1, 0] (by decide) w6.heap.size rfl)
  clear h6 H5 hm5 hl5
  go_wp2_with fail
  refine (numbers_st v2 _ [1, 0] [1, 0] _ (H6.out.get 2 rfl) (H6.out.get 0 rfl) (by decide) (by decide) H6.out).mono ?_
  rintro e w7 ⟨rfl, h7⟩
  have H7 := hide (h7.litInts 3 .i64 [2, 0] (by decide) w7.heap.size rfl)
  clear h7 H6
  go_wp2_with fail
  refine (numbers_st v4 _ [2, 0] [2, 0] _ (H7.out.get 2 rfl) (H7.out.get 0 rfl) (by decide) (by decide) H7.out).mono ?_
  rintro e w8 ⟨rfl, h8⟩
  have H8 := hide (h8.sub (L' := L) (by (repeat (first | with_reducible exact Sub.refl _ | (with_reducible apply Sub.take; focus (repeat (first | with_reducible exact At.here | with_reducible apply At.there))) | with_reducible apply Sub.drop))))
  clear h8 H7
  go_wp2_with fail
  go_ret
  exact ⟨rfl, H8.out⟩
end Go.Proofs.Ytbgknfdaaffeaaa
