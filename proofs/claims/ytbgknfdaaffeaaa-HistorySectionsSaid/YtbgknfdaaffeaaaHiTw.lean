/- The comparison of two lists of numbers: numbers_any. -/
import Derived.Test.YtbgknfdaaffeaaaWords
import Derived.Test.YtbgknfdaaffeaaaRows
import Derived.Test.YtbgknfdaaffeaaaHiE
import Derived.Test.YtbgknfdaaffeaaaStLit
namespace Go.Proofs.Ytbgknfdaaffeaaa
open Go.RowKit

set_option maxHeartbeats 400000 in
theorem numbers_any (v u : Value) (xs ys : List Int) (w : World) (Q Q' : Nat → Prop) (hx : Nums w Q .i64 v xs) (hy : Nums w Q' .i64 u ys) :
    Calls Try.prog 19 #[v, u] w fun e w' => e = .returned (.bool (decide (xs = ys))) ∧ Fr Non w w' := by
  obtain ⟨A, c, rfl, hl, hsx⟩ := hx
  obtain ⟨B, d, rfl, hl', hsy⟩ := hy
  have HX := hide hsx
  have HY := hide hsy
  clear hsx hsy
  by_cases hnm : xs.length = ys.length
  · have HN := hide hnm
    rw [← hnm]
    generalize hn : xs.length = n at hl
    have HN2 := hide hn
    clear hn hnm hl'
    go_enter Try.func19, Try.ntmps19
    go_wp2
    go_loopw [5] (fun i wr => ∃ k : Nat, k ≤ n ∧ i = .int .i64 k ∧ xs.take k = ys.take k ∧ ∃ q, wr = w.drewN q) (fun i _ => n - (intOf i).toNat)
    case atStart => exact ⟨0, Nat.zero_le _, rfl, rfl, 0, rfl⟩
    case round =>
      obtain ⟨k, hk, rfl, he, q, rfl⟩ := hrel
      have HE := hide he
      clear he
      by_cases hlt : k < n
      · have hkx : k < xs.length := by rw [HN2.out]; exact hlt
        have hky : k < ys.length := by rw [← HN.out]; exact hkx
        obtain ⟨ad, x, rfl, _, _, ex, hcx⟩ := Sl.at_ HX.out hkx
        obtain ⟨bd, y, rfl, _, _, ey, hcy⟩ := Sl.at_ HY.out hky
        rw [List.getElem?_map, List.getElem?_eq_getElem hkx] at ex
        rw [List.getElem?_map, List.getElem?_eq_getElem hky] at ey
        obtain rfl : .int .i64 xs[k] = x := by injection ex
        obtain rfl : .int .i64 ys[k] = y := by injection ey
        generalize hX : xs[k] = X at hcx
        generalize hY : ys[k] = Y at hcy
        have H1 := hide hX
        have H2 := hide hY
        clear hX hY ex ey
        by_cases hXY : X = Y
        · subst hXY
          go_wp2
          go_quiet (fail)
          go_wp2
          go_roundw
          case rel => exact ⟨k + 1, by omega, by go_num, take_succ_eq hkx hky HE.out (H1.out.trans H2.out.symm), _, rfl⟩
          case measure => simp [intOf]; omega
        · have hb := isN hXY
          go_wp2
          go_quiet (fail)
          go_wp2
          go_ret
          refine ⟨?_, by repeat (first | exact Fr.refl _ _ | refine Fr.drewN ?_ _)⟩
          rw [decide_eq_false (by rintro rfl; exact hXY (H1.out.symm.trans H2.out))]
          rfl
      · go_wp2
        go_ret
        refine ⟨?_, by repeat (first | exact Fr.refl _ _ | refine Fr.drewN ?_ _)⟩
        have e1 : xs = ys := by
          have h := HE.out
          rwa [List.take_of_length_le (by rw [HN2.out]; omega), List.take_of_length_le (by rw [← HN.out, HN2.out]; omega)] at h
        rw [decide_eq_true e1]
        rfl
  · have hb : ((xs.length : Int) != (ys.length : Int)) = true := by rw [bne_iff_ne]; omega
    have HN := hide hnm
    clear hnm HX HY
    go_enter Try.func19, Try.ntmps19
    go_wp2
    go_ret
    refine ⟨?_, Fr.refl _ _⟩
    rw [decide_eq_false (by rintro rfl; exact HN.out rfl)]
    rfl

end Go.Proofs.Ytbgknfdaaffeaaa
/- History: the statement's two. -/
namespace Go.Proofs.Ytbgknfdaaffeaaa
open Go.RowKit Go.Shelf

def twoM (b : List Int) : List SecH := [⟨1, [⟨0, [97]⟩, ⟨0, [98]⟩], 1, []⟩, ⟨2, [], 0, [⟨0, 0, b⟩]⟩]
set_option maxHeartbeats 2000000 in
set_option maxRecDepth 100000 in
theorem two_st {M0 : Imm} {L : List Res} (B : Option Addr) (m d : Nat) (b : List Int) (w : World) (h : St M0 w (intsR .u8 (.slice B m d) b :: L)) :
    Calls Try.prog 69 #[.slice B m d] w fun e w' => ∃ (O : Option Addr) (c : Nat) (l : List SecX), e = .returned (.slice O 2 c) ∧ l.map SecX.s = twoM b ∧ l.length = 2 ∧ St M0 w' (rowsR 4 SecXR (.slice O 2 c) l :: L) := by
  have h2 := (h.litInts 5 .u8 [97] (by decide) w.heap.size rfl).litInts 5 .u8 [98] (by decide) (w.heap.size + 1) (by simp)
  have h3 := (h2.swap.pers2 (Q := fun w' => ∀ p ∈ [([Value.int .i64 0, .slice (some ⟨w.heap.size, 0, none⟩) 1 1], (⟨0, [97]⟩ : PutH)), ([Value.int .i64 0, .slice (some ⟨w.heap.size + 1, 0, none⟩) 1 1], ⟨0, [98]⟩)], PutHR w' p.1 p.2) (fun w' h1 h2 p hp => by
    simp only [List.mem_cons, List.not_mem_nil, or_false] at hp
    rcases hp with rfl | rfl
    · exact ⟨_, rfl, h1⟩
    · exact ⟨_, rfl, h2⟩)).litFlat (size := 2) (R := PutHR) _ 122 (by intro p hp; simp only [List.mem_cons, List.not_mem_nil, or_false] at hp; rcases hp with rfl | rfl <;> rfl) (by simp) (w.heap.size + 1 + 1) (by simp)
  obtain ⟨pcs, h4⟩ := h3.openRows
  have h5 := ((h4.junk (.cells #[.int .u64 1, .slice (some ⟨w.heap.size + 1 + 1, 0, none⟩) 2 2, .int .i64 1, .slice none 0 0] 37)).swap.pers1 (R' := fun w' => ∀ p ∈ [([Value.int .i64 0, .int .i64 0, .slice B m d], (⟨0, 0, b⟩ : LookH))], LookHR w' p.1 p.2) (fun w' h1 p hp => by
    simp only [List.mem_cons, List.not_mem_nil, or_false] at hp
    rcases hp with rfl
    exact ⟨_, rfl, h1⟩)).litFlat (size := 3) (R := LookHR) _ 124 (by intro p hp; simp only [List.mem_cons, List.not_mem_nil, or_false] at hp; rcases hp with rfl; rfl) (by simp) (w.heap.size + 1 + 1 + 1 + 1) (by simp)
  obtain ⟨kcs, h6⟩ := h5.openRows
  have h7 := (h6.pers2 (Q := fun w' => ∀ p ∈ [([Value.int .u64 1, .slice (some ⟨w.heap.size + 1 + 1, 0, none⟩) 2 2, .int .i64 1, .slice none 0 0], (⟨⟨1, [⟨0, [97]⟩, ⟨0, [98]⟩], 1, []⟩, some ⟨w.heap.size + 1 + 1, 0, none⟩, 2, pcs, none, 0, fun _ => []⟩ : SecX)), ([Value.int .u64 2, .slice none 0 0, .int .i64 0, .slice (some ⟨w.heap.size + 1 + 1 + 1 + 1, 0, none⟩) 1 1], (⟨⟨2, [], 0, [⟨0, 0, b⟩]⟩, none, 0, fun _ => [], some ⟨w.heap.size + 1 + 1 + 1 + 1, 0, none⟩, 1, kcs⟩ : SecX))], SecXR w' p.1 p.2) (fun w' h1 h2 p hp => by
    simp only [List.mem_cons, List.not_mem_nil, or_false] at hp
    rcases hp with rfl | rfl
    · exact ⟨rfl, h2, RowsC.none_ _ _ _ _⟩
    · exact ⟨rfl, RowsC.none_ _ _ _ _, h1⟩)).litFlat (size := 4) (R := SecXR) _ 37 (by intro p hp; simp only [List.mem_cons, List.not_mem_nil, or_false] at hp; rcases hp with rfl | rfl <;> rfl) (by simp) (w.heap.size + 1 + 1 + 1 + 1 + 1) (by simp)
  have H := hide h7
  clear h h2 h3 h4 h5 h6 h7
  go_enter Try.func69, Try.ntmps69
  go_wp2_with fail
  go_ret
  exact ⟨_, _, rfl, _, rfl, rfl, H.out⟩
end Go.Proofs.Ytbgknfdaaffeaaa
/- History: the statement's awake. -/
namespace Go.Proofs.Ytbgknfdaaffeaaa
open Go.RowKit Go.Shelf

theorem numbers_st {M0 : Imm} {L : List Res} (v u : Value) (xs ys : List Int) (w : World) (hx : Ints w .i64 v xs) (hy : Ints w .i64 u ys) (hlx : xs.length ≤ 100000) (hly : ys.length ≤ 100000) (h : St M0 w L) :
    Calls Try.prog 19 #[v, u] w fun e w' => e = .returned (.bool (decide (xs = ys))) ∧ St M0 w' L := by
  obtain ⟨A, c, rfl, hl, hm, hs⟩ := hx
  obtain ⟨B, d, rfl, hl', hm', hs'⟩ := hy
  exact (numbers_any _ _ xs ys w Any Any ⟨A, c, rfl, by omega, hs⟩ ⟨B, d, rfl, by omega, hs'⟩).mono (fun e w' ⟨he, hf⟩ => ⟨he, h.grow hf⟩)
theorem twoM_ok {b : List Int} (hb : Byt b) {l : List SecX} (hl : l.map SecX.s = twoM b) : ∀ x ∈ l, SecOk x.s := by
  intro x hx
  have : x.s ∈ twoM b := by rw [← hl]; exact List.mem_map_of_mem hx
  simp only [twoM, List.mem_cons, List.not_mem_nil, or_false] at this
  rcases this with e | e <;> rw [e]
  · exact ⟨by intro y hy; simp only [List.mem_cons, List.not_mem_nil, or_false] at hy; rcases hy with rfl | rfl <;> (intro z hz; simp at hz; subst hz; omega), by intro y hy; simp at hy, by simp⟩
  · exact ⟨by intro y hy; simp at hy, by intro y hy; simp only [List.mem_cons, List.not_mem_nil, or_false] at hy; rcases hy with rfl; exact hb, by simp⟩
theorem explM_a : explM (twoM [97]) = some [1, 0] := by rfl
theorem explM_b : explM (twoM [98]) = some [2, 0] := by rfl
theorem explM_n : explM (twoM []) = none := by rfl
set_option maxHeartbeats 2000000 in
set_option maxRecDepth 100000 in
theorem awakeH_st {M0 : Imm} {L : List Res} (w : World) (h : St M0 w L) :
    Calls Try.prog 14 #[] w fun e w' => e = .returned (.bool true) ∧ St M0 w' L := by
  have H := hide (h.litInts 5 .u8 [97] (by decide) w.heap.size rfl)
  clear h
  go_enter Try.func14, Try.ntmps14
  go_wp2_with fail
  refine (two_st _ 1 1 [97] _ H.out).mono ?_
  rintro e w1 ⟨O1, c1, l1, rfl, hm1, hl1, h1⟩
  have H1 := hide h1
  clear h1 H
  go_wp2_with fail
  refine (explain_st O1 2 c1 l1 _ (by omega) (twoM_ok (by intro z hz; simp at hz; subst hz; omega) hm1) H1.out).mono ?_
  rintro e w2 ⟨v2, rfl, h2⟩
  rw [hm1, explM_a] at h2 ⊢
  have H2 := hide (h2.litInts 5 .u8 [98] (by decide) w2.heap.size rfl)
  clear h2 H1 hm1 hl1
  go_wp2_with fail
  refine (two_st _ 1 1 [98] _ H2.out).mono ?_
  rintro e w3 ⟨O3, c3, l3, rfl, hm3, hl3, h3⟩
  have H3 := hide h3
  clear h3 H2
  go_wp2_with fail
  refine (explain_st O3 2 c3 l3 _ (by omega) (twoM_ok (by intro z hz; simp at hz; subst hz; omega) hm3) H3.out).mono ?_
  rintro e w4 ⟨v4, rfl, h4⟩
  rw [hm3, explM_b] at h4 ⊢
  have H4 := hide (h4.pers0 (R := fun w => Ints w .u8 (.slice none 0 0) []) (fun w' _ => Ints.none_ w' _))
  clear h4 H3 hm3 hl3
  go_wp2_with fail
  refine (two_st _ 0 0 [] _ H4.out).mono ?_
  rintro e w5 ⟨O5, c5, l5, rfl, hm5, hl5, h5⟩
  have H5 := hide h5
  clear h5 H4
  go_wp2_with fail
  refine (explain_st O5 2 c5 l5 _ (by omega) (twoM_ok (by intro z hz; simp at hz) hm5) H5.out).mono ?_
  rintro e w6 ⟨v6, rfl, h6⟩
  rw [hm5, explM_n] at h6 ⊢
  have H6 := hide (h6.tail.litInts 3 .i64 [1, 0] (by decide) w6.heap.size rfl)
  clear h6 H5 hm5 hl5
  go_wp2_with fail
  refine (numbers_st v2 _ [1, 0] [1, 0] _ (H6.out.get 2 rfl) (H6.out.get 0 rfl) (by decide) (by decide) H6.out).mono ?_
  rintro e w7 ⟨rfl, h7⟩
  have H7 := hide (h7.litInts 3 .i64 [2, 0] (by decide) w7.heap.size rfl)
  clear h7 H6
  go_wp2_with fail
  refine (numbers_st v4 _ [2, 0] [2, 0] _ (H7.out.get 2 rfl) (H7.out.get 0 rfl) (by decide) (by decide) H7.out).mono ?_
  rintro e w8 ⟨rfl, h8⟩
  have H8 := hide (h8.sub (L' := L) (by (repeat (first | with_reducible exact Sub.refl _ | (with_reducible apply Sub.take; focus (repeat (first | with_reducible exact At.here | with_reducible apply At.there))) | with_reducible apply Sub.drop))))
  clear h8 H7
  go_wp2_with fail
  go_ret
  exact ⟨rfl, H8.out⟩
end Go.Proofs.Ytbgknfdaaffeaaa
