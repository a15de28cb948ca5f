/- (*Writer).Bytes and Out. -/
import Derived.Test.YtdhkklcjhbnnlaaPackN
import Derived.Test.YtdhkklcjhbnnlaaCloneSt
namespace Go.Proofs.Ytdhkklcjhbnnlaa
open Go.RowKit

set_option maxHeartbeats 400000 in
theorem out_st {M0 : Imm} {L : List Res} (g : Nat) (xs : List Int) (w : World) (hl : xs.length ≤ 1000000000) (h : St M0 w (wrR g xs :: L)) :
    Calls Try.prog 23 #[.pointer (some ⟨g, 0, none⟩)] w fun e w' => ∃ v, e = .returned v ∧ St M0 w' (rowR 5 1 v xs.length (bv xs) :: wrR g xs :: L) := by
  obtain ⟨A, c, q, hq, h⟩ := h.wr
  have c0 := (h.blk 0 rfl).cell 0
  have HC := hide (clone_st A q c xs w h.swap.sl (by omega) h)
  have HQ := hide hq
  clear h hq
  go_enter Try.func23, Try.ntmps23
  go_wp2_with fail
  refine HC.out.mono ?_
  rintro e w1 ⟨v1, rfl, h1⟩
  go_wp2_with fail
  go_ret
  rw [← HQ.out]
  exact ⟨v1, rfl, (St.addWr h1.dn2 HQ.out).swap⟩

theorem take_1000 (bs : List Int) : bs.take 1000 = bs.take (min 1000 bs.length) := by
  rcases Nat.le_total 1000 bs.length with h1 | h1
  · rw [Nat.min_eq_left h1]
  · rw [Nat.min_eq_right h1, List.take_of_length_le h1, List.take_length]
theorem bytB_eq (bs : List Int) : bytB bs = numI (min 1000 bs.length : Nat) 2 ++ bs.take (min 1000 bs.length) := by
  unfold bytB
  rw [take_1000, List.length_take, Nat.min_eq_left (Nat.min_le_right _ _)]
  rfl

set_option maxHeartbeats 1000000 in
theorem byt_st {M0 : Imm} {L : List Res} (g : Nat) (v : Value) (bs xs : List Int) (w : World) (hl : xs.length ≤ 900000000) (h : St M0 w (wrR g xs :: persR (fun w' => Ints w' .u8 v bs) :: L)) :
    Calls Try.prog 24 #[.pointer (some ⟨g, 0, none⟩), v] w fun e w' => e = .returned (.tuple #[]) ∧ St M0 w' (wrR g (xs ++ bytB bs) :: persR (fun w' => Ints w' .u8 v bs) :: L) := by
  obtain ⟨A, c, rfl, hbl, hcm, _⟩ := h.get 1 rfl
  unfold maxLen at hcm
  have h0 : (0 : Int) ≤ (bs.length : Int) := by omega
  have HB := hide (bytB_eq bs)
  have HL := hide (List.length_take (i := min 1000 bs.length) (l := bs))
  generalize hn : bs.length = n at *
  have HN := hide hn
  clear hn
  have HT : Hid (∀ k w', k ≤ n → Ints w' .u8 (.slice A n c) bs → Sl w' Any 1 A k (bv (bs.take k))) := hide (fun k w' hk hi => by
    have h1 := (hi.cut hk).sl
    exact h1.2.2.2)
  have hin := numI_length n 2
  have hin2 := numI_length 1000 2
  rcases (by omega : n ≤ 1000 ∨ 1000 < n) with h1 | h1
  · have h2 : (n : Int) ≤ 1000 := by omega
    have h3 : (n : Int) ≤ (c : Int) := by omega
    rw [Nat.min_eq_right h1] at HB HL
    have H := hide h
    clear h h1 hin2
    go_enter Try.func24, Try.ntmps24
    go_wp2_with fail
    refine (num_st g n 2 xs _ (by omega) H.out).mono ?_
    rintro e w1 ⟨rfl, h1⟩
    clear H
    obtain ⟨A2, c2, q, hq, h1⟩ := h1.wr
    have c0 := (h1.blk 0 rfl).cell 0
    have f0 := (h1.blk 0 rfl).frozen 0
    rw [List.length_append] at hq
    have hq2 : q ≤ 900000008 := by omega
    have HQ := hide hq
    have H := hide h1
    clear h1 hq
    go_wp2_with (at_builtin; refine St.app_step u8_row H.out.swap rfl _ _ rfl rfl A _ c rfl (bv (bs.take n)) (HT.out n _ (by omega) (H.out.get 2 rfl)) (bv_one _) (by omega) (by omega) ?_; intro A' c' w1 h1; have c1 := (h1.blk 1 rfl).cell 0; have f1 := (h1.blk 1 rfl).frozen 0)
    go_end0
    refine ⟨rfl, St.addWr (((h1.swap.set_ 0 _).swap.row_eq rfl ?_).swap) ?_⟩
    · rw [HB.out]; simp [bv]
    · rw [HB.out, HQ.out, List.length_append, List.length_append, HL.out]; omega
  · have h2 : ¬ (n : Int) ≤ 1000 := by omega
    have h3 : (1000 : Int) ≤ (c : Int) := by omega
    rw [Nat.min_eq_left (show 1000 ≤ n by omega)] at HB HL
    rw [show ((1000 : Nat) : Int) = 1000 from rfl] at HB
    have H := hide h
    clear h hin
    go_enter Try.func24, Try.ntmps24
    go_wp2_with fail
    refine (num_st g 1000 2 xs _ (by omega) H.out).mono ?_
    rintro e w1 ⟨rfl, h1⟩
    clear H
    obtain ⟨A2, c2, q, hq, h1⟩ := h1.wr
    have c0 := (h1.blk 0 rfl).cell 0
    have f0 := (h1.blk 0 rfl).frozen 0
    rw [List.length_append] at hq
    have hq2 : q ≤ 900000008 := by omega
    have HQ := hide hq
    have H := hide h1
    clear h1 hq
    go_wp2_with (at_builtin; refine St.app_step u8_row H.out.swap rfl _ _ rfl rfl A _ c rfl (bv (bs.take 1000)) (HT.out 1000 _ (by omega) (H.out.get 2 rfl)) (bv_one _) (by omega) (by omega) ?_; intro A' c' w1 h1; have c1 := (h1.blk 1 rfl).cell 0; have f1 := (h1.blk 1 rfl).frozen 0)
    go_end0
    refine ⟨rfl, St.addWr (((h1.swap.set_ 0 _).swap.row_eq rfl ?_).swap) ?_⟩
    · rw [HB.out]; simp [bv]
    · rw [HB.out, HQ.out, List.length_append, List.length_append, HL.out]; omega

end Go.Proofs.Ytdhkklcjhbnnlaa
