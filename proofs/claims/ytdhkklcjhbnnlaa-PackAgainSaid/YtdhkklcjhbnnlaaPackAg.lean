/- PackAgain, the walk. -/
import Derived.Test.YtdhkklcjhbnnlaaPackAw
import Derived.Test.YtdhkklcjhbnnlaaPackLaw
namespace Go.Proofs.Ytdhkklcjhbnnlaa
open Go.RowKit

theorem Rd.flds_length (ks : List Int) : ∀ r : Rd, (r.flds ks).1.length = ks.length := by
  induction ks with
  | nil => intro r; rfl
  | cons k ks ih => intro r; simp [Rd.flds, ih]
theorem decL_length (ks bs : List Int) : (decL ks bs).length ≤ ks.length := by
  unfold decL
  split
  · rw [Rd.flds_length]; exact Nat.le_refl _
  · simp

set_option maxRecDepth 100000 in
set_option maxHeartbeats 2000000 in
theorem again_st {M0 : Imm} {L : List Res} (v u : Value) (ks bs : List Int) (left : Int) (w : World) (hb : Bytes bs) (h : St M0 w (intsR .i64 v ks :: intsR .u8 u bs :: L)) :
    Calls Try.prog 7 #[v, u, .int .i64 left] w fun e w' => e = .returned (.bool true) ∧ St M0 w' (intsR .i64 v ks :: intsR .u8 u bs :: L) := by
  obtain ⟨A, c, rfl, _, hm, _⟩ := h.get 0 rfl
  obtain ⟨B, d, rfl, hbd, hm2, _⟩ := h.get 1 rfl
  unfold maxLen at hm hm2
  have H := hide h
  have HB := hide hb
  clear h hb
  go_enter Try.func7, Try.ntmps7
  go_wp2_with fail
  refine (awake_st _ H.out).mono ?_
  rintro e w1 ⟨rfl, h⟩
  have H1 := hide h
  clear H h
  by_cases h40 : 40 < ks.length
  · go_wp2_with fail
    go_ret
    exact ⟨rfl, H1.out⟩
  by_cases h3 : 1500 < bs.length
  · go_wp2_with fail
    go_ret
    exact ⟨rfl, H1.out⟩
  go_wp2_with fail
  refine (dec_st _ _ ks bs _ (by omega) HB.out (by omega) H1.out).mono ?_
  rintro e w2 ⟨x, rfl, h⟩
  obtain ⟨A2, c2, rfl, _, _⟩ := (h.getRows 0 rfl).slice
  have H2 := hide h
  clear H1 h
  by_cases h0 : decE ks bs = 0
  · have HE := hide (enc_dec ks bs HB.out h0)
    have hll := decL_length ks bs
    have H0 := hide h0
    rw [h0]
    clear h0
    generalize decL ks bs = fs at *
    go_wp2_with fail
    refine (enc_st _ fs _ (by omega) H2.out).mono ?_
    rintro e w3 ⟨y, rfl, h⟩
    rw [HE.out.1]
    rw [HE.out.2.1] at h
    obtain ⟨A3, c3, rfl⟩ := h.slice
    have H3 := hide (h.ints.del1)
    have H4 := hide (H3.out.emptyRow 5)
    have hemp := empty_u8
    clear H2 h
    go_wp2_with (first | (at_builtin; refine St.app_step u8_row H4.out rfl _ _ rfl rfl B bs.length d rfl (bv bs) (H4.out.get 3 rfl).sl.2.2.2 (bv_one _) (by omega) (by omega) ?_; intro A4 c4 w4 h4; simp only [Nat.zero_add, List.nil_append] at h4; have H5 := hide h4; clear h4; rw [Nat.zero_add]) | (at_builtin; refine St.app_step u8_row (H5.out.junk _) rfl _ _ rfl rfl (some ⟨w4.heap.size, 0, none⟩) 1 1 rfl [.int .u8 0] (sl_new1 _ _ _) (bv_one [0]) (by omega) (by omega) ?_; intro A5 c5 w5 h5; have H6 := hide h5; clear h5))
    have H7 := hide ((H6.out.row_eq rfl (bv_snoc bs 0).symm).ints.up2)
    clear H3 H4 H5 H6 hemp
    refine (dec_st _ _ ks (bs ++ [0]) _ (by omega) (HB.out.append (by intro x hx; simp at hx; subst hx; exact ⟨by omega, by omega⟩)) (by rw [List.length_append]; simp; omega) H7.out).mono ?_
    rintro e w6 ⟨z, rfl, h⟩
    rw [HE.out.2.2.1]
    obtain ⟨A6, c6, rfl, _, _⟩ := (h.getRows 0 rfl).slice
    have H8 := hide h.tail
    clear H7 h
    by_cases hneg : left < 0
    · go_wp2_with fail
      refine (same_true _ _ bs _ (H8.out.get 3 rfl) (H8.out.get 2 rfl) H8.out).mono ?_
      rintro e w7 ⟨rfl, h⟩
      clear H8
      go_wp2_with fail
      go_ret
      exact ⟨rfl, h.del1.del1⟩
    by_cases hbig : (bs.length : Int) ≤ left
    · go_wp2_with fail
      refine (same_true _ _ bs _ (H8.out.get 3 rfl) (H8.out.get 2 rfl) H8.out).mono ?_
      rintro e w7 ⟨rfl, h⟩
      clear H8
      go_wp2_with fail
      go_ret
      exact ⟨rfl, h.del1.del1⟩
    obtain ⟨n, rfl⟩ := Int.eq_ofNat_of_zero_le (show 0 ≤ left by omega)
    have hnd : (n : Int) ≤ (d : Int) := by omega
    have HC := hide (HE.out.2.2.2 n (by omega))
    have hnl : n < bs.length := by omega
    go_wp2_with fail
    refine (dec_st _ _ ks (bs.take n) _ (by omega) (HB.out.take n) (by rw [List.length_take]; omega) (((H8.out.copy 3 rfl).pers1 (R' := fun w' => Ints w' .u8 (.slice B n d) (bs.take n)) (fun w' h => h.cut (by omega))).swap)).mono ?_
    rintro e w7 ⟨z, rfl, h⟩
    rw [HC.out]
    obtain ⟨A7, c7, rfl, _, _⟩ := (h.getRows 0 rfl).slice
    have H9 := hide h.tail.del1
    clear H8 h HC
    go_wp2_with fail
    refine (same_true _ _ bs _ (H9.out.get 3 rfl) (H9.out.get 2 rfl) H9.out).mono ?_
    rintro e w8 ⟨rfl, h⟩
    clear H9
    go_wp2_with fail
    go_ret
    exact ⟨rfl, h.del1.del1⟩
  · have h0b := isN h0
    have e : decL ks bs = [] := by unfold decL; rw [if_neg h0]
    have he : (decL ks bs).length = 0 := by rw [e]; rfl
    rw [he]
    clear e he h0
    generalize decE ks bs = ec at *
    go_wp2_with fail
    go_ret
    exact ⟨rfl, H2.out.tail⟩

end Go.Proofs.Ytdhkklcjhbnnlaa
