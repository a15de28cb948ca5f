/- Locks: a table is the document's. -/
import Derived.Test.YtbgknfdaaffeaaaLkDo
import Derived.Test.YtbgknfdaaffeaaaLkW
namespace Go.Proofs.Ytbgknfdaaffeaaa
open Go.RowKit Go.Shelf

theorem asked_len {T : TabM} (h : TabOk T) {i : Nat} (hi : i < 4) : (T.asked (i : Int)).length ≤ 4 := by
  unfold TabM.asked
  split
  · split
    · exact Nat.zero_le _
    · rw [List.length_map]
      exact Nat.le_trans (List.length_filter_le _ _) (by rw [Int.toNat_natCast]; exact h.hl i hi)
  · exact Nat.zero_le _
set_option maxHeartbeats 4000000 in
set_option maxRecDepth 100000 in
theorem sameL_st {M0 : Imm} {L : List Res} (g gd : Nat) (T : TabM) (w : World) (hok : TabOk T) (hreg : ∀ i, i < 4 → RegOk (T.r i)) (h : St M0 w (tabR g T :: docR gd T :: L)) :
    Calls Try.prog 60 #[.pointer (some ⟨g, 0, none⟩), .pointer (some ⟨gd, 0, none⟩)] w fun e w' => e = .returned (.bool true) ∧ St M0 w' (tabR g T :: docR gd T :: L) := by
  have H := hide h
  have HOK := hide hok
  have HREG := hide hreg
  clear h hok hreg
  go_enter Try.func60, Try.ntmps60
  go_wp2_with fail
  refine (nowT_st g T _ H.out).mono ?_
  rintro e w1 ⟨rfl, h1⟩
  have H1 := hide h1
  clear h1 H
  go_wp2_with fail
  refine (lastT_st g T _ H1.out).mono ?_
  rintro e w2 ⟨rfl, h2⟩
  obtain ⟨vs, h3⟩ := h2.swap.docO
  have c0 : w2.cell? ⟨gd, 0, none⟩ = some (.int .u64 T.now) := (h3.blk 0 rfl).cell 0
  have c1 : w2.cell? ⟨gd, 1, none⟩ = some (.int .u64 T.last) := (h3.blk 0 rfl).cell 1
  have H3 := hide (h3.sub (L' := tabR g T :: docB gd T.now T.last vs :: docS vs T.r :: L) (by (repeat (first | with_reducible exact Sub.refl _ | (with_reducible apply Sub.take; focus (repeat (first | with_reducible exact At.here | with_reducible apply At.there))) | with_reducible apply Sub.drop))))
  clear h2 h3 H1
  go_wp2_with fail
  clear c0 c1
  go_loopg [7] 4 (fun gh iv wr => ∃ (i : Nat), gh = 4 - i ∧ i ≤ 4 ∧ iv = .int .i64 (i : Nat) ∧ St M0 wr (tabR g T :: docR gd T :: L))
  case atStart => exact ⟨0, rfl, by omega, rfl, ((H3.out.sub (L' := docB gd T.now T.last vs :: docS vs T.r :: tabR g T :: L) (by (repeat (first | with_reducible exact Sub.refl _ | (with_reducible apply Sub.take; focus (repeat (first | with_reducible exact At.here | with_reducible apply At.there))) | with_reducible apply Sub.drop)))).docCl).swap⟩
  case round =>
    clear H3
    obtain ⟨i, hgh, hi, rfl, h⟩ := hrel
    have HG := hide hgh
    clear hgh
    by_cases hi4 : i < 4
    · obtain ⟨vs, h0⟩ := h.swap.docO
      have H1 := hide (h0.sub (L' := tabR g T :: docB gd T.now T.last vs :: docS vs T.r :: L) (by (repeat (first | with_reducible exact Sub.refl _ | (with_reducible apply Sub.take; focus (repeat (first | with_reducible exact At.here | with_reducible apply At.there))) | with_reducible apply Sub.drop))))
      clear h h0
      obtain ⟨⟨A, n, c⟩, ⟨B, m, d⟩, hvi⟩ : ∃ hv wv, vs i = ⟨hv, wv⟩ := ⟨_, _, rfl⟩
      have HTH := hide (show (docC T.now T.last vs)[2 + i]? = some (.slice A n c) by refine (docC_h T.now T.last vs hi4).trans ?_; rw [hvi])
      have HTW := hide (show (docC T.now T.last vs)[6 + i]? = some (.slice B m d) by refine (docC_w T.now T.last vs hi4).trans ?_; rw [hvi])
      have HV := hide (show ∀ W, docP vs T.r W → FlatP holdC 4 W (.slice A n c) (T.r i).h ∧ FlatP wantC 2 W (.slice B m d) (T.r i).w from fun W hW => by
        have := hW i hi4
        rw [hvi] at this
        exact this)
      have i0 : (0 : Int) ≤ (i : Int) := by omega
      have i1 : (i : Int) < 4 := by omega
      clear hvi
      go_wp2_with fail
      refine (holders_st g T i _ HOK.out H1.out).mono ?_
      rintro e w3 ⟨v1, rfl, h⟩
      rw [holders_nat T hi4] at h
      obtain ⟨A1, c1, rfl, _⟩ := (h.flatK At.here).value
      have hn1 : (T.r i).h.length = n := ((HV.out _ (h.get 3 rfl)).1.sl.1).symm
      have hm1 : (T.r i).w.length = m := ((HV.out _ (h.get 3 rfl)).2.sl.1).symm
      rw [hn1] at h ⊢
      have H2 := hide (h.sub (L' := tabR g T :: keepR holdC 4 (.slice A1 n c1) (T.r i).h :: docB gd T.now T.last vs :: docS vs T.r :: L) (by (repeat (first | with_reducible exact Sub.refl _ | (with_reducible apply Sub.take; focus (repeat (first | with_reducible exact At.here | with_reducible apply At.there))) | with_reducible apply Sub.drop))))
      clear h H1 hn1
      go_wp2_with fail
      refine (queue_st g T i _ HOK.out H2.out).mono ?_
      rintro e w4 ⟨v2, rfl, h⟩
      rw [queue_nat T hi4] at h
      obtain ⟨A2, c2, rfl, _⟩ := (h.flatK At.here).value
      rw [hm1] at h ⊢
      have H3 := hide (h.sub (L' := tabR g T :: keepR wantC 2 (.slice A2 m c2) (T.r i).w :: keepR holdC 4 (.slice A1 n c1) (T.r i).h :: docB gd T.now T.last vs :: docS vs T.r :: L) (by (repeat (first | with_reducible exact Sub.refl _ | (with_reducible apply Sub.take; focus (repeat (first | with_reducible exact At.here | with_reducible apply At.there))) | with_reducible apply Sub.drop))))
      clear h H2 hm1
      go_wp2_with fail
      refine (asked_st g T i _ HOK.out H3.out).mono ?_
      rintro e w5 ⟨v3, rfl, h⟩
      have H4 := hide (h.sub (L' := docB gd T.now T.last vs :: keepR holdC 4 (.slice A1 n c1) (T.r i).h :: keepR wantC 2 (.slice A2 m c2) (T.r i).w :: intsR .i64 v3 (T.asked (i : Int)) :: tabR g T :: docS vs T.r :: L) (by (repeat (first | with_reducible exact Sub.refl _ | (with_reducible apply Sub.take; focus (repeat (first | with_reducible exact At.here | with_reducible apply At.there))) | with_reducible apply Sub.drop))))
      have ch : w5.cell? ⟨gd, 2 + i, none⟩ = some (.slice A n c) := ((H4.out.blk 0 rfl).cell (2 + i)).trans HTH.out
      clear h H3
      go_wp2_with fail
      refine (holdsEq_st A1 A n c1 c (T.r i).h _ (fun W hW => hW.flatK (by (repeat (first | with_reducible exact At.here | with_reducible apply At.there)))) (fun W hW => (HV.out _ (hW.get 5 rfl)).1) H4.out).mono ?_
      rintro e w6 ⟨rfl, h⟩
      have cw : w6.cell? ⟨gd, 6 + i, none⟩ = some (.slice B m d) := ((h.blk 0 rfl).cell (6 + i)).trans HTW.out
      have H5 := hide h
      clear h H4 ch
      go_wp2_with fail
      refine (wantsEq_st A2 B m c2 d (T.r i).w _ (fun W hW => hW.flatK (by (repeat (first | with_reducible exact At.here | with_reducible apply At.there)))) (fun W hW => (HV.out _ (hW.get 5 rfl)).2) H5.out).mono ?_
      rintro e w7 ⟨rfl, h⟩
      have H6 := hide (St.docCl (h.sub (L' := docB gd T.now T.last vs :: docS vs T.r :: intsR .i64 v3 (T.asked (i : Int)) :: tabR g T :: L) (by (repeat (first | with_reducible exact Sub.refl _ | (with_reducible apply Sub.take; focus (repeat (first | with_reducible exact At.here | with_reducible apply At.there))) | with_reducible apply Sub.drop)))))
      clear h H5 cw
      go_wp2_with fail
      refine (rasked_st gd T i _ HREG.out H6.out).mono ?_
      rintro e w8 ⟨v4, rfl, h⟩
      have hal := asked_len HOK.out hi4
      have H7 := hide h
      clear h H6
      go_wp2_with fail
      refine (nums_st v3 v4 (T.asked (i : Int)) (T.asked (i : Int)) _ (H7.out.get 2 rfl) (H7.out.get 0 rfl) (by omega) (by omega) H7.out).mono ?_
      rintro e w9 ⟨rfl, h⟩
      rw [decide_eq_true rfl]
      have H8 := hide (h.sub (L' := tabR g T :: docR gd T :: L) (by (repeat (first | with_reducible exact Sub.refl _ | (with_reducible apply Sub.take; focus (repeat (first | with_reducible exact At.here | with_reducible apply At.there))) | with_reducible apply Sub.drop))))
      clear h H7
      go_wp2_with fail
      go_roundg (4 - (i + 1))
      case measure => have := HG.out; omega
      case rel => exact ⟨i + 1, rfl, by omega, by go_num, H8.out⟩
    · obtain rfl : i = 4 := by omega
      have H1 := hide h
      clear h
      go_wp2_with fail
      refine (holders_st g T 4 _ HOK.out H1.out).mono ?_
      rintro e w3 ⟨v1, rfl, h⟩
      rw [show T.holders 4 = [] from rfl] at h
      obtain ⟨A1, c1, rfl, _⟩ := (h.flatK At.here).value
      have H2 := hide h.tail
      clear h H1
      go_wp2_with fail
      refine (queue_st g T (-1) _ HOK.out H2.out).mono ?_
      rintro e w4 ⟨v2, rfl, h⟩
      rw [show T.queue (-1) = [] from rfl] at h
      obtain ⟨A2, c2, rfl, _⟩ := (h.flatK At.here).value
      have H3 := hide h.tail
      clear h H2
      go_wp2_with fail
      refine (asked_st g T 4 _ HOK.out H3.out).mono ?_
      rintro e w5 ⟨v3, rfl, h⟩
      rw [show T.asked 4 = [] from rfl] at h
      obtain ⟨A3, c3, rfl, _⟩ := h.get 0 rfl
      have H4 := hide h.tail
      clear h H3
      go_wp2_with fail
      go_ret
      exact ⟨rfl, H4.out⟩
end Go.Proofs.Ytbgknfdaaffeaaa
