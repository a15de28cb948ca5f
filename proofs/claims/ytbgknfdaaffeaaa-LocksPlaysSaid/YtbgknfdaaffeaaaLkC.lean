/- Locks: Cancel, Holders, Queue, Now, Last. -/
import Derived.Test.YtbgknfdaaffeaaaLkQ
namespace Go.Proofs.Ytbgknfdaaffeaaa
open Go.RowKit Go.Shelf

set_option maxHeartbeats 4000000 in
set_option maxRecDepth 100000 in
theorem cancel_st {M0 : Imm} {L : List Res} (g : Nat) (T : TabM) (c r : Int) (w : World) (hok : TabOk T) (h : St M0 w (tabR g T :: L)) :
    Calls Try.prog 65 #[.pointer (some ⟨g, 0, none⟩), .int .i64 c, .int .i64 r] w fun e w' => e = .returned (.int .i64 (T.cancel c r).2) ∧ St M0 w' (tabR g (T.cancel c r).1 :: L) := by
  have H := hide h
  obtain ⟨av, hav⟩ : ∃ av, av = T.cancel c r := ⟨_, rfl⟩
  rw [← hav]
  have HAV := hide hav
  have HOK := hide hok
  clear h hav hok
  go_enter Try.func65, Try.ntmps65
  go_wp2_with fail
  refine (right_st c r _ H.out).mono ?_
  rintro e w1 ⟨rfl, h1⟩
  by_cases hr : rightE c r = 0
  · have hb := rightE_ok hr
    rw [hr]
    obtain ⟨i, rfl⟩ := Int.eq_ofNat_of_zero_le hb.2.2.1
    have hi4 : i < 4 := by omega
    have HE := hide (HAV.out.trans (show T.cancel c (i : Int) = match findW (T.r i).w c with
      | some _ => ((T.setW i (dropW (T.r i).w c)).give i, 0)
      | none => (T, 41) from if_neg (by rw [hr]; simp)))
    obtain ⟨vs, h3⟩ := h1.tabO hi4
    obtain ⟨⟨A, n, cc⟩, ⟨B, m, d⟩, hvi⟩ : ∃ hv wv, vs i = ⟨hv, wv⟩ := ⟨_, _, rfl⟩
    have HVI := hide hvi
    rw [show (vs i).h = ⟨A, n, cc⟩ by rw [hvi], show (vs i).w = ⟨B, m, d⟩ by rw [hvi]] at h3
    have HTW := hide (show (tabC T.now T.last vs)[2 + i * 2 + 1]? = some (.slice B m d) by refine (tabC_w T.now T.last vs hi4).trans ?_; rw [hvi])
    have cw : w1.cell? ⟨g, 2 + i * 2 + 1, none⟩ = some (.slice B m d) := ((h3.blk 0 rfl).cell (2 + i * 2 + 1)).trans HTW.out
    have i0 : (0 : Int) ≤ (i : Int) := by omega
    have i1 : (i : Int) < 4 := by omega
    have H3 := hide h3
    clear h1 h3 H hvi hb hr
    go_wp2_with fail
    refine (wantAt_st g (2 + i * 2) B m d (T.r i).w c _ cw (fun W hW => hW.flatK (by (repeat (first | with_reducible exact At.here | with_reducible apply At.there)))) H3.out).mono ?_
    rintro e w2 ⟨rfl, h5⟩
    clear cw
    rcases idxL_find (fun w : WantM => w.c == c) (T.r i).w with ⟨hz, hf⟩ | ⟨k, x, hz, hk, _, hf, hd⟩
    · rw [hz]
      have E := hide (HE.out.trans (show _ = (T, (41 : Int)) by unfold findW; rw [hf]))
      have H5 := hide (h5.tabBack hi4 HVI.out)
      clear h5 H3 hz hf HE
      go_wp2_with fail
      go_ret
      exact ⟨by rw [E.out]; try rfl, by rw [E.out]; exact H5.out⟩
    · rw [hz]
      have E := hide (HE.out.trans (show _ = ((T.setW i (dropW (T.r i).w c)).give i, (0 : Int)) by unfold findW; rw [hf]))
      have hlk := (List.getElem?_eq_some_iff.1 hk).1
      obtain ⟨hmw, hmd, hdm, _⟩ := (h5.flatK (C := wantC) (size := 2) (v := .slice B m d) (xs := (T.r i).w) (by (repeat (first | with_reducible exact At.here | with_reducible apply At.there)))).sl
      have cw : w2.cell? ⟨g, 2 + i * 2 + 1, none⟩ = some (.slice B m d) := ((h5.blk 0 rfl).cell (2 + i * 2 + 1)).trans HTW.out
      have kn : decide ((k : Int) < 0) = false := decide_eq_false (by omega)
      have hw4 := HOK.out.wl i hi4
      have hm4 : m ≤ 4 := by omega
      obtain ⟨j, hj⟩ : ∃ j, j = k + 1 := ⟨_, rfl⟩
      have jw : IntKind.i64.wrap ((k : Int) + 1) = (j : Int) := by rw [hj, IntWalk.i64_in _ (by omega)]; omega
      have HD := hide (show dropW (T.r i).w c = (T.r i).w.eraseIdx k from hd)
      have HLK := hide hlk
      have HJ := hide hj
      have H5 := hide h5
      clear h5 H3 hz hf HE hk hd hlk hj hmw hw4
      go_wp2_with fail
      refine (wantClone_st B m d (T.r i).w _ (fun W hW => hW.flatK (by (repeat (first | with_reducible exact At.here | with_reducible apply At.there)))) (by omega) H5.out).mono ?_
      rintro e w3 ⟨v3, rfl, h6⟩
      obtain ⟨A3, c3, rfl, hc3⟩ := (h6.flatO At.here).value
      obtain ⟨m3, hm3⟩ : ∃ m3, m3 = (T.r i).w.length := ⟨_, rfl⟩
      rw [← hm3] at h6 hc3 ⊢
      have HM3 := hide hm3
      have H6 := hide h6
      clear h6 H5 cw kn hm3
      go_wp2_with fail
      refine (wantDel_st (T.r i).w A3 m3 c3 k j _ HJ.out HLK.out H6.out).mono ?_
      rintro e w4 ⟨q, hq, rfl, h7⟩
      have h8 := h7.ownKeep
      rw [← HD.out] at h8
      obtain ⟨vs2, hvs2⟩ : ∃ vs2, vs2 = upd vs i ⟨(vs i).h, ⟨A3, q, c3⟩⟩ := ⟨_, rfl⟩
      have cw : w4.cell? ⟨g, 2 + i * 2 + 1, none⟩ = some (.slice B m d) := ((h8.blkA (g := g) (t := 79) (cs := tabC T.now T.last vs) (by (repeat (first | with_reducible exact At.here | with_reducible apply At.there)))).cell (2 + i * 2 + 1)).trans HTW.out
      have f := (h8.blkA (g := g) (t := 79) (cs := tabC T.now T.last vs) (by (repeat (first | with_reducible exact At.here | with_reducible apply At.there)))).frozen
      have h9 := (h8.front (X := tabB g T.now T.last vs) (by (repeat (first | with_reducible exact At.here | with_reducible apply At.there)))).put_ (2 + i * 2 + 1) (.slice A3 q c3) (tabC T.now T.last vs2) (by rw [hvs2]; exact tabC_setw T.now T.last vs hi4 ⟨A3, q, c3⟩)
      have h10 := h9.sub (L' := tabB g T.now T.last vs2 :: holdsR ⟨A, n, cc⟩ (T.r i).h :: wantsR ⟨A3, q, c3⟩ (dropW (T.r i).w c) :: othT vs T.r i :: L) (by (repeat (first | with_reducible exact Sub.refl _ | (with_reducible apply Sub.take; focus (repeat (first | with_reducible exact At.here | with_reducible apply At.there))) | with_reducible apply Sub.drop)))
      rw [show (⟨A, n, cc⟩ : SlV) = (vs2 i).h by rw [hvs2, updT_same, HVI.out], show (⟨A3, q, c3⟩ : SlV) = (vs2 i).w by rw [hvs2, updT_same], show othT vs T.r i = othT vs2 T.r i from othT_congr (fun j hj => by rw [hvs2, updT_ne _ _ hj]) (fun _ _ => rfl)] at h10
      have H10 := hide h10
      clear h7 h8 h9 h10 H6 hvs2 hq jw
      go_wp2_with fail
      clear cw f
      refine (give_st g i T.now T.last T.r (T.r i).h (dropW (T.r i).w c) vs2 _ hi4 ⟨HOK.out.now0, HOK.out.now1⟩ ⟨HOK.out.last0, HOK.out.last1⟩ H10.out).mono ?_
      rintro e w5 ⟨rfl, h11⟩
      rw [← give_setW] at h11
      have H11 := hide h11
      clear h11 H10
      go_wp2_with fail
      go_ret
      exact ⟨by rw [E.out]; try rfl, by rw [E.out]; exact H11.out⟩
  · have E := hide (HAV.out.trans (show T.cancel c r = (T, rightE c r) from if_pos hr))
    obtain ⟨z, hz⟩ : ∃ z, z = rightE c r := ⟨_, rfl⟩
    rw [← hz] at hr E ⊢
    have b1 := isN hr
    have H1 := hide h1
    clear h1 H hz hr
    go_wp2_with fail
    go_ret
    exact ⟨by rw [E.out]; try rfl, by rw [E.out]; exact H1.out⟩
set_option maxHeartbeats 400000 in
theorem nowT_st {M0 : Imm} {L : List Res} (g : Nat) (T : TabM) (w : World) (h : St M0 w (tabR g T :: L)) : Calls Try.prog 43 #[.pointer (some ⟨g, 0, none⟩)] w fun e w' => e = .returned (.int .u64 T.now) ∧ St M0 w' (tabR g T :: L) := by
  obtain ⟨vs, h1⟩ := h.tabRaw
  have c0 : w.cell? ⟨g, 0, none⟩ = some (.int .u64 T.now) := (h1.blk 0 rfl).cell 0
  have H := hide h
  clear h h1
  go_enter Try.func43, Try.ntmps43
  go_wp2_with fail
  go_ret
  exact ⟨rfl, H.out⟩
set_option maxHeartbeats 400000 in
theorem lastT_st {M0 : Imm} {L : List Res} (g : Nat) (T : TabM) (w : World) (h : St M0 w (tabR g T :: L)) : Calls Try.prog 56 #[.pointer (some ⟨g, 0, none⟩)] w fun e w' => e = .returned (.int .u64 T.last) ∧ St M0 w' (tabR g T :: L) := by
  obtain ⟨vs, h1⟩ := h.tabRaw
  have c1 : w.cell? ⟨g, 1, none⟩ = some (.int .u64 T.last) := (h1.blk 0 rfl).cell 1
  have H := hide h
  clear h h1
  go_enter Try.func56, Try.ntmps56
  go_wp2_with fail
  go_ret
  exact ⟨rfl, H.out⟩
theorem there_ok {r : Int} (h : thereB r = true) : ∃ i : Nat, r = (i : Int) ∧ i < 4 := by
  unfold thereB at h
  simp at h
  exact ⟨r.toNat, by omega, by omega⟩
set_option maxHeartbeats 1000000 in
set_option maxRecDepth 100000 in
theorem holders_st {M0 : Imm} {L : List Res} (g : Nat) (T : TabM) (r : Int) (w : World) (hok : TabOk T) (h : St M0 w (tabR g T :: L)) : Calls Try.prog 42 #[.pointer (some ⟨g, 0, none⟩), .int .i64 r] w fun e w' => ∃ v, e = .returned v ∧ St M0 w' (keepR holdC 4 v (T.holders r) :: tabR g T :: L) := by
  have H := hide h
  have HOK := hide hok
  clear h hok
  go_enter Try.func42, Try.ntmps42
  go_wp2_with fail
  refine (there_st r _ H.out).mono ?_
  rintro e w1 ⟨rfl, h1⟩
  cases ht : thereB r with
  | false =>
    have E := hide (show T.holders r = [] from if_neg (by rw [ht]; exact Bool.false_ne_true))
    have H1 := hide (h1.keepNil holdC 4)
    clear h1 H ht
    go_wp2_with fail
    go_ret
    exact ⟨_, rfl, by rw [E.out]; exact H1.out⟩
  | true =>
    obtain ⟨i, rfl, hi4⟩ := there_ok ht
    have E := hide (show T.holders (i : Int) = (T.r i).h from if_pos ht)
    obtain ⟨vs, h3⟩ := h1.tabO hi4
    obtain ⟨⟨A, n, cc⟩, wv, hvi⟩ : ∃ hv wv, vs i = ⟨hv, wv⟩ := ⟨_, _, rfl⟩
    have HVI := hide hvi
    rw [show (vs i).h = ⟨A, n, cc⟩ by rw [hvi], show (vs i).w = wv by rw [hvi]] at h3
    have ch : w1.cell? ⟨g, 2 + i * 2, none⟩ = some (.slice A n cc) := ((h3.blk 0 rfl).cell (2 + i * 2)).trans (by refine (tabC_h T.now T.last vs hi4).trans ?_; rw [hvi])
    have hn := (h3.flatO (C := holdC) (e := 91) (size := 4) (v := .slice A n cc) (xs := (T.r i).h) (by (repeat (first | with_reducible exact At.here | with_reducible apply At.there)))).sl.1
    have hl4 := HOK.out.hl i hi4
    have hn4 : n ≤ 4 := by omega
    have i0 : (0 : Int) ≤ (i : Int) := by omega
    have i1 : (i : Int) < 4 := by omega
    have H3 := hide h3
    clear h1 h3 H hvi ht hn hl4
    go_wp2_with fail
    refine (holdClone_st A n cc (T.r i).h _ (fun W hW => hW.flatO (by (repeat (first | with_reducible exact At.here | with_reducible apply At.there)))) (by omega) H3.out).mono ?_
    rintro e w3 ⟨v3, rfl, h6⟩
    have h7 := h6.ownKeep.sub (L' := tabB g T.now T.last vs :: holdsR ⟨A, n, cc⟩ (T.r i).h :: wantsR wv (T.r i).w :: othT vs T.r i :: keepR holdC 4 v3 (T.r i).h :: L) (by (repeat (first | with_reducible exact Sub.refl _ | (with_reducible apply Sub.take; focus (repeat (first | with_reducible exact At.here | with_reducible apply At.there))) | with_reducible apply Sub.drop)))
    have H6 := hide (h7.tabBack hi4 HVI.out).swap
    clear h6 h7 H3 ch
    go_wp2_with fail
    go_ret
    exact ⟨_, rfl, by rw [E.out]; exact H6.out⟩
set_option maxHeartbeats 1000000 in
set_option maxRecDepth 100000 in
theorem queue_st {M0 : Imm} {L : List Res} (g : Nat) (T : TabM) (r : Int) (w : World) (hok : TabOk T) (h : St M0 w (tabR g T :: L)) : Calls Try.prog 40 #[.pointer (some ⟨g, 0, none⟩), .int .i64 r] w fun e w' => ∃ v, e = .returned v ∧ St M0 w' (keepR wantC 2 v (T.queue r) :: tabR g T :: L) := by
  have H := hide h
  have HOK := hide hok
  clear h hok
  go_enter Try.func40, Try.ntmps40
  go_wp2_with fail
  refine (there_st r _ H.out).mono ?_
  rintro e w1 ⟨rfl, h1⟩
  cases ht : thereB r with
  | false =>
    have E := hide (show T.queue r = [] from if_neg (by rw [ht]; exact Bool.false_ne_true))
    have H1 := hide (h1.keepNil wantC 2)
    clear h1 H ht
    go_wp2_with fail
    go_ret
    exact ⟨_, rfl, by rw [E.out]; exact H1.out⟩
  | true =>
    obtain ⟨i, rfl, hi4⟩ := there_ok ht
    have E := hide (show T.queue (i : Int) = (T.r i).w from if_pos ht)
    obtain ⟨vs, h3⟩ := h1.tabO hi4
    obtain ⟨hv, ⟨B, m, d⟩, hvi⟩ : ∃ hv wv, vs i = ⟨hv, wv⟩ := ⟨_, _, rfl⟩
    have HVI := hide hvi
    rw [show (vs i).h = hv by rw [hvi], show (vs i).w = ⟨B, m, d⟩ by rw [hvi]] at h3
    have cw : w1.cell? ⟨g, 2 + i * 2 + 1, none⟩ = some (.slice B m d) := ((h3.blk 0 rfl).cell (2 + i * 2 + 1)).trans (by refine (tabC_w T.now T.last vs hi4).trans ?_; rw [hvi])
    have hn := (h3.flatK (C := wantC) (size := 2) (v := .slice B m d) (xs := (T.r i).w) (by (repeat (first | with_reducible exact At.here | with_reducible apply At.there)))).sl.1
    have hl4 := HOK.out.wl i hi4
    have hn4 : m ≤ 4 := by omega
    have i0 : (0 : Int) ≤ (i : Int) := by omega
    have i1 : (i : Int) < 4 := by omega
    have H3 := hide h3
    clear h1 h3 H hvi ht hn hl4
    go_wp2_with fail
    refine (wantClone_st B m d (T.r i).w _ (fun W hW => hW.flatK (by (repeat (first | with_reducible exact At.here | with_reducible apply At.there)))) (by omega) H3.out).mono ?_
    rintro e w3 ⟨v3, rfl, h6⟩
    have h7 := h6.ownKeep.sub (L' := tabB g T.now T.last vs :: holdsR hv (T.r i).h :: wantsR ⟨B, m, d⟩ (T.r i).w :: othT vs T.r i :: keepR wantC 2 v3 (T.r i).w :: L) (by (repeat (first | with_reducible exact Sub.refl _ | (with_reducible apply Sub.take; focus (repeat (first | with_reducible exact At.here | with_reducible apply At.there))) | with_reducible apply Sub.drop)))
    have H6 := hide (h7.tabBack hi4 HVI.out).swap
    clear h6 h7 H3 cw
    go_wp2_with fail
    go_ret
    exact ⟨_, rfl, by rw [E.out]; exact H6.out⟩
end Go.Proofs.Ytbgknfdaaffeaaa
