/- Locks: Release, Renew, Cancel. -/
import Derived.Test.YtbgknfdaaffeaaaLkA
namespace Go.Proofs.Ytbgknfdaaffeaaa
open Go.RowKit Go.Shelf

set_option maxHeartbeats 4000000 in
set_option maxRecDepth 100000 in
theorem release_st {M0 : Imm} {L : List Res} (g : Nat) (T : TabM) (c r t : Int) (w : World) (hok : TabOk T) (h : St M0 w (tabR g T :: L)) :
    Calls Try.prog 51 #[.pointer (some ⟨g, 0, none⟩), .int .i64 c, .int .i64 r, .int .u64 t] w fun e w' => e = .returned (.int .i64 (T.release c r t).2) ∧ St M0 w' (tabR g (T.release c r t).1 :: L) := by
  have H := hide h
  obtain ⟨av, hav⟩ : ∃ av, av = T.release c r t := ⟨_, rfl⟩
  rw [← hav]
  have HAV := hide hav
  have HOK := hide hok
  clear h hav hok
  go_enter Try.func51, Try.ntmps51
  go_wp2_with fail
  refine (held_st g T c r t _ H.out).mono ?_
  rintro e w1 ⟨p, rfl, hno, hyes⟩
  by_cases he : T.heldE c r t = 0
  · obtain ⟨i, k, x, vs, b, n, cc, hi4, rfl, hz, hk, hxt, hvh, rfl, h1⟩ := hyes he
    have HE := hide (HAV.out.trans (show T.release c (i : Int) t = ((T.setH i (dropH (T.r i).h c)).give i, 0) from if_neg (by rw [he]; simp)))
    rw [he]
    rw [hvh] at h1
    have HVH := hide hvh
    have HTH := hide (show (tabC T.now T.last vs)[2 + i * 2]? = some (.slice (some ⟨b, 0, none⟩) n cc) by refine (tabC_h T.now T.last vs hi4).trans ?_; rw [hvh])
    have ch : w1.cell? ⟨g, 2 + i * 2, none⟩ = some (.slice (some ⟨b, 0, none⟩) n cc) := ((h1.blk 0 rfl).cell (2 + i * 2)).trans HTH.out
    have i0 : (0 : Int) ≤ (i : Int) := by omega
    have i1 : (i : Int) < 4 := by omega
    have H1 := hide h1
    have HZ := hide hz
    have HK := hide hk
    clear h1 H hno hyes he hz hk hxt hvh
    go_wp2_with fail
    refine (holdAt_st g (2 + i * 2) (some ⟨b, 0, none⟩) n cc (T.r i).h c _ ch (fun W hW => hW.flatO (by (repeat (first | with_reducible exact At.here | with_reducible apply At.there)))) H1.out).mono ?_
    rintro e w2 ⟨rfl, h2⟩
    rw [HZ.out]
    have hlk := (List.getElem?_eq_some_iff.1 HK.out).1
    have hdrop : dropH (T.r i).h c = (T.r i).h.eraseIdx k := by
      rcases idxL_find (fun h : HoldM => h.c == c) (T.r i).h with ⟨a, _⟩ | ⟨k', x', a, _, _, _, d⟩
      · have := HZ.out; omega
      · have e : k = k' := by have := HZ.out; omega
        rw [e]
        exact d
    have hl4 := HOK.out.hl i hi4
    obtain ⟨j, hj⟩ : ∃ j, j = k + 1 := ⟨_, rfl⟩
    have jw : IntKind.i64.wrap ((k : Int) + 1) = (j : Int) := by rw [hj, IntWalk.i64_in _ (by omega)]; omega
    clear ch
    have ch : w2.cell? ⟨g, 2 + i * 2, none⟩ = some (.slice (some ⟨b, 0, none⟩) n cc) := ((h2.blk 0 rfl).cell (2 + i * 2)).trans HTH.out
    have H2 := hide (h2.front (X := ownR holdC 91 4 (.slice (some ⟨b, 0, none⟩) n cc) (T.r i).h) (by (repeat (first | with_reducible exact At.here | with_reducible apply At.there))))
    have HJ := hide hj
    have HD := hide hdrop
    clear h2 H1 hj hdrop hl4
    go_wp2_with fail
    refine (holdDel_st (T.r i).h (some ⟨b, 0, none⟩) n cc k j _ HJ.out hlk H2.out).mono ?_
    rintro e w3 ⟨q, hq, rfl, h3⟩
    obtain ⟨vs2, hvs2⟩ : ∃ vs2, vs2 = upd vs i ⟨⟨some ⟨b, 0, none⟩, q, cc⟩, (vs i).w⟩ := ⟨_, rfl⟩
    clear ch jw
    have ch : w3.cell? ⟨g, 2 + i * 2, none⟩ = some (.slice (some ⟨b, 0, none⟩) n cc) := ((h3.blkA (g := g) (t := 79) (cs := tabC T.now T.last vs) (by (repeat (first | with_reducible exact At.here | with_reducible apply At.there)))).cell (2 + i * 2)).trans HTH.out
    have f := (h3.blkA (g := g) (t := 79) (cs := tabC T.now T.last vs) (by (repeat (first | with_reducible exact At.here | with_reducible apply At.there)))).frozen
    have h9 := (h3.front (X := tabB g T.now T.last vs) (by (repeat (first | with_reducible exact At.here | with_reducible apply At.there)))).put_ (2 + i * 2) (.slice (some ⟨b, 0, none⟩) q cc) (tabC T.now T.last vs2) (by rw [hvs2]; exact tabC_seth T.now T.last vs hi4 ⟨some ⟨b, 0, none⟩, q, cc⟩)
    have h10 := h9.sub (L' := tabB g T.now T.last vs2 :: holdsR ⟨some ⟨b, 0, none⟩, q, cc⟩ ((T.r i).h.eraseIdx k) :: wantsR (vs i).w (T.r i).w :: othT vs T.r i :: L) (by (repeat (first | with_reducible exact Sub.refl _ | (with_reducible apply Sub.take; focus (repeat (first | with_reducible exact At.here | with_reducible apply At.there))) | with_reducible apply Sub.drop)))
    rw [← HD.out, show (⟨some ⟨b, 0, none⟩, q, cc⟩ : SlV) = (vs2 i).h by rw [hvs2, updT_same], show (vs i).w = (vs2 i).w by rw [hvs2, updT_same], show othT vs T.r i = othT vs2 T.r i from othT_congr (fun j hj => by rw [hvs2, updT_ne _ _ hj]) (fun _ _ => rfl)] at h10
    have H10 := hide h10
    clear h3 h9 h10 H2 hvs2 hq
    go_wp2_with fail
    clear ch f
    refine (give_st g i T.now T.last T.r (dropH (T.r i).h c) (T.r i).w vs2 _ hi4 ⟨HOK.out.now0, HOK.out.now1⟩ ⟨HOK.out.last0, HOK.out.last1⟩ H10.out).mono ?_
    rintro e w4 ⟨rfl, h11⟩
    rw [← give_setH] at h11
    have H11 := hide h11
    clear h11 H10
    go_wp2_with fail
    go_ret
    exact ⟨by rw [HE.out]; try rfl, by rw [HE.out]; exact H11.out⟩
  · have h1 := hno he
    have E := hide (HAV.out.trans (show T.release c r t = (T, T.heldE c r t) from if_pos he))
    obtain ⟨z, hz⟩ : ∃ z, z = T.heldE c r t := ⟨_, rfl⟩
    rw [← hz] at he E ⊢
    have b1 := isN he
    have H1 := hide h1
    clear h1 H hz he hno hyes
    go_wp2_with fail
    go_ret
    exact ⟨by rw [E.out]; try rfl, by rw [E.out]; exact H1.out⟩
theorem renewH_set : ∀ (hs : List HoldM) (c u : Int) (k : Nat) (x : HoldM), hs[k]? = some x → (x.c == c) = true → (hs.take k).any (fun h => h.c == c) = false → renewH hs c u = hs.set k ⟨x.c, x.m, x.t, u⟩
  | [], _, _, k, x, h, _, _ => by simp at h
  | y :: r, c, u, 0, x, h, hx, _ => by
    obtain rfl : y = x := by simpa using h
    unfold renewH
    rw [if_pos hx]
    rfl
  | y :: r, c, u, k + 1, x, h, hx, hp => by
    rw [List.take_succ_cons, List.any_cons, Bool.or_eq_false_iff] at hp
    unfold renewH
    rw [if_neg (by rw [hp.1]; exact Bool.false_ne_true), renewH_set r c u k x (by simpa using h) hx hp.2]
    rfl
set_option maxHeartbeats 4000000 in
set_option maxRecDepth 100000 in
theorem renew_st {M0 : Imm} {L : List Res} (g : Nat) (T : TabM) (c r t : Int) (w : World) (hok : TabOk T) (h : St M0 w (tabR g T :: L)) :
    Calls Try.prog 47 #[.pointer (some ⟨g, 0, none⟩), .int .i64 c, .int .i64 r, .int .u64 t] w fun e w' => e = .returned (.tuple #[.int .u64 (T.renew c r t).2.1, .int .i64 (T.renew c r t).2.2]) ∧ St M0 w' (tabR g (T.renew c r t).1 :: L) := by
  have H := hide h
  obtain ⟨av, hav⟩ : ∃ av, av = T.renew c r t := ⟨_, rfl⟩
  rw [← hav]
  have HAV := hide hav
  have HOK := hide hok
  clear h hav hok
  go_enter Try.func47, Try.ntmps47
  go_wp2_with fail
  refine (held_st g T c r t _ H.out).mono ?_
  rintro e w1 ⟨p, rfl, hno, hyes⟩
  by_cases he : T.heldE c r t = 0
  · obtain ⟨i, k, x, vs, b, n, cc, hi4, rfl, hz, hk, hxt, hvh, rfl, h1⟩ := hyes he
    obtain ⟨u, hu⟩ : ∃ u, u = untilI T.now := ⟨_, rfl⟩
    have hren : renewH (T.r i).h c u = (T.r i).h.set k ⟨x.c, x.m, x.t, u⟩ := by
      rcases idxL_spec (fun h : HoldM => h.c == c) (T.r i).h 0 with ⟨a, _⟩ | ⟨k', x', a, hk', hp, hpre⟩
      · omega
      · have e : k = k' := by omega
        subst e
        rw [hk] at hk'
        obtain rfl : x = x' := by simpa using hk'
        exact renewH_set _ c u k x hk hp hpre
    have HE := hide (HAV.out.trans (show T.renew c (i : Int) t = (T.setH i (renewH (T.r i).h c u), u, 0) by rw [hu]; exact if_neg (by rw [he]; simp)))
    rw [he]
    rw [hvh] at h1
    have c0 : w1.cell? ⟨g, 0, none⟩ = some (.int .u64 T.now) := (h1.blk 0 rfl).cell 0
    have hlk := (List.getElem?_eq_some_iff.1 hk).1
    have HR := hide hren
    have HU := hide hu
    have HVH := hide hvh
    have H1 := hide h1
    have HK := hide hk
    clear h1 H hno hyes he hz hk hxt hvh hren hu
    go_wp2_with fail
    refine (until_st g T.now _ HOK.out.now0 HOK.out.now1 c0 H1.out).mono ?_
    rintro e w2 ⟨rfl, h2⟩
    rw [← HU.out]
    obtain ⟨h3, hc1, hc2⟩ := (h2.front (X := ownR holdC 91 4 (.slice (some ⟨b, 0, none⟩) n cc) (T.r i).h) (by (repeat (first | with_reducible exact At.here | with_reducible apply At.there)))).ownSet holdC_len (k := k) (j := 3) (x := x) (y := ⟨x.c, x.m, x.t, u⟩) (u := .int .u64 u) HK.out (by omega) rfl
    obtain ⟨y0, hc3⟩ := Option.isSome_iff_exists.1 hc1
    rw [← HR.out] at h3
    have H3 := hide (h3.sub (L' := tabB g T.now T.last vs :: holdsR ⟨some ⟨b, 0, none⟩, n, cc⟩ (renewH (T.r i).h c u) :: wantsR (vs i).w (T.r i).w :: othT vs T.r i :: L) (by (repeat (first | with_reducible exact Sub.refl _ | (with_reducible apply Sub.take; focus (repeat (first | with_reducible exact At.here | with_reducible apply At.there))) | with_reducible apply Sub.drop))))
    clear h2 h3 H1 hc1 c0
    go_wp2_with fail
    go_ret2
    refine ⟨by rw [HE.out]; try rfl, ?_⟩
    rw [HE.out]
    refine St.tabV (vs := vs) hi4 (by rw [← HVH.out]) (fun _ _ => rfl) H3.out
  · have h1 := hno he
    have E := hide (HAV.out.trans (show T.renew c r t = (T, 0, T.heldE c r t) from if_pos he))
    obtain ⟨z, hz⟩ : ∃ z, z = T.heldE c r t := ⟨_, rfl⟩
    rw [← hz] at he E ⊢
    have b1 := isN he
    have H1 := hide h1
    clear h1 H hz he hno hyes
    go_wp2_with fail
    go_ret2
    exact ⟨by rw [E.out]; try rfl, by rw [E.out]; exact H1.out⟩
end Go.Proofs.Ytbgknfdaaffeaaa
