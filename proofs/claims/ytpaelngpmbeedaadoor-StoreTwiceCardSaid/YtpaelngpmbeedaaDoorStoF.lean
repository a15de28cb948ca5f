/- StoreTwice: the law's walk. Printed by gen_stf.py out of stf.in. -/
import Derived.Test.YtpaelngpmbeedaaDoorStoE
namespace Go.Proofs.YtpaelngpmbeedaaDoor
open Go.RowKit

/-- done twice, it is answered alike -/
theorem ans_twice {m : Nat → Rg} {r : RQ} (h : (checkI m r).2 = 0) : (checkI (doM m r) r).2 = 0 ∧ ansM (doM m r) r = ansM m r := by
  have h2 := once_eq m r h
  refine ⟨h2, ?_⟩
  unfold ansM
  rw [h, h2]
  congr 1
  unfold doO
  rw [if_pos h2, if_pos h, once_mq]
set_option maxHeartbeats 16000000 in
set_option maxRecDepth 100000 in
theorem twice_st {M0 : Imm} {L : List Res} (hT : Tbl M0) (v : Value) (l : List RQ) (w : World) (hb : ∀ x ∈ l, Bytes x.data) (h : St M0 w (rowsR 6 ReqR v l :: L)) :
    Calls Tryd.prog 4 #[v] w fun e w' => e = .returned (.bool true) ∧ St M0 w' L := by
  obtain ⟨A, c, rfl, hc, hcm⟩ := (h.getRows 0 rfl).slice
  generalize hn : l.length = n at *
  have HN := hide hn
  have HB := hide hb
  have H := hide h
  clear hn h hb
  go_enter Tryd.func4, Tryd.ntmps4
  go_wp2_with fail
  refine (awake23_st hT _ H.out).mono ?_
  rintro e w1 ⟨rfl, h⟩
  have H1 := hide h
  clear h H
  go_wp2_with fail
  refine (begun_st hT _ H1.out).mono ?_
  rintro e w2 ⟨gd, g, gs, gj, gi, rfl, h⟩
  have H2 := hide h
  clear h H1
  by_cases t0 : 20 < n
  · have dt0 : decide ((20 : Int) < (n : Int)) = true := decide_eq_true (by omega)
    go_wp2_with fail
    go_ret
    exact ⟨rfl, H2.out.tail.tail.tail.tail.tail.tail⟩
  have dt0 : decide ((20 : Int) < (n : Int)) = false := decide_eq_false (by omega)
  go_wp2_with fail
  clear dt0
  go_loopg [6] n (fun gh i wr => ∃ (k : Nat) (s : SM), gh = n - k ∧ k ≤ n ∧ i = .int .i64 (k : Nat) ∧ Up s 0 8 (10 + 6 * (k : Int)) 1 ∧ NF s.D ∧ St M0 wr (blkR g 96 (stoC 2 gd (.pointer (some ⟨gs, 0, none⟩))) :: srvR gs gd gj gi 0 8 s (rowsR 6 ReqR (.slice A n c) l :: L)))
  case atStart => exact ⟨0, st0, rfl, by omega, rfl, st0_up.2.2.1, st0_up.2.2.2, H2.out⟩
  case round =>
    clear H2
    obtain ⟨k, s, hg, hk, rfl, hU, hN, h⟩ := hrel
    have HG := hide hg
    have HU := hide hU
    have HNF := hide hN
    clear hg hU hN
    by_cases hlt : k < n
    · have hx := List.getElem?_eq_getElem (l := l) (i := k) (by rw [HN.out]; exact hlt)
      generalize l[k]'(by rw [HN.out]; exact hlt) = x at hx
      obtain ⟨ad, B1, d1, rfl, hxo, h1⟩ := h.req 5 rfl hx
      have HXB := hide (HB.out x (List.mem_of_getElem? hx))
      have HXO := hide hxo
      have HKK := hide (show k < 20 by omega)
      obtain ⟨e0, e1, e2, e3, e4, e5⟩ := cells6 (h1.get 0 rfl).1
      have wk : IntKind.u64.wrap (k : Int) = (k : Int) := IntWalk.u64_in _ (by omega)
      have HX := hide ((h1.pers1 (R' := fun w' => Ints w' .u8 (.slice B1 x.data.length d1) x.data) (fun w' hi => hi.2)).sub (L' := intsR .u8 (.slice B1 x.data.length d1) x.data :: blkR g 96 (stoC 2 gd (.pointer (some ⟨gs, 0, none⟩))) :: srvR gs gd gj gi 0 8 s (rowsR 6 ReqR (.slice (some ad) n c) l :: L)) (by unfold srvR; (repeat (first | with_reducible exact Sub.refl _ | (with_reducible apply Sub.take; focus (repeat (first | with_reducible exact At.here | with_reducible apply At.there))) | with_reducible apply Sub.drop))))
      clear hx h h1 hxo
      by_cases hw : x.wrong = 0
      · have HW := hide hw
        clear hw
        go_wp2_with fail
        refine (ask_ok 1 2 (k : Nat) x B1 x.data.length d1 _ HXO.out HW.out HX.out).mono ?_
        rintro e w3 ⟨A2, c2, rfl, h⟩
        generalize hnq : (encQ x).length = nq at *
        clear hnq
        have h3 := h.alloc 51 (msgC 11 1 2 (k : Nat) false (.slice A2 nq c2))
        obtain ⟨g3, hg3⟩ : ∃ g3, g3 = w3.heap.size := ⟨_, rfl⟩
        have HG3 := hide hg3
        obtain ⟨m0, m1', m2, m3, m4, m5, m6, m7, m8, m9⟩ := (h3.blk 0 rfl).ten
        rw [← hg3] at h3
        have H3 := hide h3
        clear h h3 HX hg3 e0 e1 e2 e3 e4 e5
        go_wp2_with fail
        refine (hear_live hT g gs gd gj gi 2 1 (k : Nat) false s (10 + 6 * (k : Int)) 1 x A2 nq c2 _ HU.out HNF.out (by have := HKK.out; omega) (by omega) HXO.out HXB.out HW.out ((H3.out.copyA (Q := fun w => Ints w .u8 (.slice A2 nq c2) (encQ x)) (by (repeat (first | with_reducible exact At.here | with_reducible apply At.there)))).sub (L' := intsR .u8 (.slice A2 nq c2) (encQ x) :: blkR g 96 (stoC 2 gd (.pointer (some ⟨gs, 0, none⟩))) :: srvR gs gd gj gi 0 8 s (intsR .u8 (.slice A2 nq c2) (encQ x) :: blkR g3 51 (msgC 11 1 2 (k : Nat) false (.slice A2 nq c2)) :: rowsR 6 ReqR (.slice (some ad) n c) l :: L)) (by unfold srvR; (repeat (first | with_reducible exact Sub.refl _ | (with_reducible apply Sub.take; focus (repeat (first | with_reducible exact At.here | with_reducible apply At.there))) | with_reducible apply Sub.drop))))).mono ?_
        rintro e w4 ⟨ga, A3, c3, rfl, hU1, hN1, hM1, h⟩
        generalize s.doS 0 8 x = s1 at *
        have HTW := hide (ans_twice (m := s.M) (r := x))
        have HON := hide (once_mq s.M x)
        rw [← hM1] at HTW HON
        have HU1 := hide hU1
        have HN1 := hide hN1
        obtain ⟨M1, D1, J1, dn1⟩ := s1
        have hMk : MI M1 := hU1.mi
        have HMk := hide hMk
        have HTW : Hid ((checkI s.M x).2 = 0 → (checkI M1 x).2 = 0 ∧ ansM M1 x = ansM s.M x) := HTW
        have HON : Hid (doM M1 x = M1) := HON
        generalize hoa : ((checkI s.M x).2 == 0) = oa at *
        generalize hda : ansM s.M x = da at *
        have HOA := hide hoa
        generalize hnda : da.length = nda at *
        have HND := hide hnda
        have h : St M0 w4 (blkR ga 51 (msgC 12 2 1 (k : Nat) oa (.slice A3 nda c3)) :: intsR .u8 (.slice A3 nda c3) da :: blkR g 96 (stoC 2 gd (.pointer (some ⟨gs, 0, none⟩))) :: blkR gs 76 (srvC gd gj gi 0 8 dn1) :: jR gj gd J1 :: imgR gi M1 :: dsR gd D1 :: intsR .u8 (.slice A2 nq c2) (encQ x) :: blkR g3 51 (msgC 11 1 2 (k : Nat) false (.slice A2 nq c2)) :: rowsR 6 ReqR (.slice (some ad) n c) l :: L) := h
        have H4 := hide h
        clear h H3 hU1 hN1 hM1 hMk hoa hda hnda m0 m1' m2 m3 m4 m5 m6 m7 m8 m9
        go_wp2_with fail
        refine (simage_up g gs gd gj gi 2 dn1 _ (H4.out.blk 2 rfl) (H4.out.blk 3 rfl)).mono ?_
        rintro e w5 ⟨rfl, rfl⟩
        go_wp2_with fail
        refine (pack_st gi M1 _ HMk.out.ok (H4.out.sub (L' := imgR gi M1 :: blkR ga 51 (msgC 12 2 1 (k : Nat) oa (.slice A3 nda c3)) :: intsR .u8 (.slice A3 nda c3) da :: blkR g 96 (stoC 2 gd (.pointer (some ⟨gs, 0, none⟩))) :: blkR gs 76 (srvC gd gj gi 0 8 dn1) :: jR gj gd J1 :: dsR gd D1 :: intsR .u8 (.slice A2 nq c2) (encQ x) :: blkR g3 51 (msgC 11 1 2 (k : Nat) false (.slice A2 nq c2)) :: rowsR 6 ReqR (.slice (some ad) n c) l :: L) (by (repeat (first | with_reducible exact Sub.refl _ | (with_reducible apply Sub.take; focus (repeat (first | with_reducible exact At.here | with_reducible apply At.there))) | with_reducible apply Sub.drop))))).mono ?_
        rintro e w6 ⟨v1, rfl, h⟩
        have h6 := h.ints
        obtain ⟨P1, p1, rfl, _, _, _⟩ := h6.get 0 rfl
        generalize hpl : (packI M1).length = pl at *
        have HPL := hide hpl
        have h7 := h6.sub (L' := blkR g3 51 (msgC 11 1 2 (k : Nat) false (.slice A2 nq c2)) :: intsR .u8 (.slice A2 nq c2) (encQ x) :: blkR g 96 (stoC 2 gd (.pointer (some ⟨gs, 0, none⟩))) :: srvR gs gd gj gi 0 8 ⟨M1, D1, J1, dn1⟩ (blkR ga 51 (msgC 12 2 1 (k : Nat) oa (.slice A3 nda c3)) :: intsR .u8 (.slice A3 nda c3) da :: intsR .u8 (.slice P1 pl p1) (packI M1) :: rowsR 6 ReqR (.slice (some ad) n c) l :: L)) (by unfold srvR; (repeat (first | with_reducible exact Sub.refl _ | (with_reducible apply Sub.take; focus (repeat (first | with_reducible exact At.here | with_reducible apply At.there))) | with_reducible apply Sub.drop)))
        have H6 := hide h7
        rw [HG3.out] at h7
        obtain ⟨m0, m1', m2, m3, m4, m5, m6, m7, m8, m9⟩ := (h7.blk 0 rfl).ten
        clear h h6 h7 H4 hpl
        go_wp2_with fail
        refine (hear_live hT g gs gd gj gi 2 1 (k : Nat) false ⟨M1, D1, J1, dn1⟩ (10 + 6 * (k : Int) + 3) 1 x A2 nq c2 _ HU1.out HN1.out (by have := HKK.out; omega) (by omega) HXO.out HXB.out HW.out (H6.out.sub (L' := intsR .u8 (.slice A2 nq c2) (encQ x) :: blkR g 96 (stoC 2 gd (.pointer (some ⟨gs, 0, none⟩))) :: srvR gs gd gj gi 0 8 ⟨M1, D1, J1, dn1⟩ (blkR ga 51 (msgC 12 2 1 (k : Nat) oa (.slice A3 nda c3)) :: intsR .u8 (.slice A3 nda c3) da :: intsR .u8 (.slice P1 pl p1) (packI M1) :: rowsR 6 ReqR (.slice (some ad) n c) l :: L)) (by unfold srvR; (repeat (first | with_reducible exact Sub.refl _ | (with_reducible apply Sub.take; focus (repeat (first | with_reducible exact At.here | with_reducible apply At.there))) | with_reducible apply Sub.drop))))).mono ?_
        rintro e w7 ⟨gb, A4, c4, rfl, hU2, hN2, hM2, h⟩
        have hM2 : (SM.doS ⟨M1, D1, J1, dn1⟩ 0 8 x).M = M1 := hM2.trans HON.out
        generalize SM.doS ⟨M1, D1, J1, dn1⟩ 0 8 x = s2 at *
        have HU2 := hide hU2
        have HN2 := hide hN2
        obtain ⟨M2, D2, J2, dn2⟩ := s2
        obtain rfl : M2 = M1 := hM2
        have h : St M0 w7 (blkR gb 51 (msgC 12 2 1 (k : Nat) ((checkI M2 x).2 == 0) (.slice A4 (ansM M2 x).length c4)) :: intsR .u8 (.slice A4 (ansM M2 x).length c4) (ansM M2 x) :: blkR g 96 (stoC 2 gd (.pointer (some ⟨gs, 0, none⟩))) :: blkR gs 76 (srvC gd gj gi 0 8 dn2) :: jR gj gd J2 :: imgR gi M2 :: dsR gd D2 :: blkR ga 51 (msgC 12 2 1 (k : Nat) oa (.slice A3 nda c3)) :: intsR .u8 (.slice A3 nda c3) da :: intsR .u8 (.slice P1 pl p1) (packI M2) :: rowsR 6 ReqR (.slice (some ad) n c) l :: L) := h
        generalize hob : ((checkI M2 x).2 == 0) = ob at *
        have HOB := hide hob
        generalize hdb : ansM M2 x = db at *
        have HDB := hide hdb
        generalize hndb : db.length = ndb at *
        have HNE := hide hndb
        have H7 := hide h
        clear h H6 hU2 hN2 hM2 hob hdb hndb m0 m1' m2 m3 m4 m5 m6 m7 m8 m9
        go_wp2_with fail
        refine (simage_up g gs gd gj gi 2 dn2 _ (H7.out.blk 2 rfl) (H7.out.blk 3 rfl)).mono ?_
        rintro e w8 ⟨rfl, rfl⟩
        go_wp2_with fail
        refine (pack_st gi M2 _ HMk.out.ok (H7.out.sub (L' := imgR gi M2 :: blkR gb 51 (msgC 12 2 1 (k : Nat) ob (.slice A4 ndb c4)) :: intsR .u8 (.slice A4 ndb c4) db :: blkR g 96 (stoC 2 gd (.pointer (some ⟨gs, 0, none⟩))) :: blkR gs 76 (srvC gd gj gi 0 8 dn2) :: jR gj gd J2 :: dsR gd D2 :: blkR ga 51 (msgC 12 2 1 (k : Nat) oa (.slice A3 nda c3)) :: intsR .u8 (.slice A3 nda c3) da :: intsR .u8 (.slice P1 pl p1) (packI M2) :: rowsR 6 ReqR (.slice (some ad) n c) l :: L) (by (repeat (first | with_reducible exact Sub.refl _ | (with_reducible apply Sub.take; focus (repeat (first | with_reducible exact At.here | with_reducible apply At.there))) | with_reducible apply Sub.drop))))).mono ?_
        rintro e w9 ⟨v2, rfl, h⟩
        have h6 := h.ints
        obtain ⟨P2, p2, rfl, _, _, _⟩ := h6.get 0 rfl
        have hpl := HPL.out
        rw [hpl] at h6 ⊢
        generalize packI M2 = xs at *
        have h8 := h6.sub (L' := blkR ga 51 (msgC 12 2 1 (k : Nat) oa (.slice A3 nda c3)) :: blkR gb 51 (msgC 12 2 1 (k : Nat) ob (.slice A4 ndb c4)) :: intsR .u8 (.slice P1 pl p1) xs :: intsR .u8 (.slice P2 pl p2) xs :: intsR .u8 (.slice A3 nda c3) da :: intsR .u8 (.slice A4 ndb c4) db :: blkR g 96 (stoC 2 gd (.pointer (some ⟨gs, 0, none⟩))) :: blkR gs 76 (srvC gd gj gi 0 8 dn2) :: jR gj gd J2 :: imgR gi M2 :: dsR gd D2 :: rowsR 6 ReqR (.slice (some ad) n c) l :: L) (by (repeat (first | with_reducible exact Sub.refl _ | (with_reducible apply Sub.take; focus (repeat (first | with_reducible exact At.here | with_reducible apply At.there))) | with_reducible apply Sub.drop)))
        clear h h6 H7 hpl HPL
        cases oa with
        | false =>
          have H9 := hide h8
          clear h8
          go_wp2_with fail
          refine region_flow (M0 := M0) (L0 := blkR g 96 (stoC 2 gd (.pointer (some ⟨gs, 0, none⟩))) :: blkR gs 76 (srvC gd gj gi 0 8 dn2) :: jR gj gd J2 :: imgR gi M2 :: dsR gd D2 :: rowsR 6 ReqR (.slice (some ad) n c) l :: L) [⟨none, none, fun e => blkR ga 51 (msgC 12 2 1 (k : Nat) false (.slice A3 nda c3))⟩, ⟨none, none, fun e => blkR gb 51 (msgC 12 2 1 (k : Nat) ob (.slice A4 ndb c4))⟩, ⟨none, none, fun e => intsR .u8 (.slice P1 pl p1) xs⟩, ⟨none, none, fun e => intsR .u8 (.slice P2 pl p2) xs⟩, ⟨none, none, fun e => intsR .u8 (.slice A3 nda c3) da⟩, ⟨none, none, fun e => intsR .u8 (.slice A4 ndb c4) db⟩] [[], [], [0, 1], [0, 1, 2], [0, 1, 2, 3], [0, 1, 2, 3, 4], [0, 1, 2, 3, 4, 5], [0, 1, 2, 3, 4, 5, 6], [0, 1, 2, 3, 4, 5, 6, 7], [0, 1, 2, 3, 4, 5, 6, 7, 8], [0, 1, 2, 3, 4, 5, 6, 7, 8, 9], [0, 1, 2, 3, 4, 5, 6, 7, 8, 9, 10], [0, 1, 2, 3, 4, 5, 6, 7, 8, 9, 10, 11], [0, 1, 2, 3, 4, 5, 6, 7, 8, 9], [0, 1, 2, 3, 4, 5, 6, 7, 8, 9, 13], [0, 1, 2, 3, 4, 5, 6, 7, 8, 9, 13, 14], [0, 1, 2, 3, 4, 5, 6, 7, 8, 9, 10, 11, 12, 13, 14, 15], [0, 1, 2, 3, 4, 5, 6, 7, 8, 9, 10, 11, 12, 13, 14, 15, 16], [0, 1, 2, 3, 4, 5, 6, 7, 8, 9, 10, 11, 12, 13, 14, 15, 16, 17], [0, 1, 2, 3, 4, 5, 6, 7, 8, 9, 10, 11, 12, 13, 14, 15, 16, 17, 18]] [0, 1, 2, 3, 4, 5, 6, 7, 8, 9, 10, 11, 12, 13, 14, 15, 16, 17, 18, 19] rfl (by kernel_rfl) (by kernel_rfl) (by kernel_rfl) (by rfl) (fun _ => rfl) (show St M0 _ (blkR ga 51 (msgC 12 2 1 (k : Nat) false (.slice A3 nda c3)) :: blkR gb 51 (msgC 12 2 1 (k : Nat) ob (.slice A4 ndb c4)) :: intsR .u8 (.slice P1 pl p1) xs :: intsR .u8 (.slice P2 pl p2) xs :: intsR .u8 (.slice A3 nda c3) da :: intsR .u8 (.slice A4 ndb c4) db :: blkR g 96 (stoC 2 gd (.pointer (some ⟨gs, 0, none⟩))) :: blkR gs 76 (srvC gd gj gi 0 8 dn2) :: jR gj gd J2 :: imgR gi M2 :: dsR gd D2 :: rowsR 6 ReqR (.slice (some ad) n c) l :: L) from H9.out) ?_
          refine flow_run _ rfl (fun _ => rfl) (fun e wx Lx h => by (go_simp; try rfl)) (by intro e; rfl) (by intro e; rfl) (by intro e x; rfl) ?_
          (simp only [Act.put, List.setIfInBounds_toArray, List.set_cons_succ, List.set_cons_zero])
          refine flow_run _ rfl (fun _ => rfl) (fun e wx Lx h => by (go_simp; try rfl)) (by intro e; rfl) (by intro e; rfl) (by intro e x; rfl) ?_
          (simp only [Act.put, List.setIfInBounds_toArray, List.set_cons_succ, List.set_cons_zero])
          refine flow_call 14 (fun e => #[.slice P1 pl p1, .slice P2 pl p2]) (fun e => .bool true) rfl (fun _ => rfl) (by intro e; rfl) (fun e wx => by (go_simp; try rfl)) (fun e wx Lx h => by (
            have h : St M0 wx (blkR ga 51 (msgC 12 2 1 (k : Nat) false (.slice A3 nda c3)) :: blkR gb 51 (msgC 12 2 1 (k : Nat) ob (.slice A4 ndb c4)) :: intsR .u8 (.slice P1 pl p1) xs :: intsR .u8 (.slice P2 pl p2) xs :: intsR .u8 (.slice A3 nda c3) da :: intsR .u8 (.slice A4 ndb c4) db :: Lx) := h
            refine (same_true (.slice P1 pl p1) (.slice P2 pl p2) xs _ (h.getA (Q := fun w => Ints w .u8 (.slice P1 pl p1) xs) (by (repeat (first | with_reducible exact At.here | with_reducible apply At.there)))) (h.getA (Q := fun w => Ints w .u8 (.slice P2 pl p2) xs) (by (repeat (first | with_reducible exact At.here | with_reducible apply At.there)))) h).mono ?_
            rintro u wy ⟨rfl, h1⟩
            have hk : St M0 wy (blkR ga 51 (msgC 12 2 1 (k : Nat) false (.slice A3 nda c3)) :: blkR gb 51 (msgC 12 2 1 (k : Nat) ob (.slice A4 ndb c4)) :: intsR .u8 (.slice P1 pl p1) xs :: intsR .u8 (.slice P2 pl p2) xs :: intsR .u8 (.slice A3 nda c3) da :: intsR .u8 (.slice A4 ndb c4) db :: Lx) := h1.sub (by (repeat (first | with_reducible exact Sub.refl _ | (with_reducible apply Sub.take; focus (repeat (first | with_reducible exact At.here | with_reducible apply At.there))) | with_reducible apply Sub.drop)))
            exact ⟨⟨none, 0, default⟩, rfl, hk⟩)) ?_
          (simp only [Act.put, List.setIfInBounds_toArray, List.set_cons_succ, List.set_cons_zero])
          refine flow_run _ rfl (fun _ => rfl) (fun e wx Lx h => by (go_simp; try rfl)) (by intro e; rfl) (by intro e; rfl) (by intro e x; rfl) ?_
          (simp only [Act.put, List.setIfInBounds_toArray, List.set_cons_succ, List.set_cons_zero])
          refine flow_run _ rfl (fun _ => rfl) (fun e wx Lx h => by (go_simp; try rfl)) (by intro e; rfl) (by intro e; rfl) (by intro e x; rfl) ?_
          (simp only [Act.put, List.setIfInBounds_toArray, List.set_cons_succ, List.set_cons_zero])
          refine flow_run _ rfl (fun _ => rfl) (fun e wx Lx h => by (go_simp; try rfl)) (by intro e; rfl) (by intro e; rfl) (by intro e x; rfl) ?_
          (simp only [Act.put, List.setIfInBounds_toArray, List.set_cons_succ, List.set_cons_zero])
          refine flow_run _ rfl (fun _ => rfl) (fun e wx Lx h => by (go_simp; try rfl)) (by intro e; rfl) (by intro e; rfl) (by intro e x; rfl) ?_
          (simp only [Act.put, List.setIfInBounds_toArray, List.set_cons_succ, List.set_cons_zero])
          refine flow_run _ rfl (fun _ => rfl) (fun e wx Lx h => by (go_simp; try rfl)) (by intro e; rfl) (by intro e; rfl) (by intro e x; rfl) ?_
          (simp only [Act.put, List.setIfInBounds_toArray, List.set_cons_succ, List.set_cons_zero])
          refine flow_run _ rfl (fun _ => rfl) (fun e wx Lx h => by (have h : St M0 wx (blkR ga 51 (msgC 12 2 1 (k : Nat) false (.slice A3 nda c3)) :: blkR gb 51 (msgC 12 2 1 (k : Nat) ob (.slice A4 ndb c4)) :: intsR .u8 (.slice P1 pl p1) xs :: intsR .u8 (.slice P2 pl p2) xs :: intsR .u8 (.slice A3 nda c3) da :: intsR .u8 (.slice A4 ndb c4) db :: Lx) := h; obtain ⟨y0, y1, y2, y3, y4, y5, y6, y7, y8, y9⟩ := (h.blkA (g := ga) (t := 51) (cs := msgC 12 2 1 (k : Nat) false (.slice A3 nda c3)) (by (repeat (first | with_reducible exact At.here | with_reducible apply At.there)))).ten; obtain ⟨z0, z1, z2, z3, z4, z5, z6, z7, z8, z9⟩ := (h.blkA (g := gb) (t := 51) (cs := msgC 12 2 1 (k : Nat) ob (.slice A4 ndb c4)) (by (repeat (first | with_reducible exact At.here | with_reducible apply At.there)))).ten; go_simp; try rfl)) (by intro e; rfl) (by intro e; rfl) (by intro e x; rfl) ?_
          (simp only [Act.put, List.setIfInBounds_toArray, List.set_cons_succ, List.set_cons_zero])
          refine flow_run _ rfl (fun _ => rfl) (fun e wx Lx h => by (go_simp; try rfl)) (by intro e; rfl) (by intro e; rfl) (by intro e x; rfl) ?_
          (simp only [Act.put, List.setIfInBounds_toArray, List.set_cons_succ, List.set_cons_zero])
          refine flow_skip rfl (fun _ => rfl) rfl ?_
          (simp only [Act.put, List.setIfInBounds_toArray, List.set_cons_succ, List.set_cons_zero])
          refine flow_skip rfl (fun _ => rfl) rfl ?_
          (simp only [Act.put, List.setIfInBounds_toArray, List.set_cons_succ, List.set_cons_zero])
          refine flow_skip rfl (fun _ => rfl) rfl ?_
          (simp only [Act.put, List.setIfInBounds_toArray, List.set_cons_succ, List.set_cons_zero])
          refine flow_skip rfl (fun _ => rfl) rfl ?_
          (simp only [Act.put, List.setIfInBounds_toArray, List.set_cons_succ, List.set_cons_zero])
          refine flow_skip rfl (fun _ => rfl) rfl ?_
          (simp only [Act.put, List.setIfInBounds_toArray, List.set_cons_succ, List.set_cons_zero])
          refine flow_skip rfl (fun _ => rfl) rfl ?_
          (simp only [Act.put, List.setIfInBounds_toArray, List.set_cons_succ, List.set_cons_zero])
          refine flow_skip rfl (fun _ => rfl) rfl ?_
          (simp only [Act.put, List.setIfInBounds_toArray, List.set_cons_succ, List.set_cons_zero])
          refine flow_skip rfl (fun _ => rfl) rfl ?_
          (simp only [Act.put, List.setIfInBounds_toArray, List.set_cons_succ, List.set_cons_zero])
          refine flow_run _ rfl (fun _ => rfl) (fun e wx Lx h => by (go_simp; try rfl)) (by intro e; rfl) (by intro e; rfl) (by intro e x; rfl) ?_
          (simp only [Act.put, List.setIfInBounds_toArray, List.set_cons_succ, List.set_cons_zero])
          refine flow_run _ rfl (fun _ => rfl) (fun e wx Lx h => by (go_simp; try rfl)) (by intro e; rfl) (by intro e; rfl) (by intro e x; rfl) ?_
          (simp only [Act.put, List.setIfInBounds_toArray, List.set_cons_succ, List.set_cons_zero])
          refine flow_nil ?_
          intro e w1 h
          have h : St M0 w1 (blkR ga 51 (msgC 12 2 1 (k : Nat) false (.slice A3 nda c3)) :: blkR gb 51 (msgC 12 2 1 (k : Nat) ob (.slice A4 ndb c4)) :: intsR .u8 (.slice P1 pl p1) xs :: intsR .u8 (.slice P2 pl p2) xs :: intsR .u8 (.slice A3 nda c3) da :: intsR .u8 (.slice A4 ndb c4) db :: blkR g 96 (stoC 2 gd (.pointer (some ⟨gs, 0, none⟩))) :: blkR gs 76 (srvC gd gj gi 0 8 dn2) :: jR gj gd J2 :: imgR gi M2 :: dsR gd D2 :: rowsR 6 ReqR (.slice (some ad) n c) l :: L) := h
          have HE := hide h
          clear h H9
          go_wp2_with fail
          go_roundg (n - (k + 1))
          case measure => have := HG.out; omega
          case rel => exact ⟨k + 1, ⟨M2, D2, J2, dn2⟩, rfl, by omega, by go_num, HU2.out.mono (by omega) (by omega), HN2.out, HE.out.sub (by unfold srvR; (repeat (first | with_reducible exact Sub.refl _ | (with_reducible apply Sub.take; focus (repeat (first | with_reducible exact At.here | with_reducible apply At.there))) | with_reducible apply Sub.drop)))⟩
        | true =>
          have hz : (checkI s.M x).2 = 0 := by simpa using HOA.out
          obtain ⟨hz1, hz2⟩ := HTW.out hz
          have eb : ob = true := by rw [← HOB.out, hz1]; rfl
          have ed : db = da := hz2
          subst eb
          subst ed
          have en : ndb = nda := HNE.out.symm.trans HND.out
          subst en
          have H9 := hide h8
          clear h8 hz hz1 hz2
          go_wp2_with fail
          refine region_flow (M0 := M0) (L0 := blkR g 96 (stoC 2 gd (.pointer (some ⟨gs, 0, none⟩))) :: blkR gs 76 (srvC gd gj gi 0 8 dn2) :: jR gj gd J2 :: imgR gi M2 :: dsR gd D2 :: rowsR 6 ReqR (.slice (some ad) n c) l :: L) [⟨none, none, fun e => blkR ga 51 (msgC 12 2 1 (k : Nat) true (.slice A3 ndb c3))⟩, ⟨none, none, fun e => blkR gb 51 (msgC 12 2 1 (k : Nat) true (.slice A4 ndb c4))⟩, ⟨none, none, fun e => intsR .u8 (.slice P1 pl p1) xs⟩, ⟨none, none, fun e => intsR .u8 (.slice P2 pl p2) xs⟩, ⟨none, none, fun e => intsR .u8 (.slice A3 ndb c3) db⟩, ⟨none, none, fun e => intsR .u8 (.slice A4 ndb c4) db⟩] [[], [], [0, 1], [0, 1, 2], [0, 1, 2, 3], [0, 1, 2, 3, 4], [0, 1, 2, 3, 4, 5], [0, 1, 2, 3, 4, 5, 6], [0, 1, 2, 3, 4, 5, 6, 7], [0, 1, 2, 3, 4, 5, 6, 7, 8], [0, 1, 2, 3, 4, 5, 6, 7, 8, 9], [0, 1, 2, 3, 4, 5, 6, 7, 8, 9, 10], [0, 1, 2, 3, 4, 5, 6, 7, 8, 9, 10, 11], [0, 1, 2, 3, 4, 5, 6, 7, 8, 9], [0, 1, 2, 3, 4, 5, 6, 7, 8, 9, 13], [0, 1, 2, 3, 4, 5, 6, 7, 8, 9, 13, 14], [0, 1, 2, 3, 4, 5, 6, 7, 8, 9, 10, 11, 12, 13, 14, 15], [0, 1, 2, 3, 4, 5, 6, 7, 8, 9, 10, 11, 12, 13, 14, 15, 16], [0, 1, 2, 3, 4, 5, 6, 7, 8, 9, 10, 11, 12, 13, 14, 15, 16, 17], [0, 1, 2, 3, 4, 5, 6, 7, 8, 9, 10, 11, 12, 13, 14, 15, 16, 17, 18]] [0, 1, 2, 3, 4, 5, 6, 7, 8, 9, 10, 11, 12, 13, 14, 15, 16, 17, 18, 19] rfl (by kernel_rfl) (by kernel_rfl) (by kernel_rfl) (by rfl) (fun _ => rfl) (show St M0 _ (blkR ga 51 (msgC 12 2 1 (k : Nat) true (.slice A3 ndb c3)) :: blkR gb 51 (msgC 12 2 1 (k : Nat) true (.slice A4 ndb c4)) :: intsR .u8 (.slice P1 pl p1) xs :: intsR .u8 (.slice P2 pl p2) xs :: intsR .u8 (.slice A3 ndb c3) db :: intsR .u8 (.slice A4 ndb c4) db :: blkR g 96 (stoC 2 gd (.pointer (some ⟨gs, 0, none⟩))) :: blkR gs 76 (srvC gd gj gi 0 8 dn2) :: jR gj gd J2 :: imgR gi M2 :: dsR gd D2 :: rowsR 6 ReqR (.slice (some ad) n c) l :: L) from H9.out) ?_
          refine flow_run _ rfl (fun _ => rfl) (fun e wx Lx h => by (go_simp; try rfl)) (by intro e; rfl) (by intro e; rfl) (by intro e x; rfl) ?_
          (simp only [Act.put, List.setIfInBounds_toArray, List.set_cons_succ, List.set_cons_zero])
          refine flow_run _ rfl (fun _ => rfl) (fun e wx Lx h => by (go_simp; try rfl)) (by intro e; rfl) (by intro e; rfl) (by intro e x; rfl) ?_
          (simp only [Act.put, List.setIfInBounds_toArray, List.set_cons_succ, List.set_cons_zero])
          refine flow_call 14 (fun e => #[.slice P1 pl p1, .slice P2 pl p2]) (fun e => .bool true) rfl (fun _ => rfl) (by intro e; rfl) (fun e wx => by (go_simp; try rfl)) (fun e wx Lx h => by (
            have h : St M0 wx (blkR ga 51 (msgC 12 2 1 (k : Nat) true (.slice A3 ndb c3)) :: blkR gb 51 (msgC 12 2 1 (k : Nat) true (.slice A4 ndb c4)) :: intsR .u8 (.slice P1 pl p1) xs :: intsR .u8 (.slice P2 pl p2) xs :: intsR .u8 (.slice A3 ndb c3) db :: intsR .u8 (.slice A4 ndb c4) db :: Lx) := h
            refine (same_true (.slice P1 pl p1) (.slice P2 pl p2) xs _ (h.getA (Q := fun w => Ints w .u8 (.slice P1 pl p1) xs) (by (repeat (first | with_reducible exact At.here | with_reducible apply At.there)))) (h.getA (Q := fun w => Ints w .u8 (.slice P2 pl p2) xs) (by (repeat (first | with_reducible exact At.here | with_reducible apply At.there)))) h).mono ?_
            rintro u wy ⟨rfl, h1⟩
            have hk : St M0 wy (blkR ga 51 (msgC 12 2 1 (k : Nat) true (.slice A3 ndb c3)) :: blkR gb 51 (msgC 12 2 1 (k : Nat) true (.slice A4 ndb c4)) :: intsR .u8 (.slice P1 pl p1) xs :: intsR .u8 (.slice P2 pl p2) xs :: intsR .u8 (.slice A3 ndb c3) db :: intsR .u8 (.slice A4 ndb c4) db :: Lx) := h1.sub (by (repeat (first | with_reducible exact Sub.refl _ | (with_reducible apply Sub.take; focus (repeat (first | with_reducible exact At.here | with_reducible apply At.there))) | with_reducible apply Sub.drop)))
            exact ⟨⟨none, 0, default⟩, rfl, hk⟩)) ?_
          (simp only [Act.put, List.setIfInBounds_toArray, List.set_cons_succ, List.set_cons_zero])
          refine flow_run _ rfl (fun _ => rfl) (fun e wx Lx h => by (go_simp; try rfl)) (by intro e; rfl) (by intro e; rfl) (by intro e x; rfl) ?_
          (simp only [Act.put, List.setIfInBounds_toArray, List.set_cons_succ, List.set_cons_zero])
          refine flow_run _ rfl (fun _ => rfl) (fun e wx Lx h => by (go_simp; try rfl)) (by intro e; rfl) (by intro e; rfl) (by intro e x; rfl) ?_
          (simp only [Act.put, List.setIfInBounds_toArray, List.set_cons_succ, List.set_cons_zero])
          refine flow_run _ rfl (fun _ => rfl) (fun e wx Lx h => by (go_simp; try rfl)) (by intro e; rfl) (by intro e; rfl) (by intro e x; rfl) ?_
          (simp only [Act.put, List.setIfInBounds_toArray, List.set_cons_succ, List.set_cons_zero])
          refine flow_run _ rfl (fun _ => rfl) (fun e wx Lx h => by (go_simp; try rfl)) (by intro e; rfl) (by intro e; rfl) (by intro e x; rfl) ?_
          (simp only [Act.put, List.setIfInBounds_toArray, List.set_cons_succ, List.set_cons_zero])
          refine flow_run _ rfl (fun _ => rfl) (fun e wx Lx h => by (go_simp; try rfl)) (by intro e; rfl) (by intro e; rfl) (by intro e x; rfl) ?_
          (simp only [Act.put, List.setIfInBounds_toArray, List.set_cons_succ, List.set_cons_zero])
          refine flow_run _ rfl (fun _ => rfl) (fun e wx Lx h => by (have h : St M0 wx (blkR ga 51 (msgC 12 2 1 (k : Nat) true (.slice A3 ndb c3)) :: blkR gb 51 (msgC 12 2 1 (k : Nat) true (.slice A4 ndb c4)) :: intsR .u8 (.slice P1 pl p1) xs :: intsR .u8 (.slice P2 pl p2) xs :: intsR .u8 (.slice A3 ndb c3) db :: intsR .u8 (.slice A4 ndb c4) db :: Lx) := h; obtain ⟨y0, y1, y2, y3, y4, y5, y6, y7, y8, y9⟩ := (h.blkA (g := ga) (t := 51) (cs := msgC 12 2 1 (k : Nat) true (.slice A3 ndb c3)) (by (repeat (first | with_reducible exact At.here | with_reducible apply At.there)))).ten; obtain ⟨z0, z1, z2, z3, z4, z5, z6, z7, z8, z9⟩ := (h.blkA (g := gb) (t := 51) (cs := msgC 12 2 1 (k : Nat) true (.slice A4 ndb c4)) (by (repeat (first | with_reducible exact At.here | with_reducible apply At.there)))).ten; go_simp; try rfl)) (by intro e; rfl) (by intro e; rfl) (by intro e x; rfl) ?_
          (simp only [Act.put, List.setIfInBounds_toArray, List.set_cons_succ, List.set_cons_zero])
          refine flow_run _ rfl (fun _ => rfl) (fun e wx Lx h => by (go_simp; try rfl)) (by intro e; rfl) (by intro e; rfl) (by intro e x; rfl) ?_
          (simp only [Act.put, List.setIfInBounds_toArray, List.set_cons_succ, List.set_cons_zero])
          refine flow_run _ rfl (fun _ => rfl) (fun e wx Lx h => by (go_simp; try rfl)) (by intro e; rfl) (by intro e; rfl) (by intro e x; rfl) ?_
          (simp only [Act.put, List.setIfInBounds_toArray, List.set_cons_succ, List.set_cons_zero])
          refine flow_run _ rfl (fun _ => rfl) (fun e wx Lx h => by (go_simp; try rfl)) (by intro e; rfl) (by intro e; rfl) (by intro e x; rfl) ?_
          (simp only [Act.put, List.setIfInBounds_toArray, List.set_cons_succ, List.set_cons_zero])
          refine flow_run _ rfl (fun _ => rfl) (fun e wx Lx h => by (have h : St M0 wx (blkR ga 51 (msgC 12 2 1 (k : Nat) true (.slice A3 ndb c3)) :: blkR gb 51 (msgC 12 2 1 (k : Nat) true (.slice A4 ndb c4)) :: intsR .u8 (.slice P1 pl p1) xs :: intsR .u8 (.slice P2 pl p2) xs :: intsR .u8 (.slice A3 ndb c3) db :: intsR .u8 (.slice A4 ndb c4) db :: Lx) := h; obtain ⟨y0, y1, y2, y3, y4, y5, y6, y7, y8, y9⟩ := (h.blkA (g := ga) (t := 51) (cs := msgC 12 2 1 (k : Nat) true (.slice A3 ndb c3)) (by (repeat (first | with_reducible exact At.here | with_reducible apply At.there)))).ten; obtain ⟨z0, z1, z2, z3, z4, z5, z6, z7, z8, z9⟩ := (h.blkA (g := gb) (t := 51) (cs := msgC 12 2 1 (k : Nat) true (.slice A4 ndb c4)) (by (repeat (first | with_reducible exact At.here | with_reducible apply At.there)))).ten; go_simp; try rfl)) (by intro e; rfl) (by intro e; rfl) (by intro e x; rfl) ?_
          (simp only [Act.put, List.setIfInBounds_toArray, List.set_cons_succ, List.set_cons_zero])
          refine flow_run _ rfl (fun _ => rfl) (fun e wx Lx h => by (go_simp; try rfl)) (by intro e; rfl) (by intro e; rfl) (by intro e x; rfl) ?_
          (simp only [Act.put, List.setIfInBounds_toArray, List.set_cons_succ, List.set_cons_zero])
          refine flow_run _ rfl (fun _ => rfl) (fun e wx Lx h => by (go_simp; try rfl)) (by intro e; rfl) (by intro e; rfl) (by intro e x; rfl) ?_
          (simp only [Act.put, List.setIfInBounds_toArray, List.set_cons_succ, List.set_cons_zero])
          refine flow_run _ rfl (fun _ => rfl) (fun e wx Lx h => by (have h : St M0 wx (blkR ga 51 (msgC 12 2 1 (k : Nat) true (.slice A3 ndb c3)) :: blkR gb 51 (msgC 12 2 1 (k : Nat) true (.slice A4 ndb c4)) :: intsR .u8 (.slice P1 pl p1) xs :: intsR .u8 (.slice P2 pl p2) xs :: intsR .u8 (.slice A3 ndb c3) db :: intsR .u8 (.slice A4 ndb c4) db :: Lx) := h; obtain ⟨y0, y1, y2, y3, y4, y5, y6, y7, y8, y9⟩ := (h.blkA (g := ga) (t := 51) (cs := msgC 12 2 1 (k : Nat) true (.slice A3 ndb c3)) (by (repeat (first | with_reducible exact At.here | with_reducible apply At.there)))).ten; obtain ⟨z0, z1, z2, z3, z4, z5, z6, z7, z8, z9⟩ := (h.blkA (g := gb) (t := 51) (cs := msgC 12 2 1 (k : Nat) true (.slice A4 ndb c4)) (by (repeat (first | with_reducible exact At.here | with_reducible apply At.there)))).ten; go_simp; try rfl)) (by intro e; rfl) (by intro e; rfl) (by intro e x; rfl) ?_
          (simp only [Act.put, List.setIfInBounds_toArray, List.set_cons_succ, List.set_cons_zero])
          refine flow_call 20 (fun e => #[msgV 12 2 1 (k : Nat) true (.slice A3 ndb c3), msgV 12 2 1 (k : Nat) true (.slice A4 ndb c4)]) (fun e => .bool true) rfl (fun _ => rfl) (by intro e; rfl) (fun e wx => by (go_simp; try rfl)) (fun e wx Lx h => by (
            have h : St M0 wx (blkR ga 51 (msgC 12 2 1 (k : Nat) true (.slice A3 ndb c3)) :: blkR gb 51 (msgC 12 2 1 (k : Nat) true (.slice A4 ndb c4)) :: intsR .u8 (.slice P1 pl p1) xs :: intsR .u8 (.slice P2 pl p2) xs :: intsR .u8 (.slice A3 ndb c3) db :: intsR .u8 (.slice A4 ndb c4) db :: Lx) := h
            refine (msame_true 12 2 1 (k : Nat) true A3 A4 ndb ndb c3 c4 db _ (((h.copyA (Q := fun w => Ints w .u8 (.slice A3 ndb c3) db) (by (repeat (first | with_reducible exact At.here | with_reducible apply At.there)))).copyA (Q := fun w => Ints w .u8 (.slice A4 ndb c4) db) (by (repeat (first | with_reducible exact At.here | with_reducible apply At.there)))).sub (L' := intsR .u8 (.slice A3 ndb c3) db :: intsR .u8 (.slice A4 ndb c4) db :: blkR ga 51 (msgC 12 2 1 (k : Nat) true (.slice A3 ndb c3)) :: blkR gb 51 (msgC 12 2 1 (k : Nat) true (.slice A4 ndb c4)) :: intsR .u8 (.slice P1 pl p1) xs :: intsR .u8 (.slice P2 pl p2) xs :: intsR .u8 (.slice A3 ndb c3) db :: intsR .u8 (.slice A4 ndb c4) db :: Lx) (by (repeat (first | with_reducible exact Sub.refl _ | (with_reducible apply Sub.take; focus (repeat (first | with_reducible exact At.here | with_reducible apply At.there))) | with_reducible apply Sub.drop))))).mono ?_
            rintro u wy ⟨rfl, h1⟩
            have hk : St M0 wy (blkR ga 51 (msgC 12 2 1 (k : Nat) true (.slice A3 ndb c3)) :: blkR gb 51 (msgC 12 2 1 (k : Nat) true (.slice A4 ndb c4)) :: intsR .u8 (.slice P1 pl p1) xs :: intsR .u8 (.slice P2 pl p2) xs :: intsR .u8 (.slice A3 ndb c3) db :: intsR .u8 (.slice A4 ndb c4) db :: Lx) := h1.sub (by (repeat (first | with_reducible exact Sub.refl _ | (with_reducible apply Sub.take; focus (repeat (first | with_reducible exact At.here | with_reducible apply At.there))) | with_reducible apply Sub.drop)))
            exact ⟨⟨none, 0, default⟩, rfl, hk⟩)) ?_
          (simp only [Act.put, List.setIfInBounds_toArray, List.set_cons_succ, List.set_cons_zero])
          refine flow_run _ rfl (fun _ => rfl) (fun e wx Lx h => by (go_simp; try rfl)) (by intro e; rfl) (by intro e; rfl) (by intro e x; rfl) ?_
          (simp only [Act.put, List.setIfInBounds_toArray, List.set_cons_succ, List.set_cons_zero])
          refine flow_run _ rfl (fun _ => rfl) (fun e wx Lx h => by (go_simp; try rfl)) (by intro e; rfl) (by intro e; rfl) (by intro e x; rfl) ?_
          (simp only [Act.put, List.setIfInBounds_toArray, List.set_cons_succ, List.set_cons_zero])
          refine flow_run _ rfl (fun _ => rfl) (fun e wx Lx h => by (go_simp; try rfl)) (by intro e; rfl) (by intro e; rfl) (by intro e x; rfl) ?_
          (simp only [Act.put, List.setIfInBounds_toArray, List.set_cons_succ, List.set_cons_zero])
          refine flow_nil ?_
          intro e w1 h
          have h : St M0 w1 (blkR ga 51 (msgC 12 2 1 (k : Nat) true (.slice A3 ndb c3)) :: blkR gb 51 (msgC 12 2 1 (k : Nat) true (.slice A4 ndb c4)) :: intsR .u8 (.slice P1 pl p1) xs :: intsR .u8 (.slice P2 pl p2) xs :: intsR .u8 (.slice A3 ndb c3) db :: intsR .u8 (.slice A4 ndb c4) db :: blkR g 96 (stoC 2 gd (.pointer (some ⟨gs, 0, none⟩))) :: blkR gs 76 (srvC gd gj gi 0 8 dn2) :: jR gj gd J2 :: imgR gi M2 :: dsR gd D2 :: rowsR 6 ReqR (.slice (some ad) n c) l :: L) := h
          have HE := hide h
          clear h H9
          go_wp2_with fail
          go_roundg (n - (k + 1))
          case measure => have := HG.out; omega
          case rel => exact ⟨k + 1, ⟨M2, D2, J2, dn2⟩, rfl, by omega, by go_num, HU2.out.mono (by omega) (by omega), HN2.out, HE.out.sub (by unfold srvR; (repeat (first | with_reducible exact Sub.refl _ | (with_reducible apply Sub.take; focus (repeat (first | with_reducible exact At.here | with_reducible apply At.there))) | with_reducible apply Sub.drop)))⟩
      · have HW := hide hw
        have hwb : (x.wrong != 0) = true := by simp [hw]
        clear hw
        go_wp2_with fail
        refine (ask_no 1 2 (k : Nat) x B1 x.data.length d1 _ HXO.out HW.out HX.out).mono ?_
        rintro e w3 ⟨rfl, h⟩
        have H3 := hide h
        clear h HX e0 e1 e2 e3 e4 e5
        go_wp2_with fail
        go_roundg (n - (k + 1))
        case measure => have := HG.out; omega
        case rel => exact ⟨k + 1, s, rfl, by omega, by go_num, HU.out.mono (by omega) (by omega), HNF.out, H3.out.junk _⟩
    · obtain rfl : k = n := by omega
      have H := hide h
      clear h
      go_wp2_with fail
      go_ret
      exact ⟨rfl, H.out.tail.tail.tail.tail.tail.tail⟩
end Go.Proofs.YtpaelngpmbeedaaDoor
