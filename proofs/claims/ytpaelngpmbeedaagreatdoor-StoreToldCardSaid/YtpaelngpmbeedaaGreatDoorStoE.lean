/- store: the chapter's examples. -/
import Derived.Test.YtpaelngpmbeedaaGreatDoorStoD
namespace Go.Proofs.YtpaelngpmbeedaaGreatDoor
open Go.RowKit

def q1 : RQ := ⟨2, 0, 0, 1, 1, [97]⟩
def q2 : RQ := ⟨1, 0, 0, 1, 0, []⟩
def m1 : Nat → Rg := doM aw0 q1
theorem q1_ok : q1.ok := ⟨by decide, by decide, by decide, by decide⟩
theorem q2_ok : q2.ok := ⟨by decide, by decide, by decide, by decide⟩
theorem q1_w : q1.wrong = 0 := by decide
theorem q2_w : q2.wrong = 0 := by decide
theorem q1_b : Bytes q1.data := by intro x hx; rw [List.mem_singleton.1 hx]; unfold isByte; omega
theorem q2_b : Bytes q2.data := Bytes.nil
theorem k1 : ((checkI aw0 q1).2 == 0) = true ∧ ansM aw0 q1 = ansB 0 [] := by decide +kernel
theorem k2 : ((checkI m1 q1).2 == 0) = true ∧ ansM m1 q1 = ansB 0 [] := by decide +kernel
theorem k3 : ((checkI m1 q2).2 == 0) = true ∧ ansM m1 q2 = ansB 0 [[97]] := by decide +kernel
theorem k4 : doM m1 q1 = m1 := once_mq _ _
set_option maxRecDepth 100000 in
set_option maxHeartbeats 16000000 in
theorem awake23_st {M0 : Imm} {L : List Res} (hT : Tbl M0) (w : World) (h : St M0 w L) :
    Calls Tryz.prog 18 #[] w fun e w' => e = .returned (.bool true) ∧ St M0 w' L := by
  have H := hide h
  clear h
  obtain ⟨_, hM0, hU0, hN0⟩ := st0_up
  have HU0 := hide hU0
  have HN0 := hide hN0
  have HM0 := hide hM0
  clear hM0 hU0 hN0
  go_enter Tryz.func18, Tryz.ntmps18
  go_wp2_with fail
  refine (begun_st hT _ H.out).mono ?_
  rintro e w1 ⟨gd, g, gs, gj, gi, rfl, h⟩
  have H1 := hide (h.litInts 5 .u8 [97] (by simp) w1.heap.size rfl)
  clear h H
  go_wp2_with fail
  refine (ask_ok 1 2 7 q1 (some ⟨w1.heap.size, 0, none⟩) 1 1 _ q1_ok q1_w H1.out).mono ?_
  rintro e w2 ⟨A2, c2, rfl, h⟩
  have h3 := h.alloc 63 (msgC 11 1 2 7 false (.slice A2 (encQ q1).length c2))
  obtain ⟨m0, m1', m2, m3, m4, m5, m6, m7, m8, m9⟩ := (h3.blk 0 rfl).ten
  obtain ⟨g3, hg3⟩ : ∃ g3, g3 = w2.heap.size := ⟨_, rfl⟩
  have HG := hide hg3
  rw [← hg3] at h3
  have H3 := hide h3
  clear h h3 H1 hg3
  generalize hnq : (encQ q1).length = nq1 at *
  go_wp2_with fail
  refine (hear_live hT g gs gd gj gi 2 1 7 false st0 10 1 q1 A2 nq1 c2 _ HU0.out HN0.out (by omega) (by omega) q1_ok q1_b q1_w ((H3.out.copyA (Q := fun w => Ints w .u8 (.slice A2 nq1 c2) (encQ q1)) (by (repeat (first | with_reducible exact At.here | with_reducible apply At.there)))).sub (L' := intsR .u8 (.slice A2 nq1 c2) (encQ q1) :: blkR g 163 (stoC 2 gd (.pointer (some ⟨gs, 0, none⟩))) :: srvR gs gd gj gi 0 8 st0 (intsR .u8 (.slice A2 nq1 c2) (encQ q1) :: blkR g3 63 (msgC 11 1 2 7 false (.slice A2 nq1 c2)) :: L)) (by unfold srvR; (repeat (first | with_reducible exact Sub.refl _ | (with_reducible apply Sub.take; focus (repeat (first | with_reducible exact At.here | with_reducible apply At.there))) | with_reducible apply Sub.drop))))).mono ?_
  rintro e w3 ⟨ga, A3, c3, rfl, hU1, hN1, hM1, h⟩
  rw [HM0.out] at hM1 h
  rw [k1.1, k1.2] at h
  generalize st0.doS 0 8 q1 = t1 at *
  have hM1 : t1.M = m1 := hM1
  have HU1 := hide hU1
  have HN1 := hide hN1
  have HM1 := hide hM1
  have h3 := h.sub (L' := blkR g3 63 (msgC 11 1 2 7 false (.slice A2 nq1 c2)) :: intsR .u8 (.slice A2 nq1 c2) (encQ q1) :: blkR g 163 (stoC 2 gd (.pointer (some ⟨gs, 0, none⟩))) :: srvR gs gd gj gi 0 8 t1 (blkR ga 63 (msgC 12 2 1 7 true (.slice A3 (ansB 0 []).length c3)) :: intsR .u8 (.slice A3 (ansB 0 []).length c3) (ansB 0 []) :: L)) (by unfold srvR; (repeat (first | with_reducible exact Sub.refl _ | (with_reducible apply Sub.take; focus (repeat (first | with_reducible exact At.here | with_reducible apply At.there))) | with_reducible apply Sub.drop)))
  have H4 := hide h3
  rw [HG.out] at h3
  obtain ⟨m0, m1', m2, m3, m4, m5, m6, m7, m8, m9⟩ := (h3.blk 0 rfl).ten
  clear h h3 H3 hU1 hN1 hM1
  go_wp2_with fail
  refine (hear_live hT g gs gd gj gi 2 1 7 false t1 (10 + 3) 1 q1 A2 nq1 c2 _ HU1.out HN1.out (by omega) (by omega) q1_ok q1_b q1_w (H4.out.sub (L' := intsR .u8 (.slice A2 nq1 c2) (encQ q1) :: blkR g 163 (stoC 2 gd (.pointer (some ⟨gs, 0, none⟩))) :: srvR gs gd gj gi 0 8 t1 (blkR ga 63 (msgC 12 2 1 7 true (.slice A3 (ansB 0 []).length c3)) :: intsR .u8 (.slice A3 (ansB 0 []).length c3) (ansB 0 []) :: L)) (by unfold srvR; (repeat (first | with_reducible exact Sub.refl _ | (with_reducible apply Sub.take; focus (repeat (first | with_reducible exact At.here | with_reducible apply At.there))) | with_reducible apply Sub.drop))))).mono ?_
  rintro e w4 ⟨gb, A4, c4, rfl, hU2, hN2, hM2, h⟩
  rw [HM1.out] at hM2 h
  rw [k2.1, k2.2] at h
  rw [k4] at hM2
  generalize t1.doS 0 8 q1 = t2 at *
  have HM2 := hide hM2
  obtain ⟨hC, hL, _, hR⟩ := hU2.crash []
  rw [hM2] at hR
  obtain ⟨o1, o2, o3, o4, _⟩ := hR.open_ hC hL (by omega) (by omega)
  have HO := hide o1
  have HC := hide (hC.dsok 10)
  have HD := hide (hU2.c.dsok 900000)
  have HU3 := hide o3
  have HN3 := hide o4.nf
  have HM3 := hide o2
  obtain ⟨M2, D2, J2, dn2⟩ := t2
  have H5 := hide ((h.sub (L' := blkR g 163 (stoC 2 gd (.pointer (some ⟨gs, 0, none⟩))) :: dsR gd D2 :: blkR ga 63 (msgC 12 2 1 7 true (.slice A3 (ansB 0 []).length c3)) :: blkR gb 63 (msgC 12 2 1 7 true (.slice A4 (ansB 0 []).length c4)) :: intsR .u8 (.slice A3 (ansB 0 []).length c3) (ansB 0 []) :: intsR .u8 (.slice A4 (ansB 0 []).length c4) (ansB 0 []) :: L) (by unfold srvR; (repeat (first | with_reducible exact Sub.refl _ | (with_reducible apply Sub.take; focus (repeat (first | with_reducible exact At.here | with_reducible apply At.there))) | with_reducible apply Sub.drop)))).pers0 (R := fun w => Ints w .i64 (.slice none 0 0) []) (fun w' _ => Ints.none_ w' _))
  clear h H4 hU2 hN2 hM2 hC hL hR o1 o2 o3 o4 m0 m1' m2 m3 m4 m5 m6 m7 m8 m9
  go_wp2_with fail
  refine (scrash_st hT g gd 2 (.pointer (some ⟨gs, 0, none⟩)) D2 (.slice none 0 0) [] _ HD.out HO.out HC.out (H5.out.sub (L' := blkR g 163 (stoC 2 gd (.pointer (some ⟨gs, 0, none⟩))) :: dsR gd D2 :: intsR .i64 (.slice none 0 0) [] :: blkR ga 63 (msgC 12 2 1 7 true (.slice A3 (ansB 0 []).length c3)) :: blkR gb 63 (msgC 12 2 1 7 true (.slice A4 (ansB 0 []).length c4)) :: intsR .u8 (.slice A3 (ansB 0 []).length c3) (ansB 0 []) :: intsR .u8 (.slice A4 (ansB 0 []).length c4) (ansB 0 []) :: L) (by (repeat (first | with_reducible exact Sub.refl _ | (with_reducible apply Sub.take; focus (repeat (first | with_reducible exact At.here | with_reducible apply At.there))) | with_reducible apply Sub.drop))))).mono ?_
  rintro e w5 ⟨gs5, gj5, gi5, rfl, h⟩
  obtain ⟨t3, ht3⟩ : ∃ t, t = SM.mk (openM (D2.crash []) 0 8) (openD (D2.crash []) 0 8) (openJ (D2.crash []) 0 8) false := ⟨_, rfl⟩
  have HU3 : Hid (Up ⟨openM (D2.crash []) 0 8, openD (D2.crash []) 0 8, openJ (D2.crash []) 0 8, false⟩ 0 8 (10 + 3 + 3 + 1) (1 + 1)) := HU3
  have HN3 : Hid (NF (SM.mk (openM (D2.crash []) 0 8) (openD (D2.crash []) 0 8) (openJ (D2.crash []) 0 8) false).D) := HN3
  have HM3 : Hid ((SM.mk (openM (D2.crash []) 0 8) (openD (D2.crash []) 0 8) (openJ (D2.crash []) 0 8) false).M = m1) := HM3
  rw [← ht3] at h HU3 HN3 HM3
  have H6 := hide ((h.sub (L' := blkR g 163 (stoC 2 gd (.pointer (some ⟨gs5, 0, none⟩))) :: srvR gs5 gd gj5 gi5 0 8 t3 (blkR ga 63 (msgC 12 2 1 7 true (.slice A3 (ansB 0 []).length c3)) :: blkR gb 63 (msgC 12 2 1 7 true (.slice A4 (ansB 0 []).length c4)) :: intsR .u8 (.slice A3 (ansB 0 []).length c3) (ansB 0 []) :: intsR .u8 (.slice A4 (ansB 0 []).length c4) (ansB 0 []) :: L)) (by unfold srvR; (repeat (first | with_reducible exact Sub.refl _ | (with_reducible apply Sub.take; focus (repeat (first | with_reducible exact At.here | with_reducible apply At.there))) | with_reducible apply Sub.drop)))).pers0 (R := fun w => Ints w .u8 (.slice none 0 0) []) (fun w' _ => Ints.none_ w' _))
  clear h H5 ht3
  go_wp2_with fail
  refine (ask_ok 1 2 8 q2 none 0 0 _ q2_ok q2_w H6.out).mono ?_
  rintro e w6 ⟨A6, c6, rfl, h⟩
  have h3 := h.alloc 63 (msgC 11 1 2 8 false (.slice A6 (encQ q2).length c6))
  obtain ⟨m0, m1', m2, m3, m4, m5, m6, m7, m8, m9⟩ := (h3.blk 0 rfl).ten
  have H7 := hide h3.tail
  clear h h3 H6
  generalize hnq2 : (encQ q2).length = nq2 at *
  go_wp2_with fail
  refine (hear_live hT g gs5 gd gj5 gi5 2 1 8 false t3 (10 + 3 + 3 + 1) (1 + 1) q2 A6 nq2 c6 _ HU3.out HN3.out (by omega) (by omega) q2_ok q2_b q2_w H7.out).mono ?_
  rintro e w7 ⟨gc, A7, c7, rfl, _, _, _, h⟩
  rw [HM3.out] at h
  rw [k3.1, k3.2] at h
  generalize t3.doS 0 8 q2 = t4 at *
  obtain ⟨M4, D4, J4, dn4⟩ := t4
  have h : St M0 w7 (blkR gc 63 (msgC 12 2 1 8 true (.slice A7 (ansB 0 [[97]]).length c7)) :: intsR .u8 (.slice A7 (ansB 0 [[97]]).length c7) (ansB 0 [[97]]) :: blkR g 163 (stoC 2 gd (.pointer (some ⟨gs5, 0, none⟩))) :: blkR gs5 73 (srvC gd gj5 gi5 0 8 dn4) :: jR gj5 gd J4 :: imgR gi5 M4 :: dsR gd D4 :: blkR ga 63 (msgC 12 2 1 7 true (.slice A3 (ansB 0 []).length c3)) :: blkR gb 63 (msgC 12 2 1 7 true (.slice A4 (ansB 0 []).length c4)) :: intsR .u8 (.slice A3 (ansB 0 []).length c3) (ansB 0 []) :: intsR .u8 (.slice A4 (ansB 0 []).length c4) (ansB 0 []) :: L) := h
  obtain ⟨m0, m1', m2, m3, m4, m5, m6, m7, m8, m9⟩ := (h.blk 0 rfl).ten
  have H8 := hide (h.sub (L' := intsR .u8 (.slice A7 (ansB 0 [[97]]).length c7) (ansB 0 [[97]]) :: blkR g 163 (stoC 2 gd (.pointer (some ⟨gs5, 0, none⟩))) :: blkR ga 63 (msgC 12 2 1 7 true (.slice A3 (ansB 0 []).length c3)) :: blkR gb 63 (msgC 12 2 1 7 true (.slice A4 (ansB 0 []).length c4)) :: intsR .u8 (.slice A3 (ansB 0 []).length c3) (ansB 0 []) :: intsR .u8 (.slice A4 (ansB 0 []).length c4) (ansB 0 []) :: L) (by (repeat (first | with_reducible exact Sub.refl _ | (with_reducible apply Sub.take; focus (repeat (first | with_reducible exact At.here | with_reducible apply At.there))) | with_reducible apply Sub.drop))))
  have HB8 := hide (show Bytes (ansB 0 [[97]]) ∧ (ansB 0 [[97]]).length ≤ 1000000 ∧ toldE (ansB 0 [[97]]) = 0 ∧ (toldC (ansB 0 [[97]])).1 = 0 ∧ (toldL (ansB 0 [[97]])).1 = [[97]] from ⟨ansB_bytes (fun x hx => by rw [List.mem_singleton.1 hx]; exact q1_b), by decide, (told_back 0 [[97]] (by omega) (by decide) (by decide)).2.2, by rw [(told_back 0 [[97]] (by omega) (by decide) (by decide)).1], by rw [(told_back 0 [[97]] (by omega) (by decide) (by decide)).2.1]⟩)
  clear h H7
  generalize hna : (ansB 0 [[97]]).length = na at *
  generalize hnb : (ansB 0 []).length = nb at *
  go_wp2_with fail
  refine (told_st 2 1 8 true 0 0 0 (.slice none 0 0) ⟨none, 0, 0, rfl⟩ A7 na c7 (ansB 0 [[97]]) _ HB8.out.1 (by rw [hna]; exact HB8.out.2.1) H8.out).mono ?_
  rintro e w8 ⟨hgood, _⟩
  obtain ⟨V, rfl, h⟩ := hgood HB8.out.2.2.1
  rw [HB8.out.2.2.2.1]
  rw [HB8.out.2.2.2.2] at h
  obtain ⟨AV, cV, rfl, _, _⟩ := (h.getRows 0 rfl).slice
  have H9 := hide h
  clear h H8 m0 m1' m2 m3 m4 m5 m6 m7 m8 m9
  go_wp2_with fail
  refine (sup_up g gs5 gd 2 _ (H9.out.blk 1 rfl)).mono ?_
  rintro e w9 ⟨rfl, rfl⟩
  obtain ⟨m0, m1', m2, m3, m4, m5, m6, m7, m8, m9⟩ := (H9.out.blk 2 rfl).ten
  go_wp2_with fail
  refine (mall_one ga gb 12 2 1 7 true A3 A4 nb c3 c4 (ansB 0 []) hnb.symm _ (H9.out.sub (L' := blkR ga 63 (msgC 12 2 1 7 true (.slice A3 nb c3)) :: blkR gb 63 (msgC 12 2 1 7 true (.slice A4 nb c4)) :: intsR .u8 (.slice A3 nb c3) (ansB 0 []) :: intsR .u8 (.slice A4 nb c4) (ansB 0 []) :: rowsR 1 LogR (.slice AV ([[97]] : List (List Int)).length cV) [[97]] :: L) (by (repeat (first | with_reducible exact Sub.refl _ | (with_reducible apply Sub.take; focus (repeat (first | with_reducible exact At.here | with_reducible apply At.there))) | with_reducible apply Sub.drop))))).mono ?_
  rintro e wa ⟨rfl, h⟩
  have h1 := (h.litInts 5 .u8 [97] (by simp) wa.heap.size rfl).pers1 (R' := fun w' => ∀ p ∈ [([Value.slice (some ⟨wa.heap.size, 0, none⟩) 1 1], ([97] : List Int))], LogR w' p.1 p.2) (fun w' hi p hp => by rw [List.mem_singleton.1 hp]; exact ⟨_, rfl, hi⟩)
  have h2 := St.litFlat [([Value.slice (some ⟨wa.heap.size, 0, none⟩) 1 1], ([97] : List Int))] 34 (fun p hp => by rw [List.mem_singleton.1 hp]) h1 (by simp) (wa.heap.size + 1) (by simp)
  have HA := hide h2
  clear h h1 h2 H9 m0 m1' m2 m3 m4 m5 m6 m7 m8 m9
  go_wp2_with fail
  refine (sames_true _ _ [[97]] _ (HA.out.getRows 1 rfl) (HA.out.getRows 0 rfl) HA.out).mono ?_
  rintro e wb ⟨rfl, h⟩
  have HB := hide h.tail.tail
  clear h HA
  go_wp2_with fail
  go_ret
  exact ⟨rfl, HB.out⟩
end Go.Proofs.YtpaelngpmbeedaaGreatDoor
