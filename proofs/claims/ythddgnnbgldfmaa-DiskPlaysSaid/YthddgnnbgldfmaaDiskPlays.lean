/- DiskPlays, the walk. -/
import Derived.Test.YthddgnnbgldfmaaRefL
namespace Go.Proofs.Ythddgnnbgldfmaa
open Go.RowKit

set_option maxRecDepth 100000 in
set_option maxHeartbeats 4000000 in
theorem plays_law {M0 : Imm} {L : List Res} (n : Int) (v : Value) (os : List Op4) (w : World) (hos : ∀ o ∈ os, -9223372036854775808 ≤ o.i ∧ o.i ≤ 9223372036854775807) (h : St M0 w (rowsR 4 Op4R v os :: L)) :
    Calls Try.prog 10 #[.int .i64 n, v] w fun e w' => e = .returned (.bool true) ∧ St M0 w' (rowsR 4 Op4R v os :: L) := by
  obtain ⟨A, c, rfl, hc, hm⟩ := (h.getRows 0 rfl).slice
  have HOS := hide hos
  generalize hmm : os.length = m at *
  have HM := hide hmm
  have H := hide h
  clear h hmm hos
  by_cases hn : n < 1 ∨ 512 < n
  · go_enter Try.func10, Try.ntmps10
    go_wp2_with fail
    refine (awake_ds H.out).mono ?_
    rintro e w1 ⟨rfl, h⟩
    have H1 := hide h
    clear H h
    go_wp2_with fail
    refine (new_no_ds n w1 hn H1.out).mono ?_
    rintro e w2 ⟨rfl, h⟩
    have H2 := hide h
    clear H1 h
    go_wp2_with fail
    refine (rnew_no n w2 hn H2.out).mono ?_
    rintro e w3 ⟨rfl, h⟩
    have H3 := hide h
    clear H2 h hn
    go_wp2_with fail
    go_ret
    exact ⟨rfl, H3.out⟩
  obtain ⟨q, rfl⟩ := Int.eq_ofNat_of_zero_le (show 0 ≤ n by omega)
  have q1 : 1 ≤ q := by omega
  have q2 : q ≤ 512 := by omega
  clear hn
  go_enter Try.func10, Try.ntmps10
  go_wp2_with fail
  refine (awake_ds H.out).mono ?_
  rintro e w1 ⟨rfl, h⟩
  have H1 := hide h
  clear H h
  go_wp2_with fail
  refine (new_ds (q : Int) (by omega) (by omega) H1.out).mono ?_
  rintro e w2 ⟨g0, rfl, h⟩
  rw [Int.toNat_natCast] at h
  have H2 := hide h
  clear H1 h
  go_wp2_with fail
  refine (rnew_st q w2 q1 q2 H2.out).mono ?_
  rintro e w3 ⟨g0', rfl, h⟩
  have H3 := hide h
  clear H2 h
  by_cases hq16 : 16 < q
  · have hq16' : 16 < (q : Int) := by omega
    go_wp2_with fail
    go_ret
    exact ⟨rfl, H3.out.tail.tail⟩
  have hq16' : ¬ 16 < (q : Int) := by omega
  by_cases hm40 : 40 < m
  · have hm40' : 40 < (m : Int) := by omega
    go_wp2_with fail
    go_ret
    exact ⟨rfl, H3.out.tail.tail⟩
  have hm40' : ¬ 40 < (m : Int) := by omega
  go_wp2_with fail
  go_loopg [6, 8, 10] m (fun gh x y i wr => ∃ (k g : Nat) (D : DS) (g' : Nat) (E : RD), gh = m - k ∧ k ≤ m ∧ i = .int .i64 k ∧ x = .pointer (some ⟨g, 0, none⟩) ∧ y = .pointer (some ⟨g', 0, none⟩) ∧ Same4 D E ∧ D.ok ∧ D.n = q ∧ D.pend.length ≤ k ∧ E.lo ∧
    St M0 wr (dsR g D :: rfR g' E :: rowsR 4 Op4R (.slice A m c) os :: L))
  case atStart => exact ⟨0, g0, DS.new q, g0', RD.new q, rfl, Nat.zero_le _, rfl, rfl, rfl, Same4.new q, DS.new_ok q1 q2, rfl, Nat.le_refl _, RD.lo.new q, H3.out.swap⟩
  case round =>
    clear H3
    obtain ⟨k, g, D, g', E, hgk, hk, rfl, rfl, rfl, hsm, hok, hnq, hpk, hlo, h⟩ := hrel
    have HGK := hide hgk
    have HS := hide hsm
    have HO := hide hok
    have HN := hide hnq
    have HLo := hide hlo
    have hpm : D.pend.length < 1000000 := by omega
    have HEO := hide (hsm.ok hok)
    have hpe : E.pend.length < 1000000 := by rw [hsm.pend]; exact hpm
    clear hgk hsm hok hnq hlo
    by_cases hlt : k < m
    · have hx := List.getElem?_eq_getElem (l := os) (i := k) (by rw [HM.out]; exact hlt)
      have hoi := HOS.out _ (List.getElem_mem (l := os) (n := k) (by rw [HM.out]; exact hlt))
      generalize os[k]'(by rw [HM.out]; exact hlt) = o at hx hoi
      obtain ⟨oi1, oi2⟩ := hoi
      obtain ⟨ad, cs, rfl, hl, hcs, ⟨B, C, rfl, hB, hC⟩, h⟩ := h.elem 2 rfl hx
      obtain ⟨k0, k1, k2, k3⟩ := cells4 hcs
      obtain ⟨B1, b1, rfl, hb1, hb2, _⟩ := id hB
      obtain ⟨C1, c1, rfl, hc1, hc2, _⟩ := id hC
      unfold maxLen at hb2 hc2
      have h2 := (h.copy 0 rfl).pers1 (R' := fun w' => Ints w' .u8 (.slice B1 o.b.length b1) o.b) (fun w' h => Op4R.b h.2)
      have h2 := (h2.copy 1 rfl).pers1 (R' := fun w' => Ints w' .i64 (.slice C1 o.p.length c1) o.p) (fun w' h => Op4R.p h.2)
      have H := hide (show St M0 wr (dsR g D :: rfR g' E :: persR _ :: intsR .u8 (.slice B1 o.b.length b1) o.b :: intsR .i64 (.slice C1 o.p.length c1) o.p :: rowsR 4 Op4R (.slice (some ad) m c) os :: L) from h2.pick 6 [3, 4, 2, 1, 0, 5])
      clear hx hcs hl hB hC h h2
      by_cases d1 : o.d = 1
      · have D1 := isT d1
        obtain ⟨e1, e2⟩ := HS.out.write HO.out o.i o.b
        have E1 := hide e1
        have E2 := hide e2
        clear e1 e2
        go_wp2_with fail
        refine region_tail 11 (by kernel_rfl) (by kernel_rfl) (fun W hW => ?_)
        have HW := hide (H.out.grow (show Fr Non wr W by rw [hW]; exact (Fr.refl _ _).drew))
        obtain ⟨j0, j1, j2, j3⟩ := cells4 (HW.out.get 2 rfl).1
        clear H hW k0 k1 k2 k3
        simp only [List.take_succ_cons, List.take_zero, List.drop_succ_cons, List.drop_zero]
        repeat still_step
        try refine wpStill_nil ?_
        clear j0 j1 j2 j3
        go_wp2_with fail
        refine (write_ds o.i _ o.b 2 HO.out hpm rfl HW.out).mono ?_
        rintro e w5 ⟨rfl, h⟩
        have HV := hide h
        clear HW h
        go_wp2_with fail
        refine region_mix (fun W => W.cell? ⟨(ad.add (k * 4)).block, (ad.add (k * 4)).off + 1, none⟩ = some (.int .i64 o.i) ∧ W.cell? ⟨(ad.add (k * 4)).block, (ad.add (k * 4)).off + 2, none⟩ = some (.slice B1 o.b.length b1)) 14 [0, 1, 2, 3, 4, 5, 6, 7, 8, 9, 10, 11] [12, 13] (by kernel_rfl) (by kernel_rfl)
          (fun d => by cases d <;> exact fun _ _ _ _ h => h) (fun W2 hW => ?_)
        have HW := hide (HV.out.grow (show Fr Non w5 W2 by rw [hW]; exact (Fr.refl _ _).drew))
        refine ⟨⟨(cells4 (HW.out.get 2 rfl).1).2.1, (cells4 (HW.out.get 2 rfl).1).2.2.1⟩, ?_⟩
        clear HV hW
        have i0 : (0 : Int) ≤ (k : Int) := by omega
        have i1 : (k : Int) < (m : Int) := by omega
        iterate 12 (refine take_run rfl rfl (fun W hW => by (rcases hW with ⟨_, _⟩; go_simp; try rfl)) ?_; simp only [Act.put, List.setIfInBounds_toArray, List.set_cons_succ, List.set_cons_zero])
        refine take_nil ?_
        refine seq_call (f := 36) (args := #[.pointer (some ⟨g', 0, none⟩), .int .i64 o.i, .slice B1 o.b.length b1]) rfl rfl (by go_simp) ((rwrite_st g' E D.n o.i _ o.b _ HEO.out hpe HLo.out HW.out.up3.up2).mono ?_)
        rintro e w6 ⟨rfl, h⟩
        rw [E1.out]
        have h' := (show St M0 w6 (dsR g (D.write o.i o.b) :: rfR g' (E.write o.i o.b) :: persR _ :: intsR .u8 (.slice B1 o.b.length b1) o.b :: intsR .i64 (.slice C1 o.p.length c1) o.p :: rowsR 4 Op4R (.slice (some ad) m c) os :: L) from h.pick 6 [2, 0, 3, 1, 4, 5])
        refine ⟨_, rfl, fun _ => ⟨(cells4 (h'.get 2 rfl).1).2.1, (cells4 (h'.get 2 rfl).1).2.2.1⟩, ?_⟩
        have HF := hide h'
        clear HW h h'
        have hxx : (D.writeE o.i o.b != D.writeE o.i o.b) = false := by simp
        (simp only [Act.put, List.setIfInBounds_toArray, List.set_cons_succ, List.set_cons_zero])
        refine seq_read rfl rfl (v := .bool false) (by (go_simp; try rfl)) (fun _ => ⟨(cells4 (HF.out.get 2 rfl).1).2.1, (cells4 (HF.out.get 2 rfl).1).2.2.1⟩) ?_
        (simp only [Act.put, List.setIfInBounds_toArray, List.set_cons_succ, List.set_cons_zero])
        refine seq_nil ?_
        have hst : D.step4 ⟨1, o.i, o.b, []⟩ = D.write o.i o.b := rfl
        have HSM := hide (show Same4 (D.write o.i o.b) (E.write o.i o.b) from E2.out)
        have HOK := hide (show DS.ok (D.write o.i o.b) from HO.out.write _ _)
        have HLO := hide (show RD.lo (E.write o.i o.b) from HLo.out.write _ _)
        have hn' : (D.write o.i o.b).n = q := by rw [← hst, DS.step4_n]; exact HN.out
        have hp' : (D.write o.i o.b).pend.length ≤ k + 1 := by rw [← hst]; exact Nat.le_trans (DS.step4_pend _ _) (by omega)
        have HNP := hide (And.intro hn' hp')
        clear hn' hp'
        have HX := hide (HF.out.del2.del2.del2)
        clear HF
        go_wp2_with fail
        refine (same4_st g g' (D.write o.i o.b) (E.write o.i o.b) _ HSM.out HOK.out (by have := HNP.out.2; omega) HX.out).mono ?_
        rintro e w9 ⟨rfl, h⟩
        have H9 := hide h
        clear HX h
        go_wp2_with fail
        go_roundg (m - (k + 1))
        case measure => have := HGK.out; omega
        case rel => exact ⟨k + 1, g, D.write o.i o.b, g', E.write o.i o.b, rfl, hlt, by go_num, rfl, rfl, HSM.out, HOK.out, HNP.out.1, HNP.out.2, HLO.out, H9.out⟩
      have D1 := isF d1
      by_cases d2 : o.d = 2
      · have D2 := isT d2
        go_wp2_with fail
        refine (sync_ds HO.out hpm H.out).mono ?_
        rintro e w5 ⟨rfl, h⟩
        have HV := hide h
        clear H h
        go_wp2_with fail
        refine (rsync_st g' E D.n _ HEO.out hpe HLo.out HV.out.swap).mono ?_
        rintro e w6 ⟨rfl, h⟩
        have HF := hide h.swap
        have hst : D.step4 ⟨2, 0, [], []⟩ = D.sync := rfl
        clear HV h k0 k1 k2 k3
        have HSM := hide (show Same4 (D.sync) (E.sync) from HS.out.sync HO.out)
        have HOK := hide (show DS.ok (D.sync) from HO.out.sync)
        have HLO := hide (show RD.lo (E.sync) from HLo.out.sync)
        have hn' : (D.sync).n = q := by rw [← hst, DS.step4_n]; exact HN.out
        have hp' : (D.sync).pend.length ≤ k + 1 := by rw [← hst]; exact Nat.le_trans (DS.step4_pend _ _) (by omega)
        have HNP := hide (And.intro hn' hp')
        clear hn' hp'
        have HX := hide (HF.out.del2.del2.del2)
        clear HF
        go_wp2_with fail
        refine (same4_st g g' (D.sync) (E.sync) _ HSM.out HOK.out (by have := HNP.out.2; omega) HX.out).mono ?_
        rintro e w9 ⟨rfl, h⟩
        have H9 := hide h
        clear HX h
        go_wp2_with fail
        go_roundg (m - (k + 1))
        case measure => have := HGK.out; omega
        case rel => exact ⟨k + 1, g, D.sync, g', E.sync, rfl, hlt, by go_num, rfl, rfl, HSM.out, HOK.out, HNP.out.1, HNP.out.2, HLO.out, H9.out⟩
      have D2 := isF d2
      by_cases d3 : o.d = 3
      · have D3 := isT d3
        go_wp2_with fail
        refine (crash_ds _ o.p 3 HO.out hpm rfl H.out).mono ?_
        rintro e w5 ⟨rfl, h⟩
        have HV := hide h
        clear H h k0 k1 k2 k3
        obtain ⟨k0, k1, k2, k3⟩ := cells4 (HV.out.get 2 rfl).1
        go_wp2_with fail
        refine (rcrash_st g' E D.n _ o.p _ HEO.out hpe HV.out.up4.up2).mono ?_
        rintro e w6 ⟨rfl, h⟩
        have HF := hide (show St M0 w6 (dsR g (D.crash o.p) :: rfR g' (E.crash o.p) :: persR _ :: intsR .u8 (.slice B1 o.b.length b1) o.b :: intsR .i64 (.slice C1 o.p.length c1) o.p :: rowsR 4 Op4R (.slice (some ad) m c) os :: L) from h.pick 6 [2, 0, 3, 4, 1, 5])
        have hst : D.step4 ⟨3, 0, [], o.p⟩ = D.crash o.p := rfl
        clear HV h k0 k1 k2 k3
        have HSM := hide (show Same4 (D.crash o.p) (E.crash o.p) from HS.out.crash _)
        have HOK := hide (show DS.ok (D.crash o.p) from HO.out.crash _)
        have HLO := hide (show RD.lo (E.crash o.p) from RD.lo.crash E _)
        have hn' : (D.crash o.p).n = q := by rw [← hst, DS.step4_n]; exact HN.out
        have hp' : (D.crash o.p).pend.length ≤ k + 1 := by rw [← hst]; exact Nat.le_trans (DS.step4_pend _ _) (by omega)
        have HNP := hide (And.intro hn' hp')
        clear hn' hp'
        have HX := hide (HF.out.del2.del2.del2)
        clear HF
        go_wp2_with fail
        refine (same4_st g g' (D.crash o.p) (E.crash o.p) _ HSM.out HOK.out (by have := HNP.out.2; omega) HX.out).mono ?_
        rintro e w9 ⟨rfl, h⟩
        have H9 := hide h
        clear HX h
        go_wp2_with fail
        go_roundg (m - (k + 1))
        case measure => have := HGK.out; omega
        case rel => exact ⟨k + 1, g, D.crash o.p, g', E.crash o.p, rfl, hlt, by go_num, rfl, rfl, HSM.out, HOK.out, HNP.out.1, HNP.out.2, HLO.out, H9.out⟩
      have D3 := isF d3
      by_cases d4 : o.d = 4
      · have D4 := isT d4
        go_wp2_with fail
        refine (copy_ds HO.out hpm H.out).mono ?_
        rintro e w5 ⟨gN, rfl, h⟩
        have HV := hide h.del1
        clear H h k0 k1 k2 k3
        go_wp2_with fail
        refine (rcopy_st g' E _ HV.out.swap).mono ?_
        rintro e w6 ⟨gR, rfl, h⟩
        have HF := hide h.swap
        clear HV h
        have HSM := hide (show Same4 (D) (E) from HS.out)
        have HOK := hide (show DS.ok (D) from HO.out)
        have HLO := hide (show RD.lo (E) from HLo.out)
        have hn' : (D).n = q := HN.out
        have hp' : (D).pend.length ≤ k + 1 := by omega
        have HNP := hide (And.intro hn' hp')
        clear hn' hp'
        have HX := hide (HF.out.del2.del2.del2)
        clear HF
        go_wp2_with fail
        refine (same4_st gN gR (D) (E) _ HSM.out HOK.out (by have := HNP.out.2; omega) HX.out).mono ?_
        rintro e w9 ⟨rfl, h⟩
        have H9 := hide h
        clear HX h
        go_wp2_with fail
        go_roundg (m - (k + 1))
        case measure => have := HGK.out; omega
        case rel => exact ⟨k + 1, gN, D, gR, E, rfl, hlt, by go_num, rfl, rfl, HSM.out, HOK.out, HNP.out.1, HNP.out.2, HLO.out, H9.out⟩
      have D4 := isF d4
      by_cases d5 : o.d = 5
      · have D5 := isT d5
        go_wp2_with fail
        refine (fuse_ds o.i H.out).mono ?_
        rintro e w5 ⟨rfl, h⟩
        have HV := hide h
        clear H h k0 k1 k2 k3
        obtain ⟨k0, k1, k2, k3⟩ := cells4 (HV.out.get 2 rfl).1
        go_wp2_with fail
        refine (rfuse_st g' E o.i _ HV.out.swap).mono ?_
        rintro e w6 ⟨rfl, h⟩
        have HF := hide h.swap
        clear HV h k0 k1 k2 k3
        have HSM := hide (show Same4 ({ D with fuse := o.i }) (E.fuse o.i) from HS.out.fuse_ _)
        have HOK := hide (show DS.ok ({ D with fuse := o.i }) from ⟨HO.out.n1, HO.out.n2, HO.out.hs, HO.out.hu, HO.out.hp, oi1, oi2⟩)
        have HLO := hide (show RD.lo (E.fuse o.i) from RD.lo.fuse E _ oi2)
        have hn' : ({ D with fuse := o.i }).n = q := HN.out
        have hp' : ({ D with fuse := o.i }).pend.length ≤ k + 1 := Nat.le_trans hpk (Nat.le_succ _)
        have HNP := hide (And.intro hn' hp')
        clear hn' hp'
        have HX := hide (HF.out.del2.del2.del2)
        clear HF
        go_wp2_with fail
        refine (same4_st g g' ({ D with fuse := o.i }) (E.fuse o.i) _ HSM.out HOK.out (by have := HNP.out.2; omega) HX.out).mono ?_
        rintro e w9 ⟨rfl, h⟩
        have H9 := hide h
        clear HX h
        go_wp2_with fail
        go_roundg (m - (k + 1))
        case measure => have := HGK.out; omega
        case rel => exact ⟨k + 1, g, { D with fuse := o.i }, g', E.fuse o.i, rfl, hlt, by go_num, rfl, rfl, HSM.out, HOK.out, HNP.out.1, HNP.out.2, HLO.out, H9.out⟩
      have D5 := isF d5
      have HF := H
      clear H
      have HSM := hide (show Same4 (D) (E) from HS.out)
      have HOK := hide (show DS.ok (D) from HO.out)
      have HLO := hide (show RD.lo (E) from HLo.out)
      have hn' : (D).n = q := HN.out
      have hp' : (D).pend.length ≤ k + 1 := by omega
      have HNP := hide (And.intro hn' hp')
      clear hn' hp'
      have HX := hide (HF.out.del2.del2.del2)
      clear HF
      go_wp2_with fail
      refine (same4_st g g' (D) (E) _ HSM.out HOK.out (by have := HNP.out.2; omega) HX.out).mono ?_
      rintro e w9 ⟨rfl, h⟩
      have H9 := hide h
      clear HX h
      go_wp2_with fail
      go_roundg (m - (k + 1))
      case measure => have := HGK.out; omega
      case rel => exact ⟨k + 1, g, D, g', E, rfl, hlt, by go_num, rfl, rfl, HSM.out, HOK.out, HNP.out.1, HNP.out.2, HLO.out, H9.out⟩
    · have H := hide h
      clear h
      go_wp2_with fail
      go_ret
      exact ⟨rfl, H.out.tail.tail⟩

end Go.Proofs.Ythddgnnbgldfmaa
