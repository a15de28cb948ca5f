/- The document's Image: Pack. Printed by gen_rimp.py. -/
import Derived.Test.YtpaelngpmbeedaaGreatDoorRimD
import Derived.Test.YtpaelngpmbeedaaGreatDoorImgPZ
import Derived.Test.YtpaelngpmbeedaaGreatDoorPackZ
import Derived.Test.YtpaelngpmbeedaaGreatDoorImgEZ
namespace Go.Proofs.YtpaelngpmbeedaaGreatDoor
open Go.RowKit

def blksB (b : Nat → List Int) (j : Nat) : List Int := (List.range j).flatMap fun i => bytB (b i)
theorem blksB_succ (b : Nat → List Int) (j : Nat) : blksB b (j + 1) = blksB b j ++ bytB (b j) := by simp [blksB, List.range_succ]
theorem blksB_four (b : Nat → List Int) : blksB b 4 = bytB (b 0) ++ bytB (b 1) ++ bytB (b 2) ++ bytB (b 3) := by
  rw [blksB_succ, blksB_succ, blksB_succ, blksB_succ]
  simp [blksB]
theorem blksB_length (b : Nat → List Int) (j : Nat) : (blksB b j).length ≤ j * 1002 := by
  induction j with
  | zero => simp [blksB]
  | succ j ih => have := bytB_length (b j); rw [blksB_succ, List.length_append]; omega

set_option maxRecDepth 100000 in
set_option maxHeartbeats 4000000 in
theorem rpack_st {M0 : Imm} {L : List Res} (g : Nat) (m : Nat → Rg) (w : World) (hm : ∀ k, (m k).ok) (h : St M0 w (rimR g m :: L)) :
    Calls Tryz.prog 9 #[.pointer (some ⟨g, 0, none⟩)] w fun e w' => ∃ v, e = .returned v ∧ St M0 w' (rowR 5 1 v (packI m).length (bv (packI m)) :: rimR g m :: L) := by
  obtain ⟨vs, h⟩ := h.rim
  have HLEN := hide (fun k => packTo_length m (fun i => by have := (hm i).ll; omega) k)
  have HM := hide hm
  have H := hide (h.nilRow 5 1)
  clear h hm
  go_enter Tryz.func9, Tryz.ntmps9
  go_wp2_with fail
  go_loopg [3, 4] 4 (fun gh b i wr => ∃ (k : Nat) (A : Option Addr) (q c : Nat), gh = 4 - k ∧ k ≤ 4 ∧ i = .int .i64 (k : Nat) ∧ b = .slice A q c ∧ q = (packTo m k).length ∧ St M0 wr (rowR 5 1 (.slice A q c) q (bv (packTo m k)) :: rimB g vs m :: regsR vs m :: L))
  case atStart => exact ⟨0, none, 0, 0, rfl, by omega, rfl, rfl, rfl, H.out⟩
  case round =>
    clear H
    obtain ⟨k, A, q, c, hg, hk, rfl, rfl, hq0, h⟩ := hrel
    have HG := hide hg
    have HQ0 := hide hq0
    have hq1 : q ≤ 1100000 := by have := HLEN.out k; omega
    clear hg hq0
    by_cases hlt : k < 4
    · have kn : (0 : Int) ≤ (k : Int) := by omega
      have k4 : (k : Int) < 4 := by omega
      have r0 := (HM.out k).h0
      have r1 := (HM.out k).h1
      have r2 := (HM.out k).s0
      have r3 := (HM.out k).s1
      have r4 := (HM.out k).ll
      have xh := ((h.blk 1 rfl).cell k).trans (rimC_high m vs hlt)
      have H1 := hide h
      clear h
      go_wp2_with fail
      refine (rnum_st (m k).high 8 _ r0 r1 H1.out).mono ?_
      rintro e w2 ⟨u, rfl, h⟩
      clear H1
      obtain ⟨A1, c1, rfl⟩ := h.slice
      have h3 := h.ints
      have H3 := hide (h3.swap)
      have SL := hide ((h3.get 0 rfl).sl.2.2.2)
      clear h h3
      generalize hq : (numI (m k).high 8).length = q1 at *
      have HQ1 := hide hq
      have hb1 : q1 ≤ 2000 := by rw [← hq]; exact by have := numI_length (m k).high 8; omega
      clear hq
      go_wp2_with (at_builtin; refine St.app_step u8_row H3.out rfl _ _ rfl rfl A1 q1 c1 rfl (bv (numI (m k).high 8)) SL.out (bv_one _) (by omega) (by omega) ?_; intro B1 d1 w1b h4; have xs := ((h4.blk 2 rfl).cell (4 + k)).trans (rimC_seq m vs hlt))
      have H4 := hide (h4.pick (L' := rowR 5 1 (.slice B1 (q + q1) d1) (q + q1) (bv (packTo m k) ++ bv (numI (m k).high 8)) :: rimB g vs m :: regsR vs m :: L) 4 [0, 2, 3])
      clear H3 h4 SL xs xh
      refine (rnum_st (m k).seq 4 _ r2 (by omega) H4.out).mono ?_
      rintro e w3 ⟨u, rfl, h⟩
      clear H4
      obtain ⟨A2, c2, rfl⟩ := h.slice
      have h3 := h.ints
      have H3 := hide (h3.swap)
      have SL := hide ((h3.get 0 rfl).sl.2.2.2)
      clear h h3
      generalize hq : (numI (m k).seq 4).length = q2 at *
      have HQ2 := hide hq
      have hb2 : q2 ≤ 2000 := by rw [← hq]; exact by have := numI_length (m k).seq 4; omega
      clear hq
      go_wp2_with (at_builtin; refine St.app_step u8_row H3.out rfl _ _ rfl rfl A2 q2 c2 rfl (bv (numI (m k).seq 4)) SL.out (bv_one _) (by omega) (by omega) ?_; intro B2 d2 w2b h4)
      have h5 := h4.pick (L' := rowR 5 1 (.slice B2 (q + q1 + q2) d2) (q + q1 + q2) (bv (packTo m k) ++ bv (numI (m k).high 8) ++ bv (numI (m k).seq 4)) :: rimB g vs m :: regsR vs m :: L) 4 [0, 2, 3]
      simp only [← bv_append] at h5
      generalize hX : packTo m k ++ numI (m k).high 8 ++ numI (m k).seq 4 = X at h5
      have HX := hide hX
      have HXL : Hid (X.length = q + q1 + q2) := hide (by rw [← hX]; simp only [List.length_append]; rw [← HQ0.out, HQ1.out, HQ2.out])
      generalize hqx : q + q1 + q2 = qx at *
      have hqb : qx ≤ 1200000 := by omega
      have H5 := hide h5
      clear H3 h4 h5 SL hX hqx
      go_loopg [3, 5] 4 (fun gh b i wq => ∃ (j : Nat) (A : Option Addr) (p c : Nat), gh = 4 - j ∧ j ≤ 4 ∧ i = .int .i64 (j : Nat) ∧ b = .slice A p c ∧ p = qx + (blksB (m k).b j).length ∧ St M0 wq (rowR 5 1 (.slice A p c) p (bv (X ++ blksB (m k).b j)) :: rimB g vs m :: regsR vs m :: L))
      case atStart => exact ⟨0, B2, qx, d2, rfl, by omega, rfl, rfl, by simp [blksB], by simpa [blksB] using H5.out⟩
      case round =>
        clear H5
        obtain ⟨j, Aj, p, cj, hg, hj, rfl, rfl, hp, h⟩ := hrel
        have HJ := hide hg
        have HP := hide hp
        have hp1 : p ≤ 1300000 := by have := blksB_length (m k).b j; omega
        clear hg hp
        by_cases hjt : j < 4
        · have jn : (0 : Int) ≤ (j : Int) := by omega
          have j4 : (j : Int) < 4 := by omega
          obtain ⟨Ab, cb, eb, _, _, _⟩ := ((h.get 2 rfl) k hlt).b j hjt
          have xb := ((h.blk 1 rfl).cell (8 + k * 4 + j)).trans (rimC_b m vs hlt hjt)
          rw [eb] at xb
          have EB := hide eb
          have h6 := (h.copy 2 rfl).pers1 (R' := fun w' => Ints w' .u8 (.slice Ab ((m k).b j).length cb) ((m k).b j)) (fun w' hr => by have := (hr k hlt).b j hjt; rw [EB.out] at this; exact this)
          have H6 := hide h6
          clear h h6 eb
          go_wp2_with fail
          refine (rbyt_st _ ((m k).b j) _ H6.out).mono ?_
          rintro e w4 ⟨u, rfl, h⟩
          have h := h.pick (L' := rowR 5 1 u (bytB ((m k).b j)).length (bv (bytB ((m k).b j))) :: rowR 5 1 (.slice Aj p cj) p (bv (X ++ blksB (m k).b j)) :: rimB g vs m :: regsR vs m :: L) 5 [0, 2, 3, 4]
          clear H6 xb
          obtain ⟨A3, c3, rfl⟩ := h.slice
          have h3 := h.ints
          have H3 := hide (h3.swap)
          have SL := hide ((h3.get 0 rfl).sl.2.2.2)
          clear h h3
          generalize hq : (bytB ((m k).b j)).length = q3 at *
          have HQ3 := hide hq
          have hb3 : q3 ≤ 2000 := by rw [← hq]; exact by have := bytB_length ((m k).b j); omega
          clear hq
          go_wp2_with (at_builtin; refine St.app_step u8_row H3.out rfl _ _ rfl rfl A3 q3 c3 rfl (bv (bytB ((m k).b j))) SL.out (bv_one _) (by omega) (by omega) ?_; intro B3 d3 w3b h4)
          have h5 := h4.pick (L' := rowR 5 1 (.slice B3 (p + q3) d3) (p + q3) (bv (X ++ blksB (m k).b j) ++ bv (bytB ((m k).b j))) :: rimB g vs m :: regsR vs m :: L) 4 [0, 2, 3]
          rw [← bv_append, List.append_assoc, ← blksB_succ] at h5
          have H5 := hide h5
          clear H3 h4 h5 SL
          go_roundg (4 - (j + 1))
          case measure => have := HJ.out; omega
          case rel => exact ⟨j + 1, B3, p + q3, d3, rfl, by omega, by go_num, rfl, by rw [blksB_succ, List.length_append, HP.out, HQ3.out, Nat.add_assoc], H5.out⟩
        · obtain rfl : j = 4 := by omega
          obtain ⟨A6, c6, e6, hc6, hm6, _⟩ := ((h.get 2 rfl) k hlt).log
          have E6 := hide e6
          have x6 := ((h.blk 1 rfl).cell (24 + k)).trans (rimC_log m vs hlt)
          rw [e6] at x6
          generalize hX : X ++ blksB (m k).b 4 = Y at h
          have HY := hide hX
          have HPL : Hid (Y.length = p) := hide (by rw [← hX, List.length_append, HXL.out, HP.out])
          generalize hn6 : (m k).log.length = n6 at *
          have HN6 := hide hn6
          have H6 := hide h
          clear h e6 hX hn6
          have h7 := H6.out.junk (.cells #[.int .u8 (n6 : Nat)] 5)
          have H7 := hide h7
          have SL := hide (sl_new1 wr 5 (.int .u8 (n6 : Nat)))
          clear h7
          go_wp2_with (at_builtin; refine St.app_step u8_row H7.out rfl _ _ rfl rfl (some ⟨wr.heap.size, 0, none⟩) 1 1 rfl [.int .u8 (n6 : Nat)] SL.out (by simp [Value.oneCell']) (by omega) (by omega) ?_; intro B4 d4 w5 h4)
          have h5 : St M0 w5 (rowR 5 1 (.slice B4 (p + 1) d4) (p + 1) (bv (Y ++ numI (n6 : Nat) 1)) :: rimB g vs m :: regsR vs m :: L) := by
            rw [bv_append, numI1 (by omega) (by omega)]
            exact h4
          have H5 := hide h5
          clear H6 H7 h4 h5 SL x6
          go_loopg [3, 6] n6 (fun gh b i wq => ∃ (t : Nat) (A : Option Addr) (z c : Nat), gh = n6 - t ∧ t ≤ n6 ∧ i = .int .i64 (t : Nat) ∧ b = .slice A z c ∧ z = p + 1 + (((m k).log.take t).flatMap bytB).length ∧ St M0 wq (rowR 5 1 (.slice A z c) z (bv (Y ++ numI (n6 : Nat) 1 ++ ((m k).log.take t).flatMap bytB)) :: rimB g vs m :: regsR vs m :: L))
          case atStart => exact ⟨0, B4, p + 1, d4, rfl, by omega, rfl, rfl, by simp, by simpa using H5.out⟩
          case round =>
            clear H5
            obtain ⟨t, At, z, ct, hg, ht, rfl, rfl, hz, h⟩ := hrel
            have HT := hide hg
            have HZ := hide hz
            have hz1 : z ≤ 1400000 := by
              have := logB_length ((m k).log.take t)
              have := List.length_take_le t (m k).log
              have := HN6.out
              omega
            clear hg hz
            have xl := ((h.blk 1 rfl).cell (24 + k)).trans (rimC_log m vs hlt)
            rw [E6.out] at xl
            by_cases htt : t < n6
            · have hx := List.getElem?_eq_getElem (l := (m k).log) (i := t) (by rw [HN6.out]; exact htt)
              generalize (m k).log[t]'(by rw [HN6.out]; exact htt) = x at hx
              have hr := ((h.get 2 rfl) k hlt).log
              rw [E6.out] at hr
              obtain ⟨ad, vb, rfl, ecs, hcell, hI⟩ := hr.at1 hx
              obtain ⟨Bx, dx, rfl, _, _, _⟩ := hI
              have h9 := ((h.copy 2 rfl).pers1 (R' := fun w' => Ints w' .u8 (.slice Bx x.length dx) x) (fun w' hr => by
                have h1 := (hr k hlt).log
                rw [E6.out] at h1
                obtain ⟨_, vb', _, e', _, hI'⟩ := h1.at1 hx
                rw [ecs] at e'
                injection e' with e'
                rw [e']
                exact hI'))
              have HX9 := hide hx
              have H9 := hide h9
              have hln : ((m k).log.take (t + 1)).flatMap bytB = ((m k).log.take t).flatMap bytB ++ bytB x := by rw [take_snoc hx, List.flatMap_append]; simp
              have HLN := hide hln
              have i0 : (0 : Int) ≤ (t : Int) := by omega
              have i1 : (t : Int) < (n6 : Int) := by omega
              clear h hr ecs h9 hx hln
              go_wp2_with fail
              refine (rbyt_st _ x _ H9.out).mono ?_
              rintro e w6 ⟨u, rfl, h⟩
              have h := h.pick (L' := rowR 5 1 u (bytB x).length (bv (bytB x)) :: rowR 5 1 (.slice At z ct) z (bv (Y ++ numI (n6 : Nat) 1 ++ ((m k).log.take t).flatMap bytB)) :: rimB g vs m :: regsR vs m :: L) 5 [0, 2, 3, 4]
              clear H9 xl
              obtain ⟨A5, c5, rfl⟩ := h.slice
              have h3 := h.ints
              have H3 := hide (h3.swap)
              have SL := hide ((h3.get 0 rfl).sl.2.2.2)
              clear h h3
              generalize hq : (bytB x).length = q5 at *
              have HQ5 := hide hq
              have hb5 : q5 ≤ 2000 := by rw [← hq]; exact by have := bytB_length x; omega
              clear hq
              go_wp2_with (at_builtin; refine St.app_step u8_row H3.out rfl _ _ rfl rfl A5 q5 c5 rfl (bv (bytB x)) SL.out (bv_one _) (by omega) (by omega) ?_; intro B5 d5 w5b h4)
              have h5 := h4.pick (L' := rowR 5 1 (.slice B5 (z + q5) d5) (z + q5) (bv (Y ++ numI (n6 : Nat) 1 ++ ((m k).log.take t).flatMap bytB) ++ bv (bytB x)) :: rimB g vs m :: regsR vs m :: L) 4 [0, 2, 3]
              rw [← bv_append, List.append_assoc, ← HLN.out] at h5
              have H5 := hide h5
              clear H3 h4 h5 SL
              go_roundg (n6 - (t + 1))
              case measure => have := HT.out; omega
              case rel => exact ⟨t + 1, B5, z + q5, d5, rfl, by omega, by go_num, rfl, by rw [HLN.out, List.length_append, HZ.out, HQ5.out, Nat.add_assoc], H5.out⟩
            · obtain rfl : t = n6 := by omega
              rw [List.take_of_length_le (by rw [HN6.out]; exact Nat.le_refl _)] at h
              have H := hide h
              have hreg : Y ++ numI (t : Nat) 1 ++ (m k).log.flatMap bytB = packTo m (k + 1) := by
                rw [packTo_succ, ← HY.out, ← HX.out, blksB_four]
                unfold regB
                rw [HN6.out]
                simp only [List.append_assoc]
              have HRG := hide hreg
              have hzl : z = (packTo m (k + 1)).length := by
                rw [← hreg, List.length_append, List.length_append, HPL.out, HZ.out, List.take_of_length_le (by rw [HN6.out]; exact Nat.le_refl _), numI1 (by omega) (by omega)]
                rfl
              have HZL := hide hzl
              clear h hreg hzl
              go_wp2_with fail
              go_roundg (4 - (k + 1))
              case measure => have := HG.out; omega
              case rel => exact ⟨k + 1, At, z, ct, rfl, by omega, by go_num, rfl, HZL.out, by rw [← HRG.out]; exact H.out⟩
    · obtain rfl : k = 4 := by omega
      have H := hide h
      clear h
      go_wp2_with fail
      go_ret
      refine ⟨.slice A q c, rfl, ?_⟩
      have h5 := H.out.row_eq (n' := (packI m).length) (xs' := bv (packI m)) HQ0.out rfl
      exact (St.addRim h5.dn2).swap

end Go.Proofs.YtpaelngpmbeedaaGreatDoor
