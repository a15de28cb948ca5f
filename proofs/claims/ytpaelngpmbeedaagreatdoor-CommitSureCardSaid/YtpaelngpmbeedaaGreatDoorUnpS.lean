/- Unpack of the document's image. -/
import Derived.Test.YtpaelngpmbeedaaGreatDoorUnpZ
import Derived.Test.YtpaelngpmbeedaaGreatDoorRimD
namespace Go.Proofs.YtpaelngpmbeedaaGreatDoor
open Go.RowKit

/-- Unpack of the document, with what it gives -/
def RunqP (bs : List Int) (M0 : Imm) (L : List Res) (w' : World) (e : Ending) : Prop :=
  (unpE bs = 0 → ∃ g, e = .returned (.tuple #[.pointer (some ⟨g, 0, none⟩), .int .i64 0]) ∧ St M0 w' (rimR g (Rd.img ⟨bs, false⟩ 4).1 :: L)) ∧
  (unpE bs ≠ 0 → e = .returned (.tuple #[.pointer none, .int .i64 (unpE bs)]) ∧ St M0 w' L)

set_option maxRecDepth 100000 in
set_option maxHeartbeats 4000000 in
theorem runq_st {M0 : Imm} {L : List Res} (v : Value) (bs : List Int) (w : World) (hb : Bytes bs) (hl : bs.length ≤ 1000000) (h : St M0 w (intsR .u8 v bs :: L)) :
    Calls Tryz.prog 29 #[v] w fun e w' => RunqP bs M0 L w' e := by
  have ok0 : Rd.Ok (Rd.mk bs false) := ⟨hb, by show bs.length ≤ 140737488355328; omega, fun h => by cases h⟩
  have OKR := hide (fun k => ok0.img k)
  obtain ⟨A0, c0, rfl, _, _, _⟩ := h.get 0 rfl
  have h2 := (St.addRr (r := Rd.mk bs false) (h.alloc 121 #[.slice A0 bs.length c0, .int .i64 0, .bool false]) (Nat.zero_le _) (by omega) (by simp)).newRim
  simp only [World.size_alloc] at h2
  have H2 := hide h2.swap
  clear h hb hl ok0 h2
  go_enter Tryz.func29, Tryz.ntmps29
  go_wp2_with fail
  generalize w.heap.size = s at *
  go_loopg [6, 7] 4 (fun gh o i wr => ∃ k : Nat, gh = 4 - k ∧ k ≤ 4 ∧ o = .bool (imgOk (Rd.img ⟨bs, false⟩ k).1 k) ∧ i = .int .i64 (k : Nat) ∧ St M0 wr (rrR s (Rd.img ⟨bs, false⟩ k).2 :: rimR (s + 1) (Rd.img ⟨bs, false⟩ k).1 :: L))
  case atStart => exact ⟨0, rfl, by omega, rfl, rfl, H2.out⟩
  case round =>
    clear H2
    obtain ⟨k, hg, hk, rfl, rfl, h⟩ := hrel
    have HG := hide hg
    clear hg
    by_cases hlt : k < 4
    · have hm0 := Rd.img_rest ⟨bs, false⟩ k k (Nat.le_refl _)
      have hN := img_next ⟨bs, false⟩ k
      have hS := region_sum ⟨bs, false⟩ k
      have hR : (Rd.img ⟨bs, false⟩ (k + 1)).2 = (Rd.img ⟨bs, false⟩ k).2.h5.2 := rfl
      have OK := OKR.out k
      have H := hide h
      clear h
      generalize hok : imgOk (Rd.img ⟨bs, false⟩ k).1 k = ok at *
      generalize (Rd.img ⟨bs, false⟩ k).2 = r at *
      generalize (Rd.img ⟨bs, false⟩ k).1 = m at *
      generalize hz : Rd.img ⟨bs, false⟩ (k + 1) = z at *
      have HZ := hide hz
      clear hz
      have HM0 := hide hm0
      have HN := hide hN
      have HS := hide hS
      have HR := hide hR
      have OK0 := hide OK
      have OK1 := hide (show r.h1.2.Ok from OK.num 8)
      have OK2 := hide (show r.h2.2.Ok from (OK.num 8).num 4)
      have OK3 := hide (show r.h3.2.Ok from OK2.out.blk 4)
      have OK4 := hide (show r.h4.2.Ok from OK3.out.num 1)
      have b1 : 0 ≤ r.h1.1 ∧ r.h1.1 < 18446744073709551616 := Rd.num8_lt OK
      have b10 := b1.1
      have b2 : 0 ≤ r.h2.1 ∧ r.h2.1 < 4294967296 := Rd.num4_lt OK1.out
      have b4 : 0 ≤ r.h4.1 ∧ r.h4.1 < 256 := Rd.num1_lt OK3.out
      obtain ⟨b20, b21⟩ := b2
      have u2 : IntKind.u32.wrap r.h2.1 = r.h2.1 := IntWalk.u32_in _ (by omega)
      obtain ⟨q4, hq4⟩ := Int.eq_ofNat_of_zero_le b4.1
      have q4l : q4 < 256 := by omega
      have HQ4 := hide hq4
      clear hm0 hN hS hR OK b4 hq4 hok b1
      have k0 : (0 : Int) ≤ (k : Int) := by omega
      have k4 : (k : Int) < 4 := by omega
      go_wp2_with fail
      refine region_mix (fun _ => True) 8 [0, 1, 2, 4, 5] [3, 6, 7] (by kernel_rfl) (by kernel_rfl) (fun d => by cases d <;> exact fun _ _ _ _ h => h) (fun W hW => ?_)
      have HS0 := hide (show St M0 W (rrR s r :: rimR (s + 1) m :: L) by
        rw [hW]
        exact H.out.drew)
      clear hW H
      refine ⟨trivial, ?_⟩
      iterate 5 (refine take_run rfl rfl (fun W hW => by (clear hW; go_simp; try rfl)) ?_; (simp only [Act.put, List.setIfInBounds_toArray, List.set_cons_succ, List.set_cons_zero]))
      refine take_nil ?_
      refine seq_call (f := 52) (args := #[.pointer (some ⟨s, 0, none⟩), .int .i64 8]) rfl rfl (by go_simp; try rfl) ((rrnum_st s r 8 _ OK0.out.hb HS0.out).mono ?_)
      rintro e w2 ⟨rfl, h⟩
      refine ⟨_, rfl, fun _ => trivial, ?_⟩
      obtain ⟨vs, h3⟩ := h.swap.rim
      obtain ⟨⟨u, hc⟩, hf⟩ := rim_there (i := k) (h3.blk 0 rfl) (by omega)
      have h4 := h3.rimHigh hlt r.h1.1
      have H1 := hide (show St M0 _ (rrR s r.h1.2 :: rimR (s + 1) (upd m k { m k with high := r.h1.1 }) :: L) from h4.addRim.swap)
      clear HS0 h h3 h4
      rw [show (r.num 8).1 = r.h1.1 from rfl]
      (simp only [Act.put, List.setIfInBounds_toArray, List.set_cons_succ, List.set_cons_zero])
      refine seq_read rfl rfl (by (go_simp; try rfl)) (fun _ => trivial) ?_
      (simp only [Act.put, List.setIfInBounds_toArray, List.set_cons_succ, List.set_cons_zero])
      refine seq_store rfl rfl 30 _ _ (.pointer (some ⟨s + 1, k, none⟩)) (.int .u64 r.h1.1) rfl rfl rfl (by go_simp; try rfl) (fun _ => trivial) ?_
      simp only [Act.put]
      refine seq_nil ?_
      clear hc hf
      generalize World.setCell _ _ _ = w5 at H1 ⊢
      go_wp2_with fail
      refine region_mix (fun _ => True) 9 [0, 1, 2, 5, 6] [3, 4, 7, 8] (by kernel_rfl) (by kernel_rfl) (fun d => by cases d <;> exact fun _ _ _ _ h => h) (fun W hW => ?_)
      have HS0 := hide (show St M0 W (rrR s r.h1.2 :: rimR (s + 1) (upd m k { m k with high := r.h1.1 }) :: L) by
        rw [hW]
        exact H1.out.drew)
      clear hW H1
      refine ⟨trivial, ?_⟩
      iterate 5 (refine take_run rfl rfl (fun W hW => by (clear hW; go_simp; try rfl)) ?_; (simp only [Act.put, List.setIfInBounds_toArray, List.set_cons_succ, List.set_cons_zero]))
      refine take_nil ?_
      refine seq_call (f := 52) (args := #[.pointer (some ⟨s, 0, none⟩), .int .i64 4]) rfl rfl (by go_simp; try rfl) ((rrnum_st s r.h1.2 4 _ OK1.out.hb HS0.out).mono ?_)
      rintro e w6 ⟨rfl, h⟩
      refine ⟨_, rfl, fun _ => trivial, ?_⟩
      obtain ⟨vs, h3⟩ := h.swap.rim
      obtain ⟨⟨u, hc⟩, hf⟩ := rim_there (i := 4 + k) (h3.blk 0 rfl) (by omega)
      have h4 := h3.rimSeq hlt r.h2.1
      rw [upd_upd, upd_at, HM0.out] at h4
      have H1 := hide (show St M0 _ (rrR s r.h2.2 :: rimR (s + 1) (upd m k ⟨r.h1.1, r.h2.1, fun _ => [], []⟩) :: L) from h4.addRim.swap)
      clear HS0 h h3 h4
      rw [show (r.h1.2.num 4).1 = r.h2.1 from rfl]
      (simp only [Act.put, List.setIfInBounds_toArray, List.set_cons_succ, List.set_cons_zero])
      refine seq_read (v := .int .u32 r.h2.1) rfl rfl (by (go_simp; try exact congrArg (fun z => Result.ok (Next.value (.int .u32 z)) _) u2)) (fun _ => trivial) ?_
      (simp only [Act.put, List.setIfInBounds_toArray, List.set_cons_succ, List.set_cons_zero])
      refine seq_read rfl rfl (by (go_simp; try rfl)) (fun _ => trivial) ?_
      (simp only [Act.put, List.setIfInBounds_toArray, List.set_cons_succ, List.set_cons_zero])
      refine seq_store rfl rfl 32 _ _ (.pointer (some ⟨s + 1, 4 + k, none⟩)) (.int .u32 r.h2.1) rfl rfl rfl (by go_simp; try rfl) (fun _ => trivial) ?_
      simp only [Act.put]
      refine seq_nil ?_
      clear hc hf
      generalize World.setCell _ _ _ = w7 at H1 ⊢
      go_wp2_with fail
      go_loopg [6, 8] 4 (fun gh o i wq => ∃ j : Nat, gh = 4 - j ∧ j ≤ 4 ∧ o = .bool (ok && blkOk (r.h2.2.blk j).1 j) ∧ i = .int .i64 (j : Nat) ∧ St M0 wq (rrR s (r.h2.2.blk j).2 :: rimR (s + 1) (upd m k ⟨r.h1.1, r.h2.1, (r.h2.2.blk j).1, []⟩) :: L))
      case atStart => exact ⟨0, rfl, by omega, congrArg Value.bool (Bool.and_true ok).symm, rfl, H1.out⟩
      case round =>
        clear H1
        obtain ⟨j, hg, hj, rfl, rfl, h⟩ := hrel
        have HJ := hide hg
        clear hg
        by_cases hjt : j < 4
        · have j0 : (0 : Int) ≤ (j : Int) := by omega
          have j4 : (j : Int) < 4 := by omega
          have hk2 : (ok && blkOk (r.h2.2.blk j).1 j && shortB (r.h2.2.blk j).2.byt.1) = (ok && blkOk (r.h2.2.blk (j + 1)).1 (j + 1)) := by
            rw [Bool.and_assoc]
            exact congrArg _ (blkOk_next (r.h2.2.blk j).1 j (r.h2.2.blk j).2.byt.1).symm
          generalize (ok && blkOk (r.h2.2.blk j).1 j) = o1 at *
          have HK2 := hide hk2
          have H := hide h
          clear h hk2
          go_wp2_with fail
          refine region_mix (fun _ => True) 10 [0, 1, 2, 3, 5, 6, 7] [4, 8, 9] (by kernel_rfl) (by kernel_rfl) (fun d => by cases d <;> exact fun _ _ _ _ h => h) (fun W hW => ?_)
          have hS := hide (show St M0 W (rrR s (r.h2.2.blk j).2 :: rimR (s + 1) (upd m k ⟨r.h1.1, r.h2.1, (r.h2.2.blk j).1, []⟩) :: L) by
            rw [hW]
            exact H.out.drew)
          clear hW H
          refine ⟨trivial, ?_⟩
          iterate 7 (refine take_run rfl rfl (fun W hW => by (clear hW; go_simp; try rfl)) ?_; (simp only [Act.put, List.setIfInBounds_toArray, List.set_cons_succ, List.set_cons_zero]))
          refine take_nil ?_
          refine seq_call (f := 53) (args := #[.pointer (some ⟨s, 0, none⟩)]) rfl rfl (by go_simp; try rfl) ((rrbyt_st s _ _ (OK2.out.blk j).hb (OK2.out.blk j).hl hS.out).mono ?_)
          rintro e w8 ⟨v2, rfl, h⟩
          obtain ⟨A2, c2, rfl, _, _, _⟩ := h.get 0 rfl
          refine ⟨_, rfl, fun _ => trivial, ?_⟩
          (simp only [Act.put, List.setIfInBounds_toArray, List.set_cons_succ, List.set_cons_zero])
          obtain ⟨vs, h3⟩ := h.up2.rim
          obtain ⟨⟨u, hc⟩, hf⟩ := rim_there (i := 8 + k * 4 + j) (h3.blk 0 rfl) (by omega)
          have h4 := h3.rimB_ hlt hjt
          rw [upd_upd, upd_at] at h4
          obtain ⟨vs2, h5⟩ := St.rim (m := (upd m k ⟨r.h1.1, r.h2.1, (r.h2.2.blk (j + 1)).1, []⟩)) h4
          have h6 := h5.pick (L' := rimB (s + 1) vs2 (upd m k ⟨r.h1.1, r.h2.1, (r.h2.2.blk (j + 1)).1, []⟩) :: regsR vs2 (upd m k ⟨r.h1.1, r.h2.1, (r.h2.2.blk (j + 1)).1, []⟩) :: rrR s (r.h2.2.blk (j + 1)).2 :: L) 3 [0, 1, 2]
          have H6 := hide h6
          clear h h3 h4 h5 h6 hS
          refine seq_read rfl rfl (by go_simp; try rfl) (fun _ => trivial) ?_
          (simp only [Act.put, List.setIfInBounds_toArray, List.set_cons_succ, List.set_cons_zero])
          refine seq_store rfl rfl 34 _ _ (.pointer (some ⟨s + 1, 8 + k * 4 + j, none⟩)) (.slice A2 (r.h2.2.blk j).2.byt.1.length c2) rfl rfl rfl (by go_simp; try rfl) (fun _ => trivial) ?_
          simp only [Act.put]
          refine seq_nil ?_
          clear hc hf
          generalize World.setCell _ _ _ = w9 at H6 ⊢
          obtain ⟨A3, c3, e3, _, _, _⟩ := ((H6.out.get 1 rfl) k hlt).b j hjt
          have y0 := ((H6.out.blk 0 rfl).cell (8 + k * 4 + j)).trans (rimC_b _ vs2 hlt hjt)
          rw [e3, show ((upd m k ⟨r.h1.1, r.h2.1, (r.h2.2.blk (j + 1)).1, []⟩) k).b j = (r.h2.2.blk j).2.byt.1 by rw [upd_at]; exact upd_at _ _ _] at y0
          clear e3
          cases o1 with
          | false =>
            go_wp2_with fail
            go_roundg (4 - (j + 1))
            case measure => have := HJ.out; omega
            case rel => exact ⟨j + 1, rfl, by omega, congrArg Value.bool HK2.out, by go_num, (H6.out.addRim).swap⟩
          | true =>
            go_wp2_with fail
            go_roundg (4 - (j + 1))
            case measure => have := HJ.out; omega
            case rel => exact ⟨j + 1, rfl, by omega, by
              rw [← HK2.out, Bool.true_and]
              exact congrArg Value.bool (decide_eq_decide.2 (by omega)), by go_num, (H6.out.addRim).swap⟩
        · obtain rfl : j = 4 := by omega
          have h1 := (show St M0 wr (rrR s r.h3.2 :: rimR (s + 1) (upd m k ⟨r.h1.1, r.h2.1, r.h3.1, []⟩) :: L) from h)
          generalize hok2 : (ok && blkOk (r.h2.2.blk 4).1 4) = ok2 at *
          have HOK2 := hide hok2
          have H1 := hide h1
          clear h h1 hok2 HJ
          go_wp2_with fail
          refine (rrnum_st s r.h3.2 1 _ OK3.out.hb H1.out).mono ?_
          rintro e w6 ⟨rfl, h⟩
          have H6 := hide ((show St M0 w6 (rrR s r.h4.2 :: rimR (s + 1) (upd m k ⟨r.h1.1, r.h2.1, r.h3.1, []⟩) :: L) from h).nilGrow 34 1 LogR)
          clear H1 h
          rw [show (r.h3.2.num 1).1 = r.h4.1 from rfl, HQ4.out]
          go_wp2_with fail
          go_loopg [6, 10, 11] q4 (fun gh o lv i wq => ∃ (j : Nat) (A : Option Addr) (q c : Nat), gh = q4 - j ∧ j ≤ q4 ∧ o = .bool (ok2 && (r.h4.2.logs j).1.all shortB) ∧ lv = .slice A q c ∧ i = .int .u64 (j : Nat) ∧ q = j ∧ St M0 wq (growR 34 1 LogR (.slice A q c) (r.h4.2.logs j).1 :: rrR s (r.h4.2.logs j).2 :: rimR (s + 1) (upd m k ⟨r.h1.1, r.h2.1, r.h3.1, []⟩) :: L))
          case atStart => exact ⟨0, none, 0, 0, rfl, by omega, congrArg Value.bool (Bool.and_true ok2).symm, rfl, rfl, rfl, H6.out⟩
          case round =>
            clear H6
            obtain ⟨j, A, q, c, hg, hj, rfl, rfl, rfl, hqj, h⟩ := hrel
            have HJ := hide hg
            have HQJ := hide hqj
            have ql : q ≤ 256 := by omega
            clear hg hqj
            by_cases hjt : j < q4
            · have j0 : (0 : Int) ≤ (j : Int) := by omega
              have j4 : (j : Int) < (q4 : Int) := by omega
              have hk2 : (ok2 && (r.h4.2.logs j).1.all shortB && shortB (r.h4.2.logs j).2.byt.1) = (ok2 && (r.h4.2.logs (j + 1)).1.all shortB) := by
                rw [Bool.and_assoc]
                exact congrArg _ (shortB_all (r.h4.2.logs j).1 (r.h4.2.logs j).2.byt.1).symm
              generalize (ok2 && (r.h4.2.logs j).1.all shortB) = o1 at *
              have HK2 := hide hk2
              have H := hide h
              clear h hk2
              go_wp2_with fail
              refine (rrbyt_st s _ _ (OK4.out.logs j).hb (OK4.out.logs j).hl H.out.swap).mono ?_
              rintro e w8 ⟨v2, rfl, h⟩
              obtain ⟨A2, c2, rfl, _, _, _⟩ := h.get 0 rfl
              obtain ⟨xs, hq, hxl, hz⟩ := h.up2.openGrowS
              have HH := hide hz
              have HQ := hide hq
              have HXL := hide hxl
              clear h hz H hq hxl
              cases o1 with
              | false =>
                go_wp2_with (at_builtin; refine St.app_step logs_elem (HH.out.junk _) rfl _ _ rfl rfl (some ⟨w8.heap.size, 0, none⟩) 1 1 rfl [.slice A2 (r.h4.2.logs j).2.byt.1.length c2] (sl_new1 _ _ _) (by simp [Value.oneCell']) (by omega) (by omega) ?_; intro A4 c4 w4 h4)
                have H7 := hide (show St M0 w4 (growR 34 1 LogR (.slice A4 (q + 1) c4) (r.h4.2.logs (j + 1)).1 :: rrR s (r.h4.2.logs (j + 1)).2 :: rimR (s + 1) (upd m k ⟨r.h1.1, r.h2.1, r.h3.1, []⟩) :: L) from ((h4.up2.pers1 (R' := fun w' => LogR w' [.slice A2 (r.h4.2.logs j).2.byt.1.length c2] (r.h4.2.logs j).2.byt.1) (fun w' hi => ⟨_, rfl, hi⟩)).dn2).snocGrow HQ.out rfl HXL.out)
                clear h4 HH
                go_roundg (q4 - (j + 1))
                case measure => have := HJ.out; omega
                case rel => exact ⟨j + 1, A4, q + 1, c4, rfl, by omega, congrArg Value.bool HK2.out, rfl, by go_num, by have := HQJ.out; omega, H7.out⟩
              | true =>
                go_wp2_with (at_builtin; refine St.app_step logs_elem (HH.out.junk _) rfl _ _ rfl rfl (some ⟨w8.heap.size, 0, none⟩) 1 1 rfl [.slice A2 (r.h4.2.logs j).2.byt.1.length c2] (sl_new1 _ _ _) (by simp [Value.oneCell']) (by omega) (by omega) ?_; intro A4 c4 w4 h4)
                have H7 := hide (show St M0 w4 (growR 34 1 LogR (.slice A4 (q + 1) c4) (r.h4.2.logs (j + 1)).1 :: rrR s (r.h4.2.logs (j + 1)).2 :: rimR (s + 1) (upd m k ⟨r.h1.1, r.h2.1, r.h3.1, []⟩) :: L) from ((h4.up2.pers1 (R' := fun w' => LogR w' [.slice A2 (r.h4.2.logs j).2.byt.1.length c2] (r.h4.2.logs j).2.byt.1) (fun w' hi => ⟨_, rfl, hi⟩)).dn2).snocGrow HQ.out rfl HXL.out)
                clear h4 HH
                go_roundg (q4 - (j + 1))
                case measure => have := HJ.out; omega
                case rel => exact ⟨j + 1, A4, q + 1, c4, rfl, by omega, by
                  rw [← HK2.out, Bool.true_and]
                  exact congrArg Value.bool (decide_eq_decide.2 (by omega)), rfl, by go_num, by have := HQJ.out; omega, H7.out⟩
            · obtain rfl : j = q4 := by omega
              have h1 := h
              rw [show j = r.h4.1.toNat by rw [HQ4.out]; rfl] at h1
              obtain ⟨css, h2⟩ := h1.rowsGrow.openRows
              obtain ⟨vs, h3⟩ := h2.up2.rim
              obtain ⟨⟨u, hc⟩, hf⟩ := rim_there (i := 24 + k) (h3.blk 0 rfl) (by omega)
              have h4 := h3.rimLog hlt
              rw [upd_upd, upd_at] at h4
              obtain ⟨vs2, h5⟩ := St.rim (m := upd m k r.rg) h4
              have H5 := hide (h5.pick (L' := rimB (s + 1) vs2 (upd m k r.rg) :: regsR vs2 (upd m k r.rg) :: rrR s r.h5.2 :: L) 3 [0, 1, 2])
              have hn := (Rd.logs_length r.h4.2 r.h4.1.toNat)
              have hlen : r.h5.1.length = j := hn.trans (by rw [HQ4.out]; rfl)
              have hF := HN.out (ok2 && (r.h4.2.logs r.h4.1.toNat).1.all shortB) (by rw [← HOK2.out]; rfl)
              rw [show j = r.h4.1.toNat by rw [HQ4.out]; rfl]
              generalize hok3 : (ok2 && (r.h4.2.logs r.h4.1.toNat).1.all shortB) = ok3 at *
              rw [show (r.h4.1.toNat : Nat) = j by rw [HQ4.out]; rfl]
              have HF := hide hF
              have HLEN := hide hlen
              clear h h1 h2 h3 h4 h5 hn hlen hF hok3
              have key : ∀ b : Bool, imgOk z.1 (k + 1) = b → Hid (imgOk z.1 (k + 1) = b) := fun _ h => h
              have x0 := ((H5.out.blk 0 rfl).cell k).trans (rimC_high _ vs2 hlt)
              have x1 := ((H5.out.blk 0 rfl).cell (4 + k)).trans (rimC_seq _ vs2 hlt)
              rw [upd_at] at x0 x1
              simp only [Rd.rg] at x0 x1
              have h6 := H5.out.addRim.swap
              rw [show (upd m k r.rg) = z.1 from HS.out.symm, show r.h5.2 = z.2 from HR.out.symm] at h6
              have H6 := hide h6
              clear h6 H5
              cases ok3 with
              | false =>
                have K := key false (by rw [HF.out]; rfl)
                clear key
                go_wp2_with fail
                go_roundg (4 - (k + 1))
                case measure => have := HG.out; omega
                case rel => exact ⟨k + 1, rfl, by omega, by rw [HZ.out, K.out], by go_num, by rw [HZ.out]; exact H6.out⟩
              | true =>
                by_cases hl4 : j ≤ 4
                · have d1 : decide ((j : Int) ≤ 4) = true := decide_eq_true (by omega)
                  have hb4 : decide (r.h5.1.length ≤ 4) = true := decide_eq_true (by rw [HLEN.out]; exact hl4)
                  by_cases hp : 0 < r.h1.1
                  · have d2 : decide (0 < r.h1.1) = true := decide_eq_true hp
                    have d3 : (r.h1.1 != 0) = true := by simp; omega
                    have K := key true (by rw [HF.out, hb4, d2]; rfl)
                    clear key hb4 hl4 hp d2
                    go_wp2_with fail
                    go_roundg (4 - (k + 1))
                    case measure => have := HG.out; omega
                    case rel => exact ⟨k + 1, rfl, by omega, by rw [HZ.out, K.out], by go_num, by rw [HZ.out]; exact H6.out⟩
                  · have d2 : decide (0 < r.h1.1) = false := decide_eq_false hp
                    have d4 : (r.h1.1 != 0) = false := by simp; omega
                    by_cases hz : r.h2.1 = 0
                    · have d3 : (r.h2.1 == 0) = true := isT hz
                      have K := key true (by rw [HF.out, hb4, d2, d3]; rfl)
                      clear key hb4 hl4 hp hz d2
                      go_wp2_with fail
                      go_roundg (4 - (k + 1))
                      case measure => have := HG.out; omega
                      case rel => exact ⟨k + 1, rfl, by omega, by rw [HZ.out, K.out], by go_num, by rw [HZ.out]; exact H6.out⟩
                    · have d3 : (r.h2.1 == 0) = false := isF hz
                      have K := key false (by rw [HF.out, hb4, d2, d3]; rfl)
                      clear key hb4 hl4 hp hz d2
                      go_wp2_with fail
                      go_roundg (4 - (k + 1))
                      case measure => have := HG.out; omega
                      case rel => exact ⟨k + 1, rfl, by omega, by rw [HZ.out, K.out], by go_num, by rw [HZ.out]; exact H6.out⟩
                · have d1 : decide ((j : Int) ≤ 4) = false := decide_eq_false (by omega)
                  have hb4 : decide (r.h5.1.length ≤ 4) = false := decide_eq_false (by rw [HLEN.out]; exact hl4)
                  have K := key false (by rw [HF.out, hb4]; rfl)
                  clear key hb4 hl4
                  go_wp2_with fail
                  go_roundg (4 - (k + 1))
                  case measure => have := HG.out; omega
                  case rel => exact ⟨k + 1, rfl, by omega, by rw [HZ.out, K.out], by go_num, by rw [HZ.out]; exact H6.out⟩
    · obtain rfl : k = 4 := by omega
      have E := hide (show unpE bs = if (Rd.img ⟨bs, false⟩ 4).2.endE ≠ 0 then (Rd.img ⟨bs, false⟩ 4).2.endE else if imgOk (Rd.img ⟨bs, false⟩ 4).1 4 = true then 0 else 1 from rfl)
      generalize hok : imgOk (Rd.img ⟨bs, false⟩ 4).1 4 = ok at *
      have H := hide h
      clear h hok
      go_wp2_with fail
      refine (rrend_st s _ _ H.out).mono ?_
      rintro e w2 ⟨rfl, h⟩
      have HP := hide h.tail
      clear h H
      generalize (Rd.img ⟨bs, false⟩ 4).2.endE = ee at *
      by_cases he : ee = 0
      · subst he
        rw [if_neg (by decide)] at E
        cases ok with
        | true =>
          have E1 : Hid (unpE bs = 0) := E
          go_wp2_with fail
          go_ret2
          exact ⟨fun _ => ⟨s + 1, rfl, HP.out⟩, fun h => absurd E1.out h⟩
        | false =>
          have E1 : Hid (unpE bs = 1) := E
          go_wp2_with fail
          go_ret2
          exact ⟨fun h => absurd (E1.out.symm.trans h) (by decide), fun _ => ⟨by rw [E1.out]; try rfl, HP.out.tail⟩⟩
      · rw [if_pos he] at E
        have d2 : (ee != 0) = true := by simp [he]
        have HE := hide he
        clear he
        go_wp2_with fail
        go_ret2
        exact ⟨fun h => absurd (E.out.symm.trans h) HE.out, fun _ => ⟨by rw [E.out]; try rfl, HP.out.tail⟩⟩
end Go.Proofs.YtpaelngpmbeedaaGreatDoor
