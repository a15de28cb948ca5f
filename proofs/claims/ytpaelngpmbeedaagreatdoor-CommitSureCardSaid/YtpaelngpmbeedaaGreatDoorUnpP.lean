/- Unpack of the program's image. -/
import Derived.Test.YtpaelngpmbeedaaGreatDoorUnpZ
namespace Go.Proofs.YtpaelngpmbeedaaGreatDoor
open Go.RowKit

def UnpP (bs : List Int) (M0 : Imm) (L : List Res) (w' : World) (e : Ending) : Prop :=
  ∃ p, e = .returned (.tuple #[.pointer p, .int .i64 (unpE bs)]) ∧ (unpE bs = 0 → ∃ g, p = some ⟨g, 0, none⟩ ∧ St M0 w' (imgR g (Rd.img ⟨bs, false⟩ 4).1 :: L)) ∧ (unpE bs ≠ 0 → p = none) ∧ St M0 w' L

set_option maxRecDepth 100000 in
set_option maxHeartbeats 4000000 in
theorem unp_st {M0 : Imm} {L : List Res} (v : Value) (bs : List Int) (w : World) (hb : Bytes bs) (hl : bs.length ≤ 1000000) (h : St M0 w (intsR .u8 v bs :: L)) :
    Calls Tryz.prog 68 #[v] w fun e w' => UnpP bs M0 L w' e := by
  have ok0 : Rd.Ok (Rd.mk bs false) := ⟨hb, by show bs.length ≤ 140737488355328; omega, fun h => by cases h⟩
  have OKR := hide (fun k => ok0.img k)
  have H := hide h
  clear h hb hl ok0
  go_enter Tryz.func68, Tryz.ntmps68
  go_wp2_with fail
  refine (read_st v bs _ H.out).mono ?_
  rintro e w1 ⟨gr, rfl, h⟩
  have H1 := hide (h.del1)
  clear H h
  go_wp2_with fail
  have h2 := ((H1.out.alloc 116 #[.pointer (some ⟨gr, 0, none⟩)]).newImgB).alloc 4 #[.bool true]
  simp only [World.size_alloc] at h2
  generalize w1.heap.size = s at *
  have H2 := hide (h2.pick (L' := blkR s 116 #[.pointer (some ⟨gr, 0, none⟩)] :: blkR (s + 1 + 1) 4 #[.bool (true)] :: rdR gr (Rd.mk bs false) :: imgB (s + 1) (fun _ => nilRV) aw0 :: regsR (fun _ => nilRV) aw0 :: L) 5 [3, 0, 4, 1, 2])
  clear H1 h2
  go_loopg [17] 4 (fun gh i wr => ∃ (k : Nat) (vs : Nat → RV), gh = 4 - k ∧ k ≤ 4 ∧ i = .int .i64 (k : Nat) ∧ (∀ i, k ≤ i → i < 4 → (vs i).log = .slice none 0 0) ∧ St M0 wr (blkR s 116 #[.pointer (some ⟨gr, 0, none⟩)] :: blkR (s + 1 + 1) 4 #[.bool (imgOk (Rd.img ⟨bs, false⟩ k).1 k)] :: rdR gr (Rd.img ⟨bs, false⟩ k).2 :: imgB (s + 1) vs (Rd.img ⟨bs, false⟩ k).1 :: regsR vs (Rd.img ⟨bs, false⟩ k).1 :: L))
  case atStart => exact ⟨0, fun _ => nilRV, rfl, by omega, rfl, fun _ _ _ => rfl, H2.out⟩
  case round =>
    clear H2
    obtain ⟨k, vs, hg, hk, rfl, hv, h⟩ := hrel
    have HG := hide hg
    have HV := hide hv
    clear hg hv
    by_cases hlt : k < 4
    · have hm0 := Rd.img_rest ⟨bs, false⟩ k k (Nat.le_refl _)
      have hN := img_next ⟨bs, false⟩ k
      have hS := region_sum ⟨bs, false⟩ k
      have hR : (Rd.img ⟨bs, false⟩ (k + 1)).2 = (Rd.img ⟨bs, false⟩ k).2.h5.2 := rfl
      have OK := OKR.out k
      have H := hide h
      clear h
      generalize hok : imgOk (Rd.img ⟨bs, false⟩ k).1 k = ok at *
      generalize (Rd.img ⟨bs, false⟩ k).2 = r at *
      generalize (Rd.img ⟨bs, false⟩ k).1 = m at *
      generalize hz : Rd.img ⟨bs, false⟩ (k + 1) = z at *
      have HZ := hide hz
      clear hz
      have HM0 := hide hm0
      have HN := hide hN
      have HS := hide hS
      have HR := hide hR
      have OK0 := hide OK
      have OK1 := hide (show r.h1.2.Ok from OK.num 8)
      have OK2 := hide (show r.h2.2.Ok from (OK.num 8).num 4)
      have OK3 := hide (show r.h3.2.Ok from OK2.out.blk 4)
      have OK4 := hide (show r.h4.2.Ok from OK3.out.num 1)
      have b2 : 0 ≤ r.h2.1 ∧ r.h2.1 < 4294967296 := Rd.num4_lt OK1.out
      have b4 : 0 ≤ r.h4.1 ∧ r.h4.1 < 256 := Rd.num1_lt OK3.out
      obtain ⟨b20, b21⟩ := b2
      have u2 : IntKind.u32.wrap r.h2.1 = r.h2.1 := IntWalk.u32_in _ (by omega)
      obtain ⟨q4, hq4⟩ := Int.eq_ofNat_of_zero_le b4.1
      have q4l : q4 < 256 := by omega
      have HQ4 := hide hq4
      clear hm0 hN hS hR OK b4 hq4 hok
      have k0 : (0 : Int) ≤ (k : Int) := by omega
      have k4 : (k : Int) < 4 := by omega
      go_wp2_with fail
      refine region_mixT (fun W => W.cell? ⟨s, 0, none⟩ = some (.pointer (some ⟨gr, 0, none⟩))) 10 9 [0, 1, 2, 4] #[true, true, true, false, true, false, false, false, false, false, false, false, false] (by kernel_rfl) (by kernel_rfl)
        (fun d => by cases d <;> exact fun _ _ _ _ h => h) (fun W hW => ?_)
      have HS0 := hide (show St M0 W (blkR s 116 #[.pointer (some ⟨gr, 0, none⟩)] :: blkR (s + 1 + 1) 4 #[.bool (ok)] :: rdR gr r :: imgB (s + 1) vs m :: regsR vs m :: L) by
        rw [hW]
        exact H.out.drew)
      clear hW H
      refine ⟨(HS0.out.blk 0 rfl).cell 0, ?_⟩
      iterate 4 (refine take_run rfl rfl (fun W hW => by (go_simp; try rfl)) ?_; (simp only [Act.put, List.setIfInBounds_toArray, List.set_cons_succ, List.set_cons_zero]))
      refine take_nil ?_
      refine wpT_one 3 (by kernel_rfl) (node_call (f := 49) (args := #[.pointer (some ⟨gr, 0, none⟩), .int .i64 8]) rfl rfl (by go_simp) ((rdnum_st gr r 8 _ OK0.out.hb OK0.out.hl OK0.out.hz HS0.out.up2).mono ?_))
      rintro e w2 ⟨rfl, h⟩
      have HS1 := hide (show St M0 w2 (blkR s 116 #[.pointer (some ⟨gr, 0, none⟩)] :: blkR (s + 1 + 1) 4 #[.bool (ok)] :: rdR gr r.h1.2 :: imgB (s + 1) vs m :: regsR vs m :: L) from h.dn2)
      refine ⟨_, rfl, fun _ => (HS1.out.blk 0 rfl).cell 0, ?_⟩
      clear HS0 h
      (simp only [Act.put, List.setIfInBounds_toArray, List.set_cons_succ, List.set_cons_zero])
      refine wpT_one 5 (by kernel_rfl) (node_call (f := 49) (args := #[.pointer (some ⟨gr, 0, none⟩), .int .i64 4]) rfl rfl (by go_simp) ((rdnum_st gr r.h1.2 4 _ OK1.out.hb OK1.out.hl OK1.out.hz HS1.out.up2).mono ?_))
      rintro e w3 ⟨rfl, h⟩
      have HS2 := hide (show St M0 w3 (blkR s 116 #[.pointer (some ⟨gr, 0, none⟩)] :: blkR (s + 1 + 1) 4 #[.bool (ok)] :: rdR gr r.h2.2 :: imgB (s + 1) vs m :: regsR vs m :: L) from h.dn2)
      refine ⟨_, rfl, fun _ => (HS2.out.blk 0 rfl).cell 0, ?_⟩
      clear HS1 h
      rw [show (r.num 8).1 = r.h1.1 from rfl, show (r.h1.2.num 4).1 = r.h2.1 from rfl]
      (simp only [Act.put, List.setIfInBounds_toArray, List.set_cons_succ, List.set_cons_zero])
      refine wpT_mid (n := 6) [6] #[true, true, true, true, true, true, true, false, false, false, false, false, false] (by kernel_rfl) (by kernel_rfl) (fun d => by cases d <;> exact fun _ _ _ _ h => h) ((HS2.out.blk 0 rfl).cell 0) (by kernel_rfl) ?_
      refine take_run (v := .int .u32 r.h2.1) rfl rfl (fun W hW => by (go_simp; try exact congrArg (fun z => Result.ok (Next.value (.int .u32 z)) W) u2)) ?_
      (simp only [Act.put, List.setIfInBounds_toArray, List.set_cons_succ, List.set_cons_zero])
      refine take_nil ?_
      refine wpT_seq [7, 8, 9, 10, 11, 12] _ _ _ (by kernel_rfl) ?_
      refine seq_read rfl rfl (by (go_simp; try rfl)) (fun _ => (HS2.out.blk 0 rfl).cell 0) ?_
      (simp only [Act.put, List.setIfInBounds_toArray, List.set_cons_succ, List.set_cons_zero])
      refine seq_read rfl rfl (by (go_simp; try rfl)) (fun _ => (HS2.out.blk 0 rfl).cell 0) ?_
      (simp only [Act.put, List.setIfInBounds_toArray, List.set_cons_succ, List.set_cons_zero])
      have h3 := (HS2.out.pick (L' := imgB (s + 1) vs m :: regsR vs m :: blkR s 116 #[.pointer (some ⟨gr, 0, none⟩)] :: blkR (s + 1 + 1) 4 #[.bool ok] :: rdR gr r.h2.2 :: L) 5 [3, 4, 0, 1, 2])
      obtain ⟨⟨u, hc⟩, hf⟩ := img_there (h3.blk 0 rfl) hlt (j := 0) (by omega)
      have h4 := (h3.up2.dn2.swap.swap.pers0 (R := fun _ => True) (fun _ _ => trivial)).dn2.setImg2 hlt (j := 0) (by omega) (x := { m k with high := r.h1.1 }) (p := vs k) (u := .int .u64 r.h1.1) rfl (fun w' ho _ => ⟨ho.b, ho.log⟩)
      simp only [Nat.add_zero] at hc hf h4
      refine seq_store rfl rfl 30 _ _ (.pointer (some ⟨s + 1, k * 7, none⟩)) (.int .u64 r.h1.1) rfl rfl rfl (by go_simp) (fun _ => (h4.blk 2 rfl).cell 0) ?_
      simp only [Act.put]
      clear hc hf
      refine seq_read rfl rfl (by (go_simp; try rfl)) (fun h => absurd h (by decide)) ?_
      (simp only [Act.put, List.setIfInBounds_toArray, List.set_cons_succ, List.set_cons_zero])
      refine seq_read rfl rfl (by (go_simp; try rfl)) (fun h => absurd h (by decide)) ?_
      (simp only [Act.put, List.setIfInBounds_toArray, List.set_cons_succ, List.set_cons_zero])
      obtain ⟨⟨u, hc⟩, hf⟩ := img_there (h4.blk 0 rfl) hlt (j := 1) (by omega)
      have h5 := (h4.pers0 (R := fun _ => True) (fun _ _ => trivial)).dn2.setImg2 hlt (j := 1) (by omega) (x := { m k with high := r.h1.1, seq := r.h2.1 }) (p := vs k) (u := .int .u32 r.h2.1) (by rw [upd_at, upd_at]; rfl) (fun w' ho _ => by rw [upd_at, upd_at] at ho; exact ⟨ho.b, ho.log⟩)
      refine seq_store rfl rfl 32 _ _ (.pointer (some ⟨s + 1, k * 7 + 1, none⟩)) (.int .u32 r.h2.1) rfl rfl rfl (by go_simp; try rfl) (fun h => absurd h (by decide)) ?_
      clear hc hf
      rw [upd_upd, upd_upd, upd_self, HM0.out] at h5
      have H5 := hide (show St M0 _ (blkR s 116 #[.pointer (some ⟨gr, 0, none⟩)] :: blkR (s + 1 + 1) 4 #[.bool (ok)] :: rdR gr r.h2.2 :: imgB (s + 1) vs (upd m k ⟨r.h1.1, r.h2.1, fun _ => [], []⟩) :: regsR vs (upd m k ⟨r.h1.1, r.h2.1, fun _ => [], []⟩) :: L) from h5.pick 5 [2, 3, 4, 0, 1])
      clear h3 h4 h5 HS2
      simp only [Act.put]
      refine seq_nil ?_
      generalize World.setCell _ _ _ = w5 at H5 ⊢
      have HV1 := hide (show ∀ i, k ≤ i → i < 4 → (vs i).log = .slice none 0 0 from HV.out)
      clear HV
      go_wp2_with fail
      go_loopg [36] 4 (fun gh i wq => ∃ (j : Nat) (vs : Nat → RV), gh = 4 - j ∧ j ≤ 4 ∧ i = .int .i64 (j : Nat) ∧ (∀ i, k ≤ i → i < 4 → (vs i).log = .slice none 0 0) ∧ St M0 wq (blkR s 116 #[.pointer (some ⟨gr, 0, none⟩)] :: blkR (s + 1 + 1) 4 #[.bool (ok && blkOk (r.h2.2.blk j).1 j)] :: rdR gr (r.h2.2.blk j).2 :: imgB (s + 1) vs (upd m k ⟨r.h1.1, r.h2.1, (r.h2.2.blk j).1, []⟩) :: regsR vs (upd m k ⟨r.h1.1, r.h2.1, (r.h2.2.blk j).1, []⟩) :: L))
      case atStart => exact ⟨0, vs, rfl, by omega, rfl, HV1.out, by rw [show (ok && blkOk (r.h2.2.blk 0).1 0) = ok from Bool.and_true ok]; exact H5.out⟩
      case round =>
        clear H5 HV1
        obtain ⟨j, vs, hg, hj, rfl, hv, h⟩ := hrel
        have HJ := hide hg
        have HV := hide hv
        clear hg hv
        by_cases hjt : j < 4
        · have j0 : (0 : Int) ≤ (j : Int) := by omega
          have j4 : (j : Int) < 4 := by omega
          have H := hide h
          clear h
          go_wp2_with fail
          refine region_mix (fun _ => True) 8 [0, 1, 2, 4, 5] [3, 6, 7] (by kernel_rfl) (by kernel_rfl) (fun d => by cases d <;> exact fun _ _ _ _ h => h) (fun W hW => ?_)
          have hS := hide (show St M0 W (blkR s 116 #[.pointer (some ⟨gr, 0, none⟩)] :: blkR (s + 1 + 1) 4 #[.bool (ok && blkOk (r.h2.2.blk j).1 j)] :: rdR gr (r.h2.2.blk j).2 :: imgB (s + 1) vs (upd m k ⟨r.h1.1, r.h2.1, (r.h2.2.blk j).1, []⟩) :: regsR vs (upd m k ⟨r.h1.1, r.h2.1, (r.h2.2.blk j).1, []⟩) :: L) by
            rw [hW]
            exact H.out.drew)
          clear hW H
          refine ⟨trivial, ?_⟩
          iterate 5 (refine take_run rfl rfl (fun W hW => by (clear hW; go_simp; try rfl)) ?_; (simp only [Act.put, List.setIfInBounds_toArray, List.set_cons_succ, List.set_cons_zero]))
          refine take_nil ?_
          refine seq_call (f := 100) (args := #[.pointer (some ⟨s, 0, none⟩), .pointer (some ⟨s + 1 + 1, 0, none⟩)]) rfl rfl (by go_simp; try rfl) ((clo_st s (s + 1 + 1) gr _ _ _ (OK2.out.blk j) hS.out).mono ?_)
          rintro e w2 ⟨v2, rfl, h⟩
          obtain ⟨A2, c2, rfl, _, _, _⟩ := h.get 0 rfl
          refine ⟨_, rfl, fun _ => trivial, ?_⟩
          (simp only [Act.put, List.setIfInBounds_toArray, List.set_cons_succ, List.set_cons_zero])
          have hk2 : (ok && blkOk (r.h2.2.blk j).1 j && shortB (r.h2.2.blk j).2.byt.1) = (ok && blkOk (r.h2.2.blk (j + 1)).1 (j + 1)) := by
            rw [Bool.and_assoc]
            exact congrArg _ (blkOk_next (r.h2.2.blk j).1 j (r.h2.2.blk j).2.byt.1).symm
          rw [hk2] at h
          have h2 := h.pick (L' := imgB (s + 1) vs (upd m k ⟨r.h1.1, r.h2.1, (r.h2.2.blk j).1, []⟩) :: regsR vs (upd m k ⟨r.h1.1, r.h2.1, (r.h2.2.blk j).1, []⟩) :: persR (fun w' => Ints w' .u8 (.slice A2 (r.h2.2.blk j).2.byt.1.length c2) (r.h2.2.blk j).2.byt.1) :: blkR s 116 #[.pointer (some ⟨gr, 0, none⟩)] :: blkR (s + 1 + 1) 4 #[.bool (ok && blkOk (r.h2.2.blk (j + 1)).1 (j + 1))] :: rdR gr (r.h2.2.blk j).2.byt.2 :: L) 6 [4, 5, 0, 1, 2, 3]
          obtain ⟨⟨u, hc⟩, hf⟩ := img_there (h2.blk 0 rfl) hlt (j := 2 + j) (by omega)
          have h4 := h2.setImg2 hlt (j := 2 + j) (by omega) (x := ⟨r.h1.1, r.h2.1, (r.h2.2.blk (j + 1)).1, []⟩) (p := { vs k with b := upd (vs k).b j (.slice A2 (r.h2.2.blk j).2.byt.1.length c2) }) (u := .slice A2 (r.h2.2.blk j).2.byt.1.length c2) (by rw [upd_at]; rcases below4 hjt with rfl | rfl | rfl | rfl <;> rfl)
            (fun w' ho hi => by
              rw [upd_at] at ho
              refine ⟨fun i hi4 => ?_, ho.log⟩
              by_cases he : i = j
              · subst he
                show Ints w' .u8 (upd (vs k).b i _ i) (upd (r.h2.2.blk i).1 i _ i)
                rw [upd_at, upd_at]
                exact hi
              · show Ints w' .u8 (upd (vs k).b j _ i) (upd (r.h2.2.blk j).1 j _ i)
                rw [upd_ne _ _ _ _ he, upd_ne _ _ _ _ he]
                exact ho.b i hi4)
          rw [← Nat.add_assoc] at hc hf h4
          rw [upd_upd] at h4
          have H4 := hide (h4.pick (L' := blkR s 116 #[.pointer (some ⟨gr, 0, none⟩)] :: blkR (s + 1 + 1) 4 #[.bool (ok && blkOk (r.h2.2.blk (j + 1)).1 (j + 1))] :: rdR gr (r.h2.2.blk (j + 1)).2 :: imgB (s + 1) (upd vs k { vs k with b := upd (vs k).b j (.slice A2 (r.h2.2.blk j).2.byt.1.length c2) }) (upd m k ⟨r.h1.1, r.h2.1, (r.h2.2.blk (j + 1)).1, []⟩) :: regsR (upd vs k { vs k with b := upd (vs k).b j (.slice A2 (r.h2.2.blk j).2.byt.1.length c2) }) (upd m k ⟨r.h1.1, r.h2.1, (r.h2.2.blk (j + 1)).1, []⟩) :: L) 5 [2, 3, 4, 0, 1])
          clear h h2 h4 hS hk2
          refine seq_read rfl rfl (by go_simp; try rfl) (fun _ => trivial) ?_
          (simp only [Act.put, List.setIfInBounds_toArray, List.set_cons_succ, List.set_cons_zero])
          refine seq_store rfl rfl 34 _ _ (.pointer (some ⟨s + 1, k * 7 + 2 + j, none⟩)) (.slice A2 (r.h2.2.blk j).2.byt.1.length c2) rfl rfl rfl (by go_simp; try rfl) (fun _ => trivial) ?_
          simp only [Act.put]
          refine seq_nil ?_
          clear hc hf
          go_wp2_with fail
          go_roundg (4 - (j + 1))
          case measure => have := HJ.out; omega
          case rel => exact ⟨j + 1, _, rfl, by omega, by go_num, fun i h1 h2 => (by
            by_cases he : i = k
            · subst he
              rw [upd_at]
              exact HV.out _ h1 h2
            · rw [upd_ne _ _ _ _ he]
              exact HV.out _ h1 h2), H4.out⟩
        · obtain rfl : j = 4 := by omega
          have h1 := (show St M0 wr (blkR s 116 #[.pointer (some ⟨gr, 0, none⟩)] :: blkR (s + 1 + 1) 4 #[.bool (ok && blkOk r.h3.1 4)] :: rdR gr r.h3.2 :: imgB (s + 1) vs (upd m k ⟨r.h1.1, r.h2.1, r.h3.1, []⟩) :: regsR vs (upd m k ⟨r.h1.1, r.h2.1, r.h3.1, []⟩) :: L) from h)
          have hl : (upd m k ⟨r.h1.1, r.h2.1, r.h3.1, []⟩) k = ⟨r.h1.1, r.h2.1, r.h3.1, []⟩ := upd_at _ _ _
          have hlog := HV.out k (Nat.le_refl _) hlt
          generalize hok2 : (ok && blkOk r.h3.1 4) = ok2 at *
          have HOK2 := hide hok2
          have H1 := hide h1
          have HL := hide hl
          have HLOG := hide hlog
          have x0 := (h1.blk 0 rfl).cell 0
          clear h h1 hok2 hl hlog HJ
          go_wp2_with fail
          refine (rdnum_st gr r.h3.2 1 _ OK3.out.hb OK3.out.hl OK3.out.hz H1.out.up2).mono ?_
          rintro e w6 ⟨rfl, h⟩
          have H6 := hide (((show St M0 w6 (blkR s 116 #[.pointer (some ⟨gr, 0, none⟩)] :: blkR (s + 1 + 1) 4 #[.bool (ok2)] :: rdR gr r.h4.2 :: imgB (s + 1) vs (upd m k ⟨r.h1.1, r.h2.1, r.h3.1, []⟩) :: regsR vs (upd m k ⟨r.h1.1, r.h2.1, r.h3.1, []⟩) :: L) from h.dn2).nilGrow 34 1 LogR).pick (L' := blkR s 116 #[.pointer (some ⟨gr, 0, none⟩)] :: blkR (s + 1 + 1) 4 #[.bool (ok2)] :: rdR gr r.h4.2 :: imgB (s + 1) vs (upd m k ⟨r.h1.1, r.h2.1, r.h3.1, []⟩) :: regsR vs (upd m k ⟨r.h1.1, r.h2.1, r.h3.1, []⟩) :: growR 34 1 LogR (.slice none 0 0) [] :: L) 6 [1, 2, 3, 4, 5, 0])
          clear H1 h
          clear x0
          rw [show (r.h3.2.num 1).1 = r.h4.1 from rfl, HQ4.out]
          go_wp2_with fail
          go_loopg [49] q4 (fun gh i wq => ∃ (j : Nat) (A : Option Addr) (q c : Nat), gh = q4 - j ∧ j ≤ q4 ∧ i = .int .u64 (j : Nat) ∧ q = j ∧ St M0 wq (blkR s 116 #[.pointer (some ⟨gr, 0, none⟩)] :: blkR (s + 1 + 1) 4 #[.bool (ok2 && (r.h4.2.logs j).1.all shortB)] :: rdR gr (r.h4.2.logs j).2 :: blkR (s + 1) 102 ((imgC (upd m k ⟨r.h1.1, r.h2.1, r.h3.1, []⟩) vs).setIfInBounds (k * 7 + 6) (.slice A q c)) :: regsR vs (upd m k ⟨r.h1.1, r.h2.1, r.h3.1, []⟩) :: growR 34 1 LogR (.slice A q c) (r.h4.2.logs j).1 :: L))
          case atStart => exact ⟨0, none, 0, 0, rfl, by omega, rfl, rfl, by rw [imgC_self _ _ hlt HLOG.out, show (ok2 && (r.h4.2.logs 0).1.all shortB) = ok2 from Bool.and_true ok2]; exact H6.out⟩
          case round =>
            clear H6
            obtain ⟨j, A, q, c, hg, hj, rfl, hqj, h⟩ := hrel
            have HJ := hide hg
            have HQJ := hide hqj
            have ql : q ≤ 256 := by omega
            clear hg hqj
            by_cases hjt : j < q4
            · have j0 : (0 : Int) ≤ (j : Int) := by omega
              have j4 : (j : Int) < (q4 : Int) := by omega
              have H := hide h
              clear h
              go_wp2_with fail
              refine region_mix (fun W => W.cell? ⟨s + 1, k * 7 + 6, none⟩ = some (.slice A q c)) 9 [0, 1, 2, 3, 4, 5] [6, 7, 8, 9, 10, 11] (by kernel_rfl) (by kernel_rfl) (fun d => by cases d <;> exact fun _ _ _ _ h => h) (fun W hW => ?_)
              have hS := hide (show St M0 W (blkR s 116 #[.pointer (some ⟨gr, 0, none⟩)] :: blkR (s + 1 + 1) 4 #[.bool (ok2 && (r.h4.2.logs j).1.all shortB)] :: rdR gr (r.h4.2.logs j).2 :: blkR (s + 1) 102 ((imgC (upd m k ⟨r.h1.1, r.h2.1, r.h3.1, []⟩) vs).setIfInBounds (k * 7 + 6) (.slice A q c)) :: regsR vs (upd m k ⟨r.h1.1, r.h2.1, r.h3.1, []⟩) :: growR 34 1 LogR (.slice A q c) (r.h4.2.logs j).1 :: L) by
                rw [hW]
                exact H.out.drew)
              clear hW H
              refine ⟨((hS.out.blk 3 rfl).cell _).trans (imgC_log_at _ vs hlt _), ?_⟩
              iterate 6 (refine take_run rfl rfl (fun W hW => by (go_simp; try rfl)) ?_; (simp only [Act.put, List.setIfInBounds_toArray, List.set_cons_succ, List.set_cons_zero]))
              refine take_nil ?_
              refine seq_call (f := 100) (args := #[.pointer (some ⟨s, 0, none⟩), .pointer (some ⟨s + 1 + 1, 0, none⟩)]) rfl rfl (by go_simp; try rfl) ((clo_st s (s + 1 + 1) gr _ _ _ (OK4.out.logs j) hS.out).mono ?_)
              rintro e w2 ⟨v2, rfl, h⟩
              obtain ⟨A2, c2, rfl, _, _, _⟩ := h.get 0 rfl
              have hk2 : (ok2 && (r.h4.2.logs j).1.all shortB && shortB (r.h4.2.logs j).2.byt.1) = (ok2 && (r.h4.2.logs (j + 1)).1.all shortB) := by
                rw [Bool.and_assoc]
                exact congrArg _ (shortB_all (r.h4.2.logs j).1 (r.h4.2.logs j).2.byt.1).symm
              rw [hk2] at h
              have h3 := (h.pick (L' := growR 34 1 LogR (.slice A q c) (r.h4.2.logs j).1 :: intsR .u8 (.slice A2 (r.h4.2.logs j).2.byt.1.length c2) (r.h4.2.logs j).2.byt.1 :: blkR s 116 #[.pointer (some ⟨gr, 0, none⟩)] :: blkR (s + 1 + 1) 4 #[.bool (ok2 && (r.h4.2.logs (j + 1)).1.all shortB)] :: rdR gr (r.h4.2.logs (j + 1)).2 :: blkR (s + 1) 102 ((imgC (upd m k ⟨r.h1.1, r.h2.1, r.h3.1, []⟩) vs).setIfInBounds (k * 7 + 6) (.slice A q c)) :: regsR vs (upd m k ⟨r.h1.1, r.h2.1, r.h3.1, []⟩)  :: L) 7 [6, 0, 1, 2, 3, 4, 5]).junk (.cells #[.slice A2 (r.h4.2.logs j).2.byt.1.length c2] 34)
              have H2 := hide h.tail
              refine ⟨_, rfl, fun _ => ((H2.out.blk 3 rfl).cell _).trans (imgC_log_at _ vs hlt _), ?_⟩
              clear h hS hk2
              (simp only [Act.put, List.setIfInBounds_toArray, List.set_cons_succ, List.set_cons_zero])
              refine seq_buildSlice1 rfl rfl 37 1 0 _ (.slice A2 (r.h4.2.logs j).2.byt.1.length c2) rfl rfl (build_log _ _ _ _) (fun _ => ((h3.blk 5 rfl).cell _).trans (imgC_log_at _ vs hlt _)) ?_
              (simp only [Act.put, List.setIfInBounds_toArray, List.set_cons_succ, List.set_cons_zero])
              obtain ⟨xs, hq, hxl, hz⟩ := h3.openGrowS
              refine seq_app logs_elem hz rfl rfl _ _ rfl rfl (some ⟨w2.heap.size, 0, none⟩) 1 1 rfl [.slice A2 (r.h4.2.logs j).2.byt.1.length c2] (sl_new1 _ _ _) (by simp [Value.oneCell']) (by omega) (by omega) (fun A4 c4 w4 h4 => ⟨fun _ => ((h4.blk 6 rfl).cell _).trans (imgC_log_at _ vs hlt _), ?_⟩)
              (simp only [Act.put, List.setIfInBounds_toArray, List.set_cons_succ, List.set_cons_zero])
              have h5 := ((h4.up2.pers1 (R' := fun w' => LogR w' [.slice A2 (r.h4.2.logs j).2.byt.1.length c2] (r.h4.2.logs j).2.byt.1) (fun w' hi => ⟨_, rfl, hi⟩)).dn2).snocGrow hq rfl hxl
              clear hq hxl
              have h6 := h5.pick (L' := blkR (s + 1) 102 ((imgC (upd m k ⟨r.h1.1, r.h2.1, r.h3.1, []⟩) vs).setIfInBounds (k * 7 + 6) (.slice A q c)) :: regsR vs (upd m k ⟨r.h1.1, r.h2.1, r.h3.1, []⟩) :: growR 34 1 LogR (.slice A4 (q + 1) c4) (r.h4.2.logs (j + 1)).1 :: blkR s 116 #[.pointer (some ⟨gr, 0, none⟩)] :: blkR (s + 1 + 1) 4 #[.bool (ok2 && (r.h4.2.logs (j + 1)).1.all shortB)] :: rdR gr (r.h4.2.logs (j + 1)).2 :: L) 6 [4, 5, 0, 1, 2, 3]
              have hc := ((h6.blk 0 rfl).cell (k * 7 + 6)).trans (imgC_log_at _ vs hlt _)
              have hf := (h6.blk 0 rfl).frozen (k * 7 + 6)
              have h7 := h6.set_ (k * 7 + 6) (.slice A4 (q + 1) c4)
              rw [Array.setIfInBounds_setIfInBounds] at h7
              have H7 := hide (h7.pick (L' := blkR s 116 #[.pointer (some ⟨gr, 0, none⟩)] :: blkR (s + 1 + 1) 4 #[.bool (ok2 && (r.h4.2.logs (j + 1)).1.all shortB)] :: rdR gr (r.h4.2.logs (j + 1)).2 :: blkR (s + 1) 102 ((imgC (upd m k ⟨r.h1.1, r.h2.1, r.h3.1, []⟩) vs).setIfInBounds (k * 7 + 6) (.slice A4 (q + 1) c4)) :: regsR vs (upd m k ⟨r.h1.1, r.h2.1, r.h3.1, []⟩) :: growR 34 1 LogR (.slice A4 (q + 1) c4) (r.h4.2.logs (j + 1)).1 :: L) 6 [3, 4, 5, 0, 1, 2])
              clear H2 h3 hz h4 h5 h6 h7
              refine seq_read rfl rfl (by (go_simp; try rfl)) (fun h => absurd h (by decide)) ?_
              (simp only [Act.put, List.setIfInBounds_toArray, List.set_cons_succ, List.set_cons_zero])
              refine seq_read rfl rfl (by (go_simp; try rfl)) (fun h => absurd h (by decide)) ?_
              (simp only [Act.put, List.setIfInBounds_toArray, List.set_cons_succ, List.set_cons_zero])
              refine seq_store rfl rfl 37 _ _ (.pointer (some ⟨s + 1, k * 7 + 6, none⟩)) (.slice A4 (q + 1) c4) rfl rfl rfl (by go_simp; try rfl) (fun h => absurd h (by decide)) ?_
              simp only [Act.put]
              refine seq_nil ?_
              clear hc hf
              go_wp2_with fail
              go_roundg (q4 - (j + 1))
              case measure => have := HJ.out; omega
              case rel => exact ⟨j + 1, A4, q + 1, c4, rfl, by omega, by go_num, by have := HQJ.out; omega, H7.out⟩
            · obtain rfl : j = q4 := by omega
              have h1 := h
              rw [show j = r.h4.1.toNat by rw [HQ4.out]; rfl] at h1
              obtain ⟨p, hpl, h2⟩ := (St.pick (L' := blkR (s + 1) 102 ((imgC (upd m k ⟨r.h1.1, r.h2.1, r.h3.1, []⟩) vs).setIfInBounds (k * 7 + 6) (.slice A q c)) :: regsR vs (upd m k ⟨r.h1.1, r.h2.1, r.h3.1, []⟩) :: growR 34 1 LogR (.slice A q c) (r.h4.2.logs r.h4.1.toNat).1 :: blkR s 116 #[.pointer (some ⟨gr, 0, none⟩)] :: blkR (s + 1 + 1) 4 #[.bool (ok2 && (r.h4.2.logs r.h4.1.toNat).1.all shortB)] :: rdR gr (r.h4.2.logs r.h4.1.toNat).2 :: L) h1 6 [3, 4, 5, 0, 1, 2]).logImg hlt (x := r.rg) (by rw [HL.out]; rfl)
              rw [upd_upd] at h2
              have hn := (Rd.logs_length r.h4.2 r.h4.1.toNat)
              have hq : q = r.h5.1.length := by rw [HQJ.out]; refine Eq.trans ?_ hn.symm; rw [HQ4.out]; rfl
              generalize hok3 : (ok2 && (r.h4.2.logs r.h4.1.toNat).1.all shortB) = ok3 at h2
              have hF := HN.out ok3 (by rw [← hok3, ← HOK2.out]; rfl)
              have HF := hide hF
              have HV2 : Hid (∀ i, k + 1 ≤ i → i < 4 → (upd vs k p i).log = .slice none 0 0) := hide (fun i h1 h2 => by rw [upd_ne _ _ _ _ (by omega)]; exact HV.out i (by omega) h2)
              have key : ∀ b : Bool, imgOk z.1 (k + 1) = b → St M0 (wr.setCell ⟨s + 1 + 1, 0, none⟩ (.bool b)) (blkR s 116 #[.pointer (some ⟨gr, 0, none⟩)] :: blkR (s + 1 + 1) 4 #[.bool (imgOk z.1 (k + 1))] :: rdR gr z.2 :: imgB (s + 1) (upd vs k p) z.1 :: regsR (upd vs k p) z.1 :: L) := fun b hb => by
                rw [hb, HS.out, HR.out]
                exact ((h2.pick (L' := blkR (s + 1 + 1) 4 #[.bool ok3] :: blkR s 116 #[.pointer (some ⟨gr, 0, none⟩)] :: rdR gr r.h5.2 :: imgB (s + 1) (upd vs k p) (upd m k r.rg) :: regsR (upd vs k p) (upd m k r.rg) :: L) 5 [3, 2, 4, 0, 1]).set_ 0 (.bool b)).pick 5 [1, 0, 2, 3, 4]
              have x0 := img_cell (h2.blk 0 rfl) hlt (j := 0) (u := .int .u64 r.h1.1) (by omega) (by rw [upd_at, upd_at]; rfl)
              have x1 := img_cell (h2.blk 0 rfl) hlt (j := 1) (u := .int .u32 r.h2.1) (by omega) (by rw [upd_at, upd_at]; rfl)
              have x6 := img_cell (h2.blk 0 rfl) hlt (j := 6) (u := .slice A q c) (by omega) (by rw [upd_at, upd_at, ← hpl]; rfl)
              simp only [Nat.add_zero] at x0
              have y0 := (h2.blk 3 rfl).cell 0
              have f0 := (h2.blk 3 rfl).frozen 0
              have HQ5 := hide hq
              clear h h1 h2 hpl hq hn hok3 hF
              cases ok3 with
              | false =>
                have K := hide (key false (by rw [HF.out]; rfl))
                clear key
                go_wp2_with fail
                go_roundg (4 - (k + 1))
                case measure => have := HG.out; omega
                case rel => exact ⟨k + 1, _, rfl, by omega, by go_num, HV2.out, by rw [HZ.out]; exact K.out⟩
              | true =>
                by_cases hl4 : q ≤ 4
                · have d1 : decide ((q : Int) ≤ 4) = true := decide_eq_true (by omega)
                  have hb4 : decide (r.h5.1.length ≤ 4) = true := decide_eq_true (by rw [← HQ5.out]; exact hl4)
                  by_cases hp : 0 < r.h1.1
                  · have d2 : decide (0 < r.h1.1) = true := decide_eq_true hp
                    have K := hide (key true (by rw [HF.out, hb4, d2]; rfl))
                    clear key hb4 hl4 hp
                    go_wp2_with fail
                    go_roundg (4 - (k + 1))
                    case measure => have := HG.out; omega
                    case rel => exact ⟨k + 1, _, rfl, by omega, by go_num, HV2.out, by rw [HZ.out]; exact K.out⟩
                  · have d2 : decide (0 < r.h1.1) = false := decide_eq_false hp
                    by_cases hz : r.h2.1 = 0
                    · have d3 : (r.h2.1 == 0) = true := isT hz
                      have K := hide (key true (by rw [HF.out, hb4, d2, d3]; rfl))
                      clear key hb4 hl4 hp hz
                      go_wp2_with fail
                      go_roundg (4 - (k + 1))
                      case measure => have := HG.out; omega
                      case rel => exact ⟨k + 1, _, rfl, by omega, by go_num, HV2.out, by rw [HZ.out]; exact K.out⟩
                    · have d3 : (r.h2.1 == 0) = false := isF hz
                      have K := hide (key false (by rw [HF.out, hb4, d2, d3]; rfl))
                      clear key hb4 hl4 hp hz
                      go_wp2_with fail
                      go_roundg (4 - (k + 1))
                      case measure => have := HG.out; omega
                      case rel => exact ⟨k + 1, _, rfl, by omega, by go_num, HV2.out, by rw [HZ.out]; exact K.out⟩
                · have d1 : decide ((q : Int) ≤ 4) = false := decide_eq_false (by omega)
                  have hb4 : decide (r.h5.1.length ≤ 4) = false := decide_eq_false (by rw [← HQ5.out]; exact hl4)
                  have K := hide (key false (by rw [HF.out, hb4]; rfl))
                  clear key hb4 hl4
                  go_wp2_with fail
                  go_roundg (4 - (k + 1))
                  case measure => have := HG.out; omega
                  case rel => exact ⟨k + 1, _, rfl, by omega, by go_num, HV2.out, by rw [HZ.out]; exact K.out⟩
    · obtain rfl : k = 4 := by omega
      have E := hide (show unpE bs = if (Rd.img ⟨bs, false⟩ 4).2.endE ≠ 0 then (Rd.img ⟨bs, false⟩ 4).2.endE else if imgOk (Rd.img ⟨bs, false⟩ 4).1 4 = true then 0 else 1 from rfl)
      generalize hok : imgOk (Rd.img ⟨bs, false⟩ 4).1 4 = ok at *
      have x0 := (h.blk 0 rfl).cell 0
      have H := hide h
      clear h HV hok
      go_wp2_with fail
      refine (rdend_st gr _ _ H.out.up2).mono ?_
      rintro e w2 ⟨rfl, h⟩
      have h2 := h.dn2
      have y0 := (h2.blk 1 rfl).cell 0
      have H2 := hide h2
      clear h h2 H x0
      generalize (Rd.img ⟨bs, false⟩ 4).2.endE = ee at *
      have HP := hide (H2.out.pick (L' := imgB (s + 1) vs (Rd.img ⟨bs, false⟩ 4).1 :: regsR vs (Rd.img ⟨bs, false⟩ 4).1 :: L) 5 [3, 4])
      clear H2
      by_cases he : ee = 0
      · subst he
        rw [if_neg (by decide)] at E
        cases ok with
        | true =>
          have E1 : Hid (unpE bs = 0) := E
          go_wp2_with fail
          go_ret2
          exact ⟨some ⟨s + 1, 0, none⟩, by rw [E1.out]; try rfl, fun _ => ⟨s + 1, rfl, HP.out.addImg⟩, fun h => absurd E1.out h, HP.out.tail.tail⟩
        | false =>
          have E1 : Hid (unpE bs = 1) := E
          go_wp2_with fail
          go_ret2
          exact ⟨none, by rw [E1.out]; try rfl, fun h => absurd (E1.out.symm.trans h) (by decide), fun _ => rfl, HP.out.tail.tail⟩
      · rw [if_pos he] at E
        have d1 : (ee == 0) = false := isF he
        have d2 : (ee != 0) = true := by simp [he]
        have HE := hide he
        clear he
        go_wp2_with fail
        go_ret2
        exact ⟨none, by rw [E.out]; try rfl, fun h => absurd (E.out.symm.trans h) HE.out, fun _ => rfl, HP.out.tail.tail⟩
end Go.Proofs.YtpaelngpmbeedaaGreatDoor
