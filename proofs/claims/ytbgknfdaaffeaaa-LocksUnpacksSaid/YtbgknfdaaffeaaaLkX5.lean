/- Locks, the document: Unpack. Printed by gen_lkx5.py. -/
import Derived.Test.YtbgknfdaaffeaaaLkX1
import Derived.Test.YtbgknfdaaffeaaaLkU1
import Derived.Test.YtbgknfdaaffeaaaRrSt
namespace Go.Proofs.Ytbgknfdaaffeaaa
open Go.RowKit Go.Shelf

/-- the regions that are whole -/
def parD (vs : Nat → RegV) (m : Nat → RegM) (i : Nat) : Res := persR fun w => ∀ j, j < i → FlatP holdC 4 w (.slice (vs j).h.a (vs j).h.n (vs j).h.c) (m j).h ∧ FlatP wantC 2 w (.slice (vs j).w.a (vs j).w.n (vs j).w.c) (m j).w
theorem St.parDStep {M0 : Imm} {w : World} {L : List Res} {vs vs' : Nat → RegV} {m : Nat → RegM} {i : Nat} {hv wv : SlV} {hs : List HoldM} {ws : List WantM} (hvi : vs' i = ⟨hv, wv⟩) (hoth : ∀ j, j ≠ i → vs' j = vs j) (h : St M0 w (parD vs m i :: keepR holdC 4 (.slice hv.a hv.n hv.c) hs :: keepR wantC 2 (.slice wv.a wv.n wv.c) ws :: L)) :
    St M0 w (parD vs' (upd m i ⟨hs, ws⟩) (i + 1) :: L) := by
  have h1 := (h.sub (L' := keepR holdC 4 (.slice hv.a hv.n hv.c) hs :: keepR wantC 2 (.slice wv.a wv.n wv.c) ws :: parD vs m i :: L) (by (repeat (first | with_reducible exact Sub.refl _ | (with_reducible apply Sub.take; focus (repeat (first | with_reducible exact At.here | with_reducible apply At.there))) | with_reducible apply Sub.drop)))).pers2 (Q := fun w => FlatP holdC 4 w (.slice hv.a hv.n hv.c) hs ∧ FlatP wantC 2 w (.slice wv.a wv.n wv.c) ws) (fun w' a b => ⟨a, b⟩)
  exact h1.pers2 (fun w' a b j hj => by
    by_cases e : j = i
    · subst e
      rw [hvi, updT_same]
      exact a
    · rw [hoth j e, updT_ne _ _ e]
      exact b j (by omega))
def RUnpQ (M0 : Imm) (L : List Res) (v : Value) (bs : List Int) (e : Ending) (w' : World) : Prop :=
  (uE bs = 0 ∧ ∃ g, e = .returned (.tuple #[.pointer (some ⟨g, 0, none⟩), .int .i64 0]) ∧ St M0 w' (docR g (uTab bs) :: intsR .u8 v bs :: L)) ∨
  (uE bs ≠ 0 ∧ e = .returned (.tuple #[.pointer none, .int .i64 (uE bs)]) ∧ St M0 w' (intsR .u8 v bs :: L))
set_option maxHeartbeats 8000000 in
set_option maxRecDepth 100000 in
theorem runpack_st {M0 : Imm} {L : List Res} (v : Value) (bs : List Int) (w : World) (hok : Rd.Ok ⟨bs, false⟩) (h : St M0 w (intsR .u8 v bs :: L)) :
    Calls Try.prog 58 #[v] w fun e w' => RUnpQ M0 L v bs e w' := by
  obtain ⟨Av, cv, rfl, _, _, _⟩ := h.get 0 rfl
  obtain ⟨r0, hr0⟩ : ∃ r0 : Rd, r0 = ⟨bs, false⟩ := ⟨_, rfl⟩
  have HDOC := hide (uOk_doc hok)
  have h1 := St.addRr (r := ⟨bs, false⟩) (k := 0) ((h.copy 0 rfl).alloc 192 #[.slice Av bs.length cv, .int .i64 (0 : Nat), .bool false]) (Nat.zero_le _) hok.hl (by simp)
  rw [← hr0] at h1
  rw [← hr0] at hok
  have OK := hide hok
  have HR0 := hide hr0
  generalize hgr : w.heap.size = gr at h1
  have HGR := hide hgr
  have h2 := h1.alloc 135 (docC 0 0 fun _ => ⟨⟨none, 0, 0⟩, ⟨none, 0, 0⟩⟩)
  rw [World.size_alloc, hgr] at h2
  obtain ⟨g, hg⟩ : ∃ g, g = gr + 1 := ⟨_, rfl⟩
  rw [← hg] at h2
  have HGG := hide hg
  have H2 := hide h2.swap
  clear h h1 h2 hok hr0 hgr hg
  go_enter Try.func58, Try.ntmps58
  go_wp2_with fail
  (try rw [HGR.out])
  (try rw [← HGG.out])
  refine (rrnum_st gr r0 8 _ OK.out.hb H2.out).mono ?_
  rintro e w1 ⟨rfl, h3⟩
  obtain ⟨now, hnow⟩ : ∃ now, now = (r0.num 8).1 := ⟨_, rfl⟩
  obtain ⟨r1, hr1⟩ : ∃ r1, r1 = (r0.num 8).2 := ⟨_, rfl⟩
  have OK1 := hide (show r1.Ok by rw [hr1]; exact OK.out.num 8)
  rw [← hnow]
  rw [← hr1] at h3
  have f0 := (h3.blk 1 rfl).frozen 0
  have y0 := (h3.blk 1 rfl).cell 0
  have H3 := hide ((h3.swap.put_ 0 (.int .u64 now) (docC now 0 fun _ => ⟨⟨none, 0, 0⟩, ⟨none, 0, 0⟩⟩) rfl).swap)
  have HNOW := hide hnow
  have HR1 := hide hr1
  clear h3 H2 hnow hr1 HGR HGG
  go_wp2_with fail
  clear f0 y0
  refine (rrnum_st gr r1 8 _ OK1.out.hb H3.out).mono ?_
  rintro e w2 ⟨rfl, h3⟩
  obtain ⟨last, hlast⟩ : ∃ last, last = (r1.num 8).1 := ⟨_, rfl⟩
  obtain ⟨r2, hr2⟩ : ∃ r2, r2 = (r1.num 8).2 := ⟨_, rfl⟩
  have OK2 := hide (show r2.Ok by rw [hr2]; exact OK1.out.num 8)
  rw [← hlast]
  rw [← hr2] at h3
  have f0 := (h3.blk 1 rfl).frozen 1
  have y0 := (h3.blk 1 rfl).cell 1
  have h4 := ((((h3.swap.put_ 1 (.int .u64 last) (docC now last fun _ => ⟨⟨none, 0, 0⟩, ⟨none, 0, 0⟩⟩) rfl)).nilRow 33 1).pers0 (R := fun w => ∀ j, j < 0 → FlatP holdC 4 w (.slice none 0 0) ((r2.tab 0).1 j).h ∧ FlatP wantC 2 w (.slice none 0 0) ((r2.tab 0).1 j).w) (fun _ _ j hj => absurd hj (by omega)))
  have H4 := hide (show St M0 _ (docB g now last (fun _ => ⟨⟨none, 0, 0⟩, ⟨none, 0, 0⟩⟩) :: rrR gr r2 :: rowR 33 1 (.slice none 0 0) 0 (([] : List Int).map (.int .u64)) :: parD (fun _ => ⟨⟨none, 0, 0⟩, ⟨none, 0, 0⟩⟩) (r2.tab 0).1 0 :: intsR .u8 (.slice Av bs.length cv) bs :: L) from (show St M0 _ (parD (fun _ => ⟨⟨none, 0, 0⟩, ⟨none, 0, 0⟩⟩) (r2.tab 0).1 0 :: rowR 33 1 (.slice none 0 0) 0 (([] : List Int).map (.int .u64)) :: docB g now last (fun _ => ⟨⟨none, 0, 0⟩, ⟨none, 0, 0⟩⟩) :: rrR gr r2 :: intsR .u8 (.slice Av bs.length cv) bs :: L) from h4).sub (by (repeat (first | with_reducible exact Sub.refl _ | (with_reducible apply Sub.take; focus (repeat (first | with_reducible exact At.here | with_reducible apply At.there))) | with_reducible apply Sub.drop))))
  have HLAST := hide hlast
  have HR2 := hide hr2
  clear h3 h4 H3 hlast hr2 OK OK1
  go_wp2_with fail
  clear f0 y0
  go_loopg [6, 7] 4 (fun gh sv iv wr => ∃ (i : Nat) (vs : Nat → RegV) (C : Option Addr) (q ce : Nat) (ts : List Int), gh = 4 - i ∧ i ≤ 4 ∧ sv = .slice C q ce ∧ iv = .int .i64 (i : Nat) ∧ q = ts.length ∧ q ≤ 255 * i ∧ ts = toksT (r2.tab i).1 i ∧ (∀ j, i ≤ j → vs j = ⟨⟨none, 0, 0⟩, ⟨none, 0, 0⟩⟩) ∧
    St M0 wr (docB g now last vs :: rrR gr (r2.tab i).2 :: rowR 33 1 (.slice C q ce) q (ts.map (.int .u64)) :: parD vs (r2.tab i).1 i :: intsR .u8 (.slice Av bs.length cv) bs :: L))
  case atStart => exact ⟨0, _, none, 0, 0, [], rfl, by omega, rfl, rfl, rfl, by omega, rfl, fun _ _ => rfl, H4.out⟩
  case round =>
    clear H4
    obtain ⟨i, vs, C, q, ce, ts, hgh, hi, rfl, rfl, hq, hq255, hts, hvs, h⟩ := hrel
    have HGI := hide hgh
    have HQI := hide hq
    have HTSI := hide hts
    have HVSI := hide hvs
    have OKI := hide (OK2.out.tab i)
    obtain ⟨m, hm⟩ : ∃ m, m = (r2.tab i).1 := ⟨_, rfl⟩
    obtain ⟨ri, hri⟩ : ∃ ri, ri = (r2.tab i).2 := ⟨_, rfl⟩
    have HTAB := hide (show r2.tab (i + 1) = (upd m i ri.lreg, ri.g4.2) by rw [hm, hri]; rfl)
    rw [← hm, ← hri] at h
    have HM := hide hm
    clear hgh hq hts hvs hm
    by_cases hi4 : i < 4
    · have i0 : (0 : Int) ≤ (i : Int) := by omega
      have i1 : (i : Int) < 4 := by omega
      have okri : ri.Ok := by rw [hri]; exact OKI.out
      clear hri
      have H1 := hide (h.sub (L' := rrR gr ri :: docB g now last vs :: rowR 33 1 (.slice C q ce) q (ts.map (.int .u64)) :: parD vs m i :: intsR .u8 (.slice Av bs.length cv) bs :: L) (by (repeat (first | with_reducible exact Sub.refl _ | (with_reducible apply Sub.take; focus (repeat (first | with_reducible exact At.here | with_reducible apply At.there))) | with_reducible apply Sub.drop))))
      have OKR := hide okri
      clear h okri
      go_wp2_with fail
      refine (rrnum_st gr ri 1 _ OKR.out.hb H1.out).mono ?_
      rintro e w4 ⟨rfl, h5⟩
      have hn1 := Rd.num1_lt OKR.out
      obtain ⟨nn, hnn⟩ := Int.eq_ofNat_of_zero_le hn1.1
      rw [hnn] at hn1 ⊢
      have OKR1 := hide (OKR.out.num 1)
      obtain ⟨rh, hrh⟩ : ∃ rh, rh = (ri.num 1).2 := ⟨_, rfl⟩
      rw [← hrh] at h5 OKR1
      have HG2 := hide (show ri.g2 = rh.hos nn by unfold Rd.g2 Rd.g1; rw [hnn, Int.toNat_natCast, ← hrh])
      have hnn255 : nn ≤ 255 := by have := hn1.2; omega
      have hvi : vs i = ⟨⟨none, 0, 0⟩, ⟨none, 0, 0⟩⟩ := HVSI.out i (Nat.le_refl _)
      have HVI0 := hide hvi
      have H5 := hide (show St M0 w4 (docB g now last vs :: ownR holdC 91 4 (.slice none 0 0) [] :: rrR gr rh :: rowR 33 1 (.slice C q ce) q (ts.map (.int .u64)) :: parD vs m i :: intsR .u8 (.slice Av bs.length cv) bs :: L) from (h5.ownNil holdC 91 4).sub (by (repeat (first | with_reducible exact Sub.refl _ | (with_reducible apply Sub.take; focus (repeat (first | with_reducible exact At.here | with_reducible apply At.there))) | with_reducible apply Sub.drop))))
      clear h5 H1 hnn hn1 hrh hvi
      go_wp2_with fail
      go_loopg [6, 9] nn (fun gh sv kv wr => ∃ (k : Nat) (hs : List HoldM) (rr : Rd) (vs1 : Nat → RegV) (hv : SlV) (C : Option Addr) (q ce : Nat) (ts : List Int), gh = nn - k ∧ k ≤ nn ∧ sv = .slice C q ce ∧ kv = .int .u64 (k : Nat) ∧ (hs, rr) = rh.hos k ∧ vs1 i = ⟨hv, ⟨none, 0, 0⟩⟩ ∧ (∀ j, j ≠ i → vs1 j = vs j) ∧ q = ts.length ∧ q ≤ 255 * i + k ∧ ts = toksT m i ++ hs.map HoldM.t ∧ hv.n = hs.length ∧ hv.n ≤ k ∧
        St M0 wr (docB g now last vs1 :: ownR holdC 91 4 (.slice hv.a hv.n hv.c) hs :: rrR gr rr :: rowR 33 1 (.slice C q ce) q (ts.map (.int .u64)) :: parD vs m i :: intsR .u8 (.slice Av bs.length cv) bs :: L))
      case atStart => exact ⟨0, [], rh, vs, ⟨none, 0, 0⟩, C, q, ce, ts, rfl, by omega, rfl, rfl, rfl, HVI0.out, fun _ _ => rfl, HQI.out, by omega, by rw [HTSI.out, ← HM.out]; simp, rfl, by show 0 ≤ 0; omega, H5.out⟩
      case round =>
        clear H5 HQI HTSI hq255
        clear C q ce ts
        obtain ⟨k, hs, rr, vs1, hv, C, q, ce, ts, hgk, hk, rfl, rfl, hrr, hvi, hoth, hq, hqk, hts, hnl0, hnk0, h⟩ := hrel
        obtain ⟨A, n, c⟩ := hv
        have hnl : n = hs.length := hnl0
        have hnk : n ≤ k := hnk0
        clear hnl0 hnk0
        have HG := hide hgk
        have HVI := hide hvi
        have HOT := hide hoth
        have HQ := hide hq
        have HTS := hide hts
        have HNL := hide hnl
        have HRR := hide hrr
        have okrr : rr.Ok := by
          have := OKR1.out.hos k
          rw [← hrr] at this
          exact this
        have OKK := hide okrr
        clear hgk hvi hoth hq hts hnl hrr okrr
        by_cases hlt : k < nn
        · have k0 : (0 : Int) ≤ (k : Int) := by omega
          have k1 : (k : Int) < (nn : Int) := by omega
          have HR2 := hide (show (hs ++ [rr.ho.1], rr.ho.2) = rh.hos (k + 1) by
            show _ = ((rh.hos k).1 ++ [(rh.hos k).2.ho.1], (rh.hos k).2.ho.2)
            rw [← HRR.out])
          have b1 := Rd.num1_lt OKK.out
          have b2 := Rd.num1_lt (OKK.out.num 1)
          obtain ⟨zc, hzc⟩ : ∃ zc, zc = (rr.num 1).1 := ⟨_, rfl⟩
          obtain ⟨zm, hzm⟩ : ∃ zm, zm = ((rr.num 1).2.num 1).1 := ⟨_, rfl⟩
          obtain ⟨zt, hzt⟩ : ∃ zt, zt = (((rr.num 1).2.num 1).2.num 8).1 := ⟨_, rfl⟩
          obtain ⟨zu, hzu⟩ : ∃ zu, zu = ((((rr.num 1).2.num 1).2.num 8).2.num 8).1 := ⟨_, rfl⟩
          obtain ⟨ra, hra⟩ : ∃ ra, ra = (rr.num 1).2 := ⟨_, rfl⟩
          obtain ⟨rb, hrb⟩ : ∃ rb, rb = (ra.num 1).2 := ⟨_, rfl⟩
          obtain ⟨rc, hrc⟩ : ∃ rc, rc = (rb.num 8).2 := ⟨_, rfl⟩
          obtain ⟨rr2, hrr2⟩ : ∃ rr2, rr2 = (rc.num 8).2 := ⟨_, rfl⟩
          obtain ⟨z, hz⟩ : ∃ z : HoldM, z = ⟨zc, zm, zt, zu⟩ := ⟨_, rfl⟩
          have HHO := hide (show rr.ho = (z, rr2) by rw [hz, hrr2, hrc, hrb, hra, hzc, hzm, hzt, hzu]; rfl)
          rw [← hra] at hzm hzt hzu
          rw [← hrb] at hzt hzu
          rw [← hrc] at hzu
          rw [← hzc] at b1
          rw [← hra, ← hzm] at b2
          have wcv : IntKind.i64.wrap zc = zc := IntWalk.i64_in _ (by omega)
          have wmv : IntKind.i64.wrap zm = zm := IntWalk.i64_in _ (by omega)
          have OKa := hide (show ra.Ok by rw [hra]; exact OKK.out.num 1)
          have OKb := hide (show rb.Ok by rw [hrb]; exact OKa.out.num 1)
          have OKc := hide (show rc.Ok by rw [hrc]; exact OKb.out.num 8)
          have HZ := hide hz
          have Hzc := hide hzc
          have Hzm := hide hzm
          have Hzt := hide hzt
          have Hzu := hide hzu
          have Hra := hide hra
          have Hrb := hide hrb
          have Hrc := hide hrc
          have Hrr2 := hide hrr2
          clear hz hzc hzm hzt hzu hra hrb hrc hrr2 b1 b2
          have h10 := h.alloc 91 #[.int .i64 0, .int .i64 0, .int .u64 0, .int .u64 0]
          generalize hy : wr.heap.size = y at h10
          have HY := hide hy
          have Hf0 := hide (h10.sub (L' := rrR gr rr :: blkR y 91 #[.int .i64 0, .int .i64 0, .int .u64 0, .int .u64 0] :: docB g now last vs1 :: ownR holdC 91 4 (.slice A n c) hs :: rowR 33 1 (.slice C q ce) q (ts.map (.int .u64)) :: parD vs m i :: intsR .u8 (.slice Av bs.length cv) bs :: L) (by (repeat (first | with_reducible exact Sub.refl _ | (with_reducible apply Sub.take; focus (repeat (first | with_reducible exact At.here | with_reducible apply At.there))) | with_reducible apply Sub.drop))))
          clear h h10 hy
          go_wp2_with fail
          rw [HY.out]
          clear HY
          refine (rrnum_st gr rr 1 _ OKK.out.hb Hf0.out).mono ?_
          rintro e w5 ⟨rfl, h6⟩
          rw [← Hzc.out]
          rw [← Hra.out] at h6
          have f0 := (h6.blk 1 rfl).frozen 0
          have y0 := (h6.blk 1 rfl).cell 0
          have Hf1 := hide ((h6.swap.put_ 0 (.int .i64 zc) #[.int .i64 zc, .int .i64 0, .int .u64 0, .int .u64 0] rfl).swap)
          clear h6 Hf0
          go_wp2_with fail
          refine (rrnum_st gr ra 1 _ OKa.out.hb Hf1.out).mono ?_
          rintro e w6 ⟨rfl, h6⟩
          rw [← Hzm.out]
          rw [← Hrb.out] at h6
          have f0 := (h6.blk 1 rfl).frozen 1
          have y0 := (h6.blk 1 rfl).cell 1
          have Hf2 := hide ((h6.swap.put_ 1 (.int .i64 zm) #[.int .i64 zc, .int .i64 zm, .int .u64 0, .int .u64 0] rfl).swap)
          clear h6 Hf1
          go_wp2_with fail
          refine (rrnum_st gr rb 8 _ OKb.out.hb Hf2.out).mono ?_
          rintro e w7 ⟨rfl, h6⟩
          rw [← Hzt.out]
          rw [← Hrc.out] at h6
          have f0 := (h6.blk 1 rfl).frozen 2
          have y0 := (h6.blk 1 rfl).cell 2
          have Hf3 := hide ((h6.swap.put_ 2 (.int .u64 zt) #[.int .i64 zc, .int .i64 zm, .int .u64 zt, .int .u64 0] rfl).swap)
          clear h6 Hf2
          go_wp2_with fail
          refine (rrnum_st gr rc 8 _ OKc.out.hb Hf3.out).mono ?_
          rintro e w8 ⟨rfl, h6⟩
          rw [← Hzu.out]
          rw [← Hrr2.out] at h6
          have f0 := (h6.blk 1 rfl).frozen 3
          have y0 := (h6.blk 1 rfl).cell 3
          have Hf4 := hide ((h6.swap.put_ 3 (.int .u64 zu) #[.int .i64 zc, .int .i64 zm, .int .u64 zt, .int .u64 zu] rfl).swap)
          clear h6 Hf3
          go_wp2_with fail
          clear f0 y0
          have h6 := Hf4.out
          have ec : zc = z.c := by rw [HZ.out]
          have em : zm = z.m := by rw [HZ.out]
          have et : zt = z.t := by rw [HZ.out]
          have eu : zu = z.u := by rw [HZ.out]
          clear HZ Hf4 Hzc Hzm Hzt Hzu Hra Hrb Hrc Hrr2 OKa OKb OKc
          subst ec
          subst em
          subst et
          subst eu
          have HRN := hide (show (hs ++ [z], rr2) = rh.hos (k + 1) by
            have := HR2.out
            rw [HHO.out] at this
            exact this)
          clear HR2
          have HR2 := HRN
          clear HRN
          have HTH := hide (show (docC now last vs1)[2 + i]? = some (.slice A n c) by refine (docC_h now last vs1 hi4).trans ?_; rw [HVI.out])
          have h0 := h6.sub (L' := docB g now last vs1 :: blkR y 91 #[.int .i64 z.c, .int .i64 z.m, .int .u64 z.t, .int .u64 z.u] :: ownR holdC 91 4 (.slice A n c) hs :: rrR gr rr2 :: rowR 33 1 (.slice C q ce) q (ts.map (.int .u64)) :: parD vs m i :: intsR .u8 (.slice Av bs.length cv) bs :: L) (by (repeat (first | with_reducible exact Sub.refl _ | (with_reducible apply Sub.take; focus (repeat (first | with_reducible exact At.here | with_reducible apply At.there))) | with_reducible apply Sub.drop)))
          clear h6
          refine region_flow (M0 := M0) (L0 := rrR gr rr2 :: rowR 33 1 (.slice C q ce) q (ts.map (.int .u64)) :: parD vs m i :: intsR .u8 (.slice Av bs.length cv) bs :: L) [⟨none, some 14, fun e => docB g now last vs1⟩, ⟨none, none, fun e => blkR y 91 #[.int .i64 z.c, .int .i64 z.m, .int .u64 z.t, .int .u64 z.u]⟩, ⟨none, some 10, fun e => ownR holdC 91 4 (.slice A n c) hs⟩, ⟨some 9, none, fun e => blkR (e 9).n 91 #[.int .i64 z.c, .int .i64 z.m, .int .u64 z.t, .int .u64 z.u]⟩, ⟨some 10, none, fun e => ownR holdC 91 4 (.slice (e 10).A (n + 1) (e 10).n) (hs ++ [z])⟩, ⟨some 14, none, fun e => docB g now last (upd vs1 i ⟨⟨(e 10).A, n + 1, (e 10).n⟩, (vs1 i).w⟩)⟩] [[], [], [], [], [2], [2, 4], [2, 3, 4, 5], [2, 3, 4, 5, 6], [], [8], [2, 3, 4, 5, 6, 7, 8, 9], [0], [0, 11], [0, 1, 2, 3, 4, 5, 6, 7, 8, 9, 10, 11, 12], [0, 1, 2, 3, 4, 5, 6, 7, 8, 9, 10, 11, 12, 13]] [0, 1, 2, 3, 4, 5, 6, 7, 8, 9, 10, 11, 12, 13, 14] rfl (by kernel_rfl) (by kernel_rfl) (by kernel_rfl) (by rfl) (fun _ => rfl) (show St M0 _ (docB g now last vs1 :: blkR y 91 #[.int .i64 z.c, .int .i64 z.m, .int .u64 z.t, .int .u64 z.u] :: ownR holdC 91 4 (.slice A n c) hs :: rrR gr rr2 :: rowR 33 1 (.slice C q ce) q (ts.map (.int .u64)) :: parD vs m i :: intsR .u8 (.slice Av bs.length cv) bs :: L) from h0) ?_
          refine flow_run _ rfl (fun _ => rfl) (fun e wx Lx h => by (go_simp; try rfl)) (by intro e; rfl) (by intro e; rfl) (by intro e x; rfl) ?_
          (simp only [Act.put, List.setIfInBounds_toArray, List.set_cons_succ, List.set_cons_zero])
          refine flow_run _ rfl (fun _ => rfl) (fun e wx Lx h => by (go_simp; try rfl)) (by intro e; rfl) (by intro e; rfl) (by intro e x; rfl) ?_
          (simp only [Act.put, List.setIfInBounds_toArray, List.set_cons_succ, List.set_cons_zero])
          refine flow_run _ rfl (fun _ => rfl) (fun e wx Lx h => by (go_simp; try rfl)) (by intro e; rfl) (by intro e; rfl) (by intro e x; rfl) ?_
          (simp only [Act.put, List.setIfInBounds_toArray, List.set_cons_succ, List.set_cons_zero])
          refine flow_run _ rfl (fun _ => rfl) (fun e wx Lx h => by (go_simp; try rfl)) (by intro e; rfl) (by intro e; rfl) (by intro e x; rfl) ?_
          (simp only [Act.put, List.setIfInBounds_toArray, List.set_cons_succ, List.set_cons_zero])
          refine flow_run _ rfl (fun _ => rfl) (fun e wx Lx h => by (go_simp; try rfl)) (by intro e; rfl) (by intro e; rfl) (by intro e x; rfl) ?_
          (simp only [Act.put, List.setIfInBounds_toArray, List.set_cons_succ, List.set_cons_zero])
          refine flow_run _ rfl (fun _ => rfl) (fun e wx Lx h => by (go_simp; try rfl)) (by intro e; rfl) (by intro e; rfl) (by intro e x; rfl) ?_
          (simp only [Act.put, List.setIfInBounds_toArray, List.set_cons_succ, List.set_cons_zero])
          refine flow_run _ rfl (fun _ => rfl) (fun e wx Lx h => by (go_simp; try rfl)) (by intro e; rfl) (by intro e; rfl) (by intro e x; rfl) ?_
          (simp only [Act.put, List.setIfInBounds_toArray, List.set_cons_succ, List.set_cons_zero])
          refine flow_run _ rfl (fun _ => rfl) (fun e wx Lx h => by (have h : St M0 wx (docB g now last vs1 :: blkR y 91 #[.int .i64 z.c, .int .i64 z.m, .int .u64 z.t, .int .u64 z.u] :: ownR holdC 91 4 (.slice A n c) hs :: Lx) := h; have bo : wx.cell? ⟨g, 2 + i, none⟩ = some (.slice A n c) := ((h.blkA (g := g) (t := 135) (cs := docC now last vs1) (by (repeat (first | with_reducible exact At.here | with_reducible apply At.there)))).cell (2 + i)).trans HTH.out; have y0 := (h.blkA (g := y) (t := 91) (cs := #[.int .i64 z.c, .int .i64 z.m, .int .u64 z.t, .int .u64 z.u]) (by (repeat (first | with_reducible exact At.here | with_reducible apply At.there)))).cell 0; have y1 := (h.blkA (g := y) (t := 91) (cs := #[.int .i64 z.c, .int .i64 z.m, .int .u64 z.t, .int .u64 z.u]) (by (repeat (first | with_reducible exact At.here | with_reducible apply At.there)))).cell 1; have y2 := (h.blkA (g := y) (t := 91) (cs := #[.int .i64 z.c, .int .i64 z.m, .int .u64 z.t, .int .u64 z.u]) (by (repeat (first | with_reducible exact At.here | with_reducible apply At.there)))).cell 2; have y3 := (h.blkA (g := y) (t := 91) (cs := #[.int .i64 z.c, .int .i64 z.m, .int .u64 z.t, .int .u64 z.u]) (by (repeat (first | with_reducible exact At.here | with_reducible apply At.there)))).cell 3; go_simp; try rfl)) (by intro e; rfl) (by intro e; rfl) (by intro e x; rfl) ?_
          (simp only [Act.put, List.setIfInBounds_toArray, List.set_cons_succ, List.set_cons_zero])
          refine flow_run _ rfl (fun _ => rfl) (fun e wx Lx h => by (have h : St M0 wx (docB g now last vs1 :: blkR y 91 #[.int .i64 z.c, .int .i64 z.m, .int .u64 z.t, .int .u64 z.u] :: ownR holdC 91 4 (.slice A n c) hs :: Lx) := h; have bo : wx.cell? ⟨g, 2 + i, none⟩ = some (.slice A n c) := ((h.blkA (g := g) (t := 135) (cs := docC now last vs1) (by (repeat (first | with_reducible exact At.here | with_reducible apply At.there)))).cell (2 + i)).trans HTH.out; have y0 := (h.blkA (g := y) (t := 91) (cs := #[.int .i64 z.c, .int .i64 z.m, .int .u64 z.t, .int .u64 z.u]) (by (repeat (first | with_reducible exact At.here | with_reducible apply At.there)))).cell 0; have y1 := (h.blkA (g := y) (t := 91) (cs := #[.int .i64 z.c, .int .i64 z.m, .int .u64 z.t, .int .u64 z.u]) (by (repeat (first | with_reducible exact At.here | with_reducible apply At.there)))).cell 1; have y2 := (h.blkA (g := y) (t := 91) (cs := #[.int .i64 z.c, .int .i64 z.m, .int .u64 z.t, .int .u64 z.u]) (by (repeat (first | with_reducible exact At.here | with_reducible apply At.there)))).cell 2; have y3 := (h.blkA (g := y) (t := 91) (cs := #[.int .i64 z.c, .int .i64 z.m, .int .u64 z.t, .int .u64 z.u]) (by (repeat (first | with_reducible exact At.here | with_reducible apply At.there)))).cell 3; go_simp; try rfl)) (by intro e; rfl) (by intro e; rfl) (by intro e x; rfl) ?_
          (simp only [Act.put, List.setIfInBounds_toArray, List.set_cons_succ, List.set_cons_zero])
          refine flow_do (fun e => .slice (some ⟨(e 9).n, 0, none⟩) 1 1) rfl (fun _ => rfl) (by intro e; rfl) (fun e wx Lx h => by (
            have h : St M0 wx (docB g now last vs1 :: blkR y 91 #[.int .i64 z.c, .int .i64 z.m, .int .u64 z.t, .int .u64 z.u] :: ownR holdC 91 4 (.slice A n c) hs :: Lx) := h
            have hk : St M0 _ (docB g now last vs1 :: blkR y 91 #[.int .i64 z.c, .int .i64 z.m, .int .u64 z.t, .int .u64 z.u] :: ownR holdC 91 4 (.slice A n c) hs :: blkR wx.heap.size 91 #[.int .i64 z.c, .int .i64 z.m, .int .u64 z.t, .int .u64 z.u] :: Lx) := (h.alloc 91 #[.int .i64 z.c, .int .i64 z.m, .int .u64 z.t, .int .u64 z.u]).sub (by (repeat (first | with_reducible exact Sub.refl _ | (with_reducible apply Sub.take; focus (repeat (first | with_reducible exact At.here | with_reducible apply At.there))) | with_reducible apply Sub.drop)))
            exact ⟨⟨none, wx.heap.size, default⟩, _, exec_buildSlice1 rfl rfl (hold_build _ _ _ _ _), hk⟩)) ?_
          (simp only [Act.put, List.setIfInBounds_toArray, List.set_cons_succ, List.set_cons_zero])
          refine flow_do (fun e => .slice (e 10).A (n + 1) (e 10).n) rfl (fun _ => rfl) (by intro e; rfl) (fun e wx Lx h => by (
            have h : St M0 wx (docB g now last vs1 :: blkR y 91 #[.int .i64 z.c, .int .i64 z.m, .int .u64 z.t, .int .u64 z.u] :: ownR holdC 91 4 (.slice A n c) hs :: blkR (e 9).n 91 #[.int .i64 z.c, .int .i64 z.m, .int .u64 z.t, .int .u64 z.u] :: Lx) := h
            have hz := sl_blkT (cs := [.int .i64 z.c, .int .i64 z.m, .int .u64 z.t, .int .u64 z.u]) (h.blkA (g := (e 9).n) (t := 91) (cs := #[.int .i64 z.c, .int .i64 z.m, .int .u64 z.t, .int .u64 z.u]) (by (repeat (first | with_reducible exact At.here | with_reducible apply At.there))))
            obtain ⟨A', c', w', hr, h2⟩ := (h.front (X := ownR holdC 91 4 (.slice A n c) hs) (by (repeat (first | with_reducible exact At.here | with_reducible apply At.there)))).own1 hold_elem _ ⟨(e 9).n, 0, none⟩ 1 z hz (hold_one z) rfl (by omega) (by omega)
            have hk : St M0 _ (docB g now last vs1 :: blkR y 91 #[.int .i64 z.c, .int .i64 z.m, .int .u64 z.t, .int .u64 z.u] :: blkR (e 9).n 91 #[.int .i64 z.c, .int .i64 z.m, .int .u64 z.t, .int .u64 z.u] :: ownR holdC 91 4 (.slice A' (n + 1) c') (hs ++ [z]) :: Lx) := h2.sub (by (repeat (first | with_reducible exact Sub.refl _ | (with_reducible apply Sub.take; focus (repeat (first | with_reducible exact At.here | with_reducible apply At.there))) | with_reducible apply Sub.drop)))
            exact ⟨⟨A', c', default⟩, _, exec_append rfl rfl rfl hr, hk⟩)) ?_
          (simp only [Act.put, List.setIfInBounds_toArray, List.set_cons_succ, List.set_cons_zero])
          refine flow_run _ rfl (fun _ => rfl) (fun e wx Lx h => by (go_simp; try rfl)) (by intro e; rfl) (by intro e; rfl) (by intro e x; rfl) ?_
          (simp only [Act.put, List.setIfInBounds_toArray, List.set_cons_succ, List.set_cons_zero])
          refine flow_run _ rfl (fun _ => rfl) (fun e wx Lx h => by (go_simp; try rfl)) (by intro e; rfl) (by intro e; rfl) (by intro e x; rfl) ?_
          (simp only [Act.put, List.setIfInBounds_toArray, List.set_cons_succ, List.set_cons_zero])
          refine flow_run _ rfl (fun _ => rfl) (fun e wx Lx h => by (go_simp; try rfl)) (by intro e; rfl) (by intro e; rfl) (by intro e x; rfl) ?_
          (simp only [Act.put, List.setIfInBounds_toArray, List.set_cons_succ, List.set_cons_zero])
          refine flow_store _ _ _ (fun e => .pointer (some ⟨g, 2 + i, none⟩)) (fun e => .slice (e 10).A (n + 1) (e 10).n) rfl (fun _ => rfl) rfl (fun _ => rfl) (fun _ => rfl) (fun e wx Lx h => by (
            have h : St M0 wx (docB g now last vs1 :: blkR y 91 #[.int .i64 z.c, .int .i64 z.m, .int .u64 z.t, .int .u64 z.u] :: blkR (e 9).n 91 #[.int .i64 z.c, .int .i64 z.m, .int .u64 z.t, .int .u64 z.u] :: ownR holdC 91 4 (.slice (e 10).A (n + 1) (e 10).n) (hs ++ [z]) :: Lx) := h
            have bo : wx.cell? ⟨g, 2 + i, none⟩ = some (.slice A n c) := ((h.blkA (g := g) (t := 135) (cs := docC now last vs1) (by (repeat (first | with_reducible exact At.here | with_reducible apply At.there)))).cell (2 + i)).trans HTH.out
            have f := (h.blkA (g := g) (t := 135) (cs := docC now last vs1) (by (repeat (first | with_reducible exact At.here | with_reducible apply At.there)))).frozen
            have h1 := (h.front (X := docB g now last vs1) (by (repeat (first | with_reducible exact At.here | with_reducible apply At.there)))).put_ (2 + i) (.slice (e 10).A (n + 1) (e 10).n) (docC now last (upd vs1 i ⟨⟨(e 10).A, n + 1, (e 10).n⟩, (vs1 i).w⟩)) (docC_seth now last vs1 hi4 ⟨(e 10).A, n + 1, (e 10).n⟩)
            have hk : St M0 _ (blkR y 91 #[.int .i64 z.c, .int .i64 z.m, .int .u64 z.t, .int .u64 z.u] :: blkR (e 9).n 91 #[.int .i64 z.c, .int .i64 z.m, .int .u64 z.t, .int .u64 z.u] :: ownR holdC 91 4 (.slice (e 10).A (n + 1) (e 10).n) (hs ++ [z]) :: docB g now last (upd vs1 i ⟨⟨(e 10).A, n + 1, (e 10).n⟩, (vs1 i).w⟩) :: Lx) := h1.sub (by (repeat (first | with_reducible exact Sub.refl _ | (with_reducible apply Sub.take; focus (repeat (first | with_reducible exact At.here | with_reducible apply At.there))) | with_reducible apply Sub.drop)))
            exact ⟨_, (by (go_simp; try rfl)), hk⟩)) ?_
          simp only [Act.put]
          refine flow_nil ?_
          intro e w1 h
          have h : St M0 w1 (blkR y 91 #[.int .i64 z.c, .int .i64 z.m, .int .u64 z.t, .int .u64 z.u] :: blkR (e 9).n 91 #[.int .i64 z.c, .int .i64 z.m, .int .u64 z.t, .int .u64 z.u] :: ownR holdC 91 4 (.slice (e 10).A (n + 1) (e 10).n) (hs ++ [z]) :: docB g now last (upd vs1 i ⟨⟨(e 10).A, n + 1, (e 10).n⟩, (vs1 i).w⟩) :: rrR gr rr2 :: rowR 33 1 (.slice C q ce) q (ts.map (.int .u64)) :: parD vs m i :: intsR .u8 (.slice Av bs.length cv) bs :: L) := h
          obtain ⟨A', hA'⟩ : ∃ A', (e 10).A = A' := ⟨_, rfl⟩
          obtain ⟨c', hc'⟩ : ∃ c', (e 10).n = c' := ⟨_, rfl⟩
          have h5 := h.sub (L' := blkR y 91 #[.int .i64 z.c, .int .i64 z.m, .int .u64 z.t, .int .u64 z.u] :: docB g now last (upd vs1 i ⟨⟨(e 10).A, n + 1, (e 10).n⟩, (vs1 i).w⟩) :: ownR holdC 91 4 (.slice (e 10).A (n + 1) (e 10).n) (hs ++ [z]) :: rrR gr rr2 :: rowR 33 1 (.slice C q ce) q (ts.map (.int .u64)) :: parD vs m i :: intsR .u8 (.slice Av bs.length cv) bs :: L) (by (repeat (first | with_reducible exact Sub.refl _ | (with_reducible apply Sub.take; focus (repeat (first | with_reducible exact At.here | with_reducible apply At.there))) | with_reducible apply Sub.drop)))
          rw [hA', hc', show (vs1 i).w = ⟨none, 0, 0⟩ by rw [HVI.out]] at h5
          have y2 := (h5.blk 0 rfl).cell 2
          have h6 := ((h5.front (X := rowR 33 1 (.slice C q ce) q (ts.map (.int .u64))) (by (repeat (first | with_reducible exact At.here | with_reducible apply At.there)))).alloc 33 #[.int .u64 z.t]).swap
          have HB := hide (h6.blk 1 rfl)
          have H6 := hide h6
          clear h0 h h5 h6 hA' hc'
          go_wp2_with (at_builtin; refine St.app_step u64_row H6.out rfl _ _ rfl rfl (some ⟨w1.heap.size, 0, none⟩) 1 1 rfl [.int .u64 z.t] (sl_blkT (cs := [.int .u64 z.t]) HB.out) (by intro u hu; simp at hu; subst hu; rfl) (by omega) (by omega) ?_; intro C6 c6 w9 h11)
          rw [show ts.map (Value.int .u64) ++ [.int .u64 z.t] = (ts ++ [z.t]).map (.int .u64) by rw [List.map_append]; rfl] at h11
          have H7 := hide (h11.sub (L' := docB g now last (upd vs1 i ⟨⟨A', n + 1, c'⟩, ⟨none, 0, 0⟩⟩) :: ownR holdC 91 4 (.slice A' (n + 1) c') (hs ++ [z]) :: rrR gr rr2 :: rowR 33 1 (.slice C6 (q + 1) c6) (q + 1) ((ts ++ [z.t]).map (.int .u64)) :: parD vs m i :: intsR .u8 (.slice Av bs.length cv) bs :: L) (by (repeat (first | with_reducible exact Sub.refl _ | (with_reducible apply Sub.take; focus (repeat (first | with_reducible exact At.here | with_reducible apply At.there))) | with_reducible apply Sub.drop))))
          clear h11 H6 HB y2
          go_wp2_with fail
          go_roundg (nn - (k + 1))
          case measure => have := HG.out; omega
          case rel => exact ⟨k + 1, hs ++ [z], rr2, _, ⟨A', n + 1, c'⟩, C6, q + 1, c6, ts ++ [z.t], rfl, by omega, rfl, by go_num, HR2.out, updT_same _ _ _, fun j hj => by rw [updT_ne _ _ hj]; exact HOT.out j hj, by rw [List.length_append]; have := HQ.out; simp; omega, by omega, by rw [HTS.out]; simp, by show n + 1 = _; rw [List.length_append, ← HNL.out]; rfl, by show n + 1 ≤ k + 1; omega, H7.out⟩
        · obtain rfl : nn = k := by omega
          have HG2 := hide (HG2.out.trans HRR.out.symm)
          have H1 := hide (h.sub (L' := rrR gr rr :: docB g now last vs1 :: ownR holdC 91 4 (.slice A n c) hs :: rowR 33 1 (.slice C q ce) q (ts.map (.int .u64)) :: parD vs m i :: intsR .u8 (.slice Av bs.length cv) bs :: L) (by (repeat (first | with_reducible exact Sub.refl _ | (with_reducible apply Sub.take; focus (repeat (first | with_reducible exact At.here | with_reducible apply At.there))) | with_reducible apply Sub.drop))))
          clear h HG HRR
          go_wp2_with fail
          refine (rrnum_st gr rr 1 _ OKK.out.hb H1.out).mono ?_
          rintro e w5 ⟨rfl, h6⟩
          have hn1 := Rd.num1_lt OKK.out
          obtain ⟨nm, hnm⟩ := Int.eq_ofNat_of_zero_le hn1.1
          rw [hnm] at hn1 ⊢
          have OKW := hide (OKK.out.num 1)
          obtain ⟨rv, hrv⟩ : ∃ rv, rv = (rr.num 1).2 := ⟨_, rfl⟩
          rw [← hrv] at h6 OKW
          have HG4 := hide (show ri.g4 = rv.wos nm by unfold Rd.g4 Rd.g3; rw [HG2.out]; show Rd.wos (rr.num 1).2 (rr.num 1).1.toNat = _; rw [hnm, Int.toNat_natCast, ← hrv])
          have HLH := hide (show ri.g2.1 = hs by rw [HG2.out])
          have hnm255 : nm ≤ 255 := by have := hn1.2; omega
          have H6 := hide (show St M0 w5 (docB g now last vs1 :: ownR wantC 87 2 (.slice none 0 0) [] :: rrR gr rv :: ownR holdC 91 4 (.slice A n c) hs :: rowR 33 1 (.slice C q ce) q (ts.map (.int .u64)) :: parD vs m i :: intsR .u8 (.slice Av bs.length cv) bs :: L) from (h6.ownNil wantC 87 2).sub (by (repeat (first | with_reducible exact Sub.refl _ | (with_reducible apply Sub.take; focus (repeat (first | with_reducible exact At.here | with_reducible apply At.there))) | with_reducible apply Sub.drop))))
          obtain ⟨nh, hnh⟩ : ∃ nh, nh = n := ⟨_, rfl⟩
          rw [← hnh] at H6 HVI
          clear h6 H1 hnm hn1 hrv hnh
          go_wp2_with fail
          go_loopg [12] nm (fun gh kv wr => ∃ (k : Nat) (ws : List WantM) (rw : Rd) (vs2 : Nat → RegV) (D : Option Addr) (n d : Nat), gh = nm - k ∧ k ≤ nm ∧ kv = .int .u64 (k : Nat) ∧ (ws, rw) = rv.wos k ∧ vs2 i = ⟨⟨A, nh, c⟩, ⟨D, n, d⟩⟩ ∧ (∀ j, j ≠ i → vs2 j = vs j) ∧ n = ws.length ∧ n ≤ k ∧
            St M0 wr (docB g now last vs2 :: ownR wantC 87 2 (.slice D n d) ws :: rrR gr rw :: ownR holdC 91 4 (.slice A nh c) hs :: rowR 33 1 (.slice C q ce) q (ts.map (.int .u64)) :: parD vs m i :: intsR .u8 (.slice Av bs.length cv) bs :: L))
          case atStart => exact ⟨0, [], rv, vs1, none, 0, 0, rfl, by omega, rfl, rfl, HVI.out, HOT.out, rfl, by omega, H6.out⟩
          case round =>
            clear H6 HVI HOT HNL OKK HG2 hnk
            obtain ⟨k, ws, rw, vs2, D, n, d, hgk, hk, rfl, hrw, hvi, hoth, hnl, hnk, h⟩ := hrel
            have HG := hide hgk
            have HVI := hide hvi
            have HOT := hide hoth
            have HNL := hide hnl
            have HRW := hide hrw
            have okrw : rw.Ok := by
              have := OKW.out.wos k
              rw [← hrw] at this
              exact this
            have OK := hide okrw
            have OK1 := hide (okrw.num 1)
            clear hgk hvi hoth hnl hrw okrw
            by_cases hlt : k < nm
            · have k0 : (0 : Int) ≤ (k : Int) := by omega
              have k1 : (k : Int) < (nm : Int) := by omega
              have HR2 := hide (show (ws ++ [rw.wo.1], rw.wo.2) = rv.wos (k + 1) by
                show _ = ((rv.wos k).1 ++ [(rv.wos k).2.wo.1], (rv.wos k).2.wo.2)
                rw [← HRW.out])
              have b1 := Rd.num1_lt OK.out
              have b2 := Rd.num1_lt OK1.out
              obtain ⟨zc, hzc⟩ : ∃ zc, zc = (rw.num 1).1 := ⟨_, rfl⟩
              obtain ⟨rx, hrx⟩ : ∃ rx, rx = (rw.num 1).2 := ⟨_, rfl⟩
              rw [← hrx] at b2 OK1
              obtain ⟨zm, hzm⟩ : ∃ zm, zm = (rx.num 1).1 := ⟨_, rfl⟩
              obtain ⟨rw2, hrw2⟩ : ∃ rw2, rw2 = (rx.num 1).2 := ⟨_, rfl⟩
              rw [← hzc] at b1
              rw [← hzm] at b2
              have HRN := hide (show (ws ++ [⟨zc, zm⟩], rw2) = rv.wos (k + 1) by
                rw [← HR2.out, hzc, hrw2, hzm, hrx]
                rfl)
              clear HR2
              have HR2 := HRN
              clear HRN
              have Hzc := hide hzc
              have Hzm := hide hzm
              have Hrx := hide hrx
              have Hrw2 := hide hrw2
              have wc1 : IntKind.i64.wrap zc = zc := IntWalk.i64_in _ (by omega)
              have wm1 : IntKind.i64.wrap zm = zm := IntWalk.i64_in _ (by omega)
              have HTW := hide (show (docC now last vs2)[6 + i]? = some (.slice D n d) by refine (docC_w now last vs2 hi4).trans ?_; rw [HVI.out])
              have h10 := h.alloc 87 #[.int .i64 0, .int .i64 0]
              generalize hy : wr.heap.size = y at h10
              have HY := hide hy
              have Hf0 := hide (h10.sub (L' := rrR gr rw :: blkR y 87 #[.int .i64 0, .int .i64 0] :: docB g now last vs2 :: ownR wantC 87 2 (.slice D n d) ws :: ownR holdC 91 4 (.slice A nh c) hs :: rowR 33 1 (.slice C q ce) q (ts.map (.int .u64)) :: parD vs m i :: intsR .u8 (.slice Av bs.length cv) bs :: L) (by (repeat (first | with_reducible exact Sub.refl _ | (with_reducible apply Sub.take; focus (repeat (first | with_reducible exact At.here | with_reducible apply At.there))) | with_reducible apply Sub.drop))))
              clear h h10 hy hzc hzm hrx hrw2 b1 b2
              go_wp2_with fail
              rw [HY.out]
              clear HY
              refine (rrnum_st gr rw 1 _ OK.out.hb Hf0.out).mono ?_
              rintro e w5 ⟨rfl, h6⟩
              rw [← Hzc.out]
              rw [← Hrx.out] at h6
              have f0 := (h6.blk 1 rfl).frozen 0
              have y0 := (h6.blk 1 rfl).cell 0
              have Hf1 := hide ((h6.swap.put_ 0 (.int .i64 zc) #[.int .i64 zc, .int .i64 0] rfl).swap)
              clear h6 Hf0
              go_wp2_with fail
              refine (rrnum_st gr rx 1 _ OK1.out.hb Hf1.out).mono ?_
              rintro e w6 ⟨rfl, h6⟩
              rw [← Hzm.out]
              rw [← Hrw2.out] at h6
              have f0 := (h6.blk 1 rfl).frozen 1
              have y0 := (h6.blk 1 rfl).cell 1
              have Hf2 := hide ((h6.swap.put_ 1 (.int .i64 zm) #[.int .i64 zc, .int .i64 zm] rfl).swap)
              clear h6 Hf1
              go_wp2_with fail
              clear f0 y0
              have h0 := Hf2.out.sub (L' := docB g now last vs2 :: blkR y 87 #[.int .i64 zc, .int .i64 zm] :: ownR wantC 87 2 (.slice D n d) ws :: rrR gr rw2 :: ownR holdC 91 4 (.slice A nh c) hs :: rowR 33 1 (.slice C q ce) q (ts.map (.int .u64)) :: parD vs m i :: intsR .u8 (.slice Av bs.length cv) bs :: L) (by (repeat (first | with_reducible exact Sub.refl _ | (with_reducible apply Sub.take; focus (repeat (first | with_reducible exact At.here | with_reducible apply At.there))) | with_reducible apply Sub.drop)))
              clear Hf2
              refine region_flow (M0 := M0) (L0 := rrR gr rw2 :: ownR holdC 91 4 (.slice A nh c) hs :: rowR 33 1 (.slice C q ce) q (ts.map (.int .u64)) :: parD vs m i :: intsR .u8 (.slice Av bs.length cv) bs :: L) [⟨none, some 14, fun e => docB g now last vs2⟩, ⟨none, none, fun e => blkR y 87 #[.int .i64 zc, .int .i64 zm]⟩, ⟨none, some 10, fun e => ownR wantC 87 2 (.slice D n d) ws⟩, ⟨some 9, none, fun e => blkR (e 9).n 87 #[.int .i64 zc, .int .i64 zm]⟩, ⟨some 10, none, fun e => ownR wantC 87 2 (.slice (e 10).A (n + 1) (e 10).n) (ws ++ [⟨zc, zm⟩])⟩, ⟨some 14, none, fun e => docB g now last (upd vs2 i ⟨(vs2 i).h, ⟨(e 10).A, n + 1, (e 10).n⟩⟩)⟩] [[], [], [], [], [2], [2, 4], [2, 3, 4, 5], [2, 3, 4, 5, 6], [], [8], [2, 3, 4, 5, 6, 7, 8, 9], [0], [0, 11], [0, 1, 2, 3, 4, 5, 6, 7, 8, 9, 10, 11, 12], [0, 1, 2, 3, 4, 5, 6, 7, 8, 9, 10, 11, 12, 13]] [0, 1, 2, 3, 4, 5, 6, 7, 8, 9, 10, 11, 12, 13, 14] rfl (by kernel_rfl) (by kernel_rfl) (by kernel_rfl) (by rfl) (fun _ => rfl) (show St M0 _ (docB g now last vs2 :: blkR y 87 #[.int .i64 zc, .int .i64 zm] :: ownR wantC 87 2 (.slice D n d) ws :: rrR gr rw2 :: ownR holdC 91 4 (.slice A nh c) hs :: rowR 33 1 (.slice C q ce) q (ts.map (.int .u64)) :: parD vs m i :: intsR .u8 (.slice Av bs.length cv) bs :: L) from h0) ?_
              refine flow_run _ rfl (fun _ => rfl) (fun e wx Lx h => by (go_simp; try rfl)) (by intro e; rfl) (by intro e; rfl) (by intro e x; rfl) ?_
              (simp only [Act.put, List.setIfInBounds_toArray, List.set_cons_succ, List.set_cons_zero])
              refine flow_run _ rfl (fun _ => rfl) (fun e wx Lx h => by (go_simp; try rfl)) (by intro e; rfl) (by intro e; rfl) (by intro e x; rfl) ?_
              (simp only [Act.put, List.setIfInBounds_toArray, List.set_cons_succ, List.set_cons_zero])
              refine flow_run _ rfl (fun _ => rfl) (fun e wx Lx h => by (go_simp; try rfl)) (by intro e; rfl) (by intro e; rfl) (by intro e x; rfl) ?_
              (simp only [Act.put, List.setIfInBounds_toArray, List.set_cons_succ, List.set_cons_zero])
              refine flow_run _ rfl (fun _ => rfl) (fun e wx Lx h => by (go_simp; try rfl)) (by intro e; rfl) (by intro e; rfl) (by intro e x; rfl) ?_
              (simp only [Act.put, List.setIfInBounds_toArray, List.set_cons_succ, List.set_cons_zero])
              refine flow_run _ rfl (fun _ => rfl) (fun e wx Lx h => by (go_simp; try rfl)) (by intro e; rfl) (by intro e; rfl) (by intro e x; rfl) ?_
              (simp only [Act.put, List.setIfInBounds_toArray, List.set_cons_succ, List.set_cons_zero])
              refine flow_run _ rfl (fun _ => rfl) (fun e wx Lx h => by (go_simp; try rfl)) (by intro e; rfl) (by intro e; rfl) (by intro e x; rfl) ?_
              (simp only [Act.put, List.setIfInBounds_toArray, List.set_cons_succ, List.set_cons_zero])
              refine flow_run _ rfl (fun _ => rfl) (fun e wx Lx h => by (go_simp; try rfl)) (by intro e; rfl) (by intro e; rfl) (by intro e x; rfl) ?_
              (simp only [Act.put, List.setIfInBounds_toArray, List.set_cons_succ, List.set_cons_zero])
              refine flow_run _ rfl (fun _ => rfl) (fun e wx Lx h => by (have h : St M0 wx (docB g now last vs2 :: blkR y 87 #[.int .i64 zc, .int .i64 zm] :: ownR wantC 87 2 (.slice D n d) ws :: Lx) := h; have bo : wx.cell? ⟨g, 6 + i, none⟩ = some (.slice D n d) := ((h.blkA (g := g) (t := 135) (cs := docC now last vs2) (by (repeat (first | with_reducible exact At.here | with_reducible apply At.there)))).cell (6 + i)).trans HTW.out; have y0 := (h.blkA (g := y) (t := 87) (cs := #[.int .i64 zc, .int .i64 zm]) (by (repeat (first | with_reducible exact At.here | with_reducible apply At.there)))).cell 0; have y1 := (h.blkA (g := y) (t := 87) (cs := #[.int .i64 zc, .int .i64 zm]) (by (repeat (first | with_reducible exact At.here | with_reducible apply At.there)))).cell 1; go_simp; try rfl)) (by intro e; rfl) (by intro e; rfl) (by intro e x; rfl) ?_
              (simp only [Act.put, List.setIfInBounds_toArray, List.set_cons_succ, List.set_cons_zero])
              refine flow_run _ rfl (fun _ => rfl) (fun e wx Lx h => by (have h : St M0 wx (docB g now last vs2 :: blkR y 87 #[.int .i64 zc, .int .i64 zm] :: ownR wantC 87 2 (.slice D n d) ws :: Lx) := h; have bo : wx.cell? ⟨g, 6 + i, none⟩ = some (.slice D n d) := ((h.blkA (g := g) (t := 135) (cs := docC now last vs2) (by (repeat (first | with_reducible exact At.here | with_reducible apply At.there)))).cell (6 + i)).trans HTW.out; have y0 := (h.blkA (g := y) (t := 87) (cs := #[.int .i64 zc, .int .i64 zm]) (by (repeat (first | with_reducible exact At.here | with_reducible apply At.there)))).cell 0; have y1 := (h.blkA (g := y) (t := 87) (cs := #[.int .i64 zc, .int .i64 zm]) (by (repeat (first | with_reducible exact At.here | with_reducible apply At.there)))).cell 1; go_simp; try rfl)) (by intro e; rfl) (by intro e; rfl) (by intro e x; rfl) ?_
              (simp only [Act.put, List.setIfInBounds_toArray, List.set_cons_succ, List.set_cons_zero])
              refine flow_do (fun e => .slice (some ⟨(e 9).n, 0, none⟩) 1 1) rfl (fun _ => rfl) (by intro e; rfl) (fun e wx Lx h => by (
                have h : St M0 wx (docB g now last vs2 :: blkR y 87 #[.int .i64 zc, .int .i64 zm] :: ownR wantC 87 2 (.slice D n d) ws :: Lx) := h
                have hk : St M0 _ (docB g now last vs2 :: blkR y 87 #[.int .i64 zc, .int .i64 zm] :: ownR wantC 87 2 (.slice D n d) ws :: blkR wx.heap.size 87 #[.int .i64 zc, .int .i64 zm] :: Lx) := (h.alloc 87 #[.int .i64 zc, .int .i64 zm]).sub (by (repeat (first | with_reducible exact Sub.refl _ | (with_reducible apply Sub.take; focus (repeat (first | with_reducible exact At.here | with_reducible apply At.there))) | with_reducible apply Sub.drop)))
                exact ⟨⟨none, wx.heap.size, default⟩, _, exec_buildSlice1 rfl rfl (want_build _ _ _), hk⟩)) ?_
              (simp only [Act.put, List.setIfInBounds_toArray, List.set_cons_succ, List.set_cons_zero])
              refine flow_do (fun e => .slice (e 10).A (n + 1) (e 10).n) rfl (fun _ => rfl) (by intro e; rfl) (fun e wx Lx h => by (
                have h : St M0 wx (docB g now last vs2 :: blkR y 87 #[.int .i64 zc, .int .i64 zm] :: ownR wantC 87 2 (.slice D n d) ws :: blkR (e 9).n 87 #[.int .i64 zc, .int .i64 zm] :: Lx) := h
                have hz := sl_blkT (cs := [.int .i64 zc, .int .i64 zm]) (h.blkA (g := (e 9).n) (t := 87) (cs := #[.int .i64 zc, .int .i64 zm]) (by (repeat (first | with_reducible exact At.here | with_reducible apply At.there))))
                obtain ⟨A', c', w', hr, h2⟩ := (h.front (X := ownR wantC 87 2 (.slice D n d) ws) (by (repeat (first | with_reducible exact At.here | with_reducible apply At.there)))).own1 want_elem _ ⟨(e 9).n, 0, none⟩ 1 ⟨zc, zm⟩ hz (want_one ⟨zc, zm⟩) rfl (by omega) (by omega)
                have hk : St M0 _ (docB g now last vs2 :: blkR y 87 #[.int .i64 zc, .int .i64 zm] :: blkR (e 9).n 87 #[.int .i64 zc, .int .i64 zm] :: ownR wantC 87 2 (.slice A' (n + 1) c') (ws ++ [⟨zc, zm⟩]) :: Lx) := h2.sub (by (repeat (first | with_reducible exact Sub.refl _ | (with_reducible apply Sub.take; focus (repeat (first | with_reducible exact At.here | with_reducible apply At.there))) | with_reducible apply Sub.drop)))
                exact ⟨⟨A', c', default⟩, _, exec_append rfl rfl rfl hr, hk⟩)) ?_
              (simp only [Act.put, List.setIfInBounds_toArray, List.set_cons_succ, List.set_cons_zero])
              refine flow_run _ rfl (fun _ => rfl) (fun e wx Lx h => by (go_simp; try rfl)) (by intro e; rfl) (by intro e; rfl) (by intro e x; rfl) ?_
              (simp only [Act.put, List.setIfInBounds_toArray, List.set_cons_succ, List.set_cons_zero])
              refine flow_run _ rfl (fun _ => rfl) (fun e wx Lx h => by (go_simp; try rfl)) (by intro e; rfl) (by intro e; rfl) (by intro e x; rfl) ?_
              (simp only [Act.put, List.setIfInBounds_toArray, List.set_cons_succ, List.set_cons_zero])
              refine flow_run _ rfl (fun _ => rfl) (fun e wx Lx h => by (go_simp; try rfl)) (by intro e; rfl) (by intro e; rfl) (by intro e x; rfl) ?_
              (simp only [Act.put, List.setIfInBounds_toArray, List.set_cons_succ, List.set_cons_zero])
              refine flow_store _ _ _ (fun e => .pointer (some ⟨g, 6 + i, none⟩)) (fun e => .slice (e 10).A (n + 1) (e 10).n) rfl (fun _ => rfl) rfl (fun _ => rfl) (fun _ => rfl) (fun e wx Lx h => by (
                have h : St M0 wx (docB g now last vs2 :: blkR y 87 #[.int .i64 zc, .int .i64 zm] :: blkR (e 9).n 87 #[.int .i64 zc, .int .i64 zm] :: ownR wantC 87 2 (.slice (e 10).A (n + 1) (e 10).n) (ws ++ [⟨zc, zm⟩]) :: Lx) := h
                have bo : wx.cell? ⟨g, 6 + i, none⟩ = some (.slice D n d) := ((h.blkA (g := g) (t := 135) (cs := docC now last vs2) (by (repeat (first | with_reducible exact At.here | with_reducible apply At.there)))).cell (6 + i)).trans HTW.out
                have f := (h.blkA (g := g) (t := 135) (cs := docC now last vs2) (by (repeat (first | with_reducible exact At.here | with_reducible apply At.there)))).frozen
                have h1 := (h.front (X := docB g now last vs2) (by (repeat (first | with_reducible exact At.here | with_reducible apply At.there)))).put_ (6 + i) (.slice (e 10).A (n + 1) (e 10).n) (docC now last (upd vs2 i ⟨(vs2 i).h, ⟨(e 10).A, n + 1, (e 10).n⟩⟩)) (docC_setw now last vs2 hi4 ⟨(e 10).A, n + 1, (e 10).n⟩)
                have hk : St M0 _ (blkR y 87 #[.int .i64 zc, .int .i64 zm] :: blkR (e 9).n 87 #[.int .i64 zc, .int .i64 zm] :: ownR wantC 87 2 (.slice (e 10).A (n + 1) (e 10).n) (ws ++ [⟨zc, zm⟩]) :: docB g now last (upd vs2 i ⟨(vs2 i).h, ⟨(e 10).A, n + 1, (e 10).n⟩⟩) :: Lx) := h1.sub (by (repeat (first | with_reducible exact Sub.refl _ | (with_reducible apply Sub.take; focus (repeat (first | with_reducible exact At.here | with_reducible apply At.there))) | with_reducible apply Sub.drop)))
                exact ⟨_, (by (go_simp; try rfl)), hk⟩)) ?_
              simp only [Act.put]
              refine flow_nil ?_
              intro e w1 h
              have h : St M0 w1 (blkR y 87 #[.int .i64 zc, .int .i64 zm] :: blkR (e 9).n 87 #[.int .i64 zc, .int .i64 zm] :: ownR wantC 87 2 (.slice (e 10).A (n + 1) (e 10).n) (ws ++ [⟨zc, zm⟩]) :: docB g now last (upd vs2 i ⟨(vs2 i).h, ⟨(e 10).A, n + 1, (e 10).n⟩⟩) :: rrR gr rw2 :: ownR holdC 91 4 (.slice A nh c) hs :: rowR 33 1 (.slice C q ce) q (ts.map (.int .u64)) :: parD vs m i :: intsR .u8 (.slice Av bs.length cv) bs :: L) := h
              obtain ⟨A', hA'⟩ : ∃ A', (e 10).A = A' := ⟨_, rfl⟩
              obtain ⟨c', hc'⟩ : ∃ c', (e 10).n = c' := ⟨_, rfl⟩
              have h5 := h.sub (L' := docB g now last (upd vs2 i ⟨(vs2 i).h, ⟨(e 10).A, n + 1, (e 10).n⟩⟩) :: ownR wantC 87 2 (.slice (e 10).A (n + 1) (e 10).n) (ws ++ [⟨zc, zm⟩]) :: rrR gr rw2 :: ownR holdC 91 4 (.slice A nh c) hs :: rowR 33 1 (.slice C q ce) q (ts.map (.int .u64)) :: parD vs m i :: intsR .u8 (.slice Av bs.length cv) bs :: L) (by (repeat (first | with_reducible exact Sub.refl _ | (with_reducible apply Sub.take; focus (repeat (first | with_reducible exact At.here | with_reducible apply At.there))) | with_reducible apply Sub.drop)))
              rw [hA', hc', show (vs2 i).h = ⟨A, nh, c⟩ by rw [HVI.out]] at h5
              have H5 := hide h5
              clear h0 h h5 hA' hc'
              go_wp2_with fail
              go_roundg (nm - (k + 1))
              case measure => have := HG.out; omega
              case rel => exact ⟨k + 1, ws ++ [⟨zc, zm⟩], rw2, _, A', n + 1, c', rfl, by omega, by go_num, HR2.out, updT_same _ _ _, fun j hj => by rw [updT_ne _ _ hj]; exact HOT.out j hj, by rw [List.length_append, ← HNL.out]; rfl, by omega, H5.out⟩
            · obtain rfl : nm = k := by omega
              have h5 := (h.sub (L' := ownR wantC 87 2 (.slice D n d) ws :: docB g now last vs2 :: ownR holdC 91 4 (.slice A nh c) hs :: rrR gr rw :: rowR 33 1 (.slice C q ce) q (ts.map (.int .u64)) :: parD vs m i :: intsR .u8 (.slice Av bs.length cv) bs :: L) (by (repeat (first | with_reducible exact Sub.refl _ | (with_reducible apply Sub.take; focus (repeat (first | with_reducible exact At.here | with_reducible apply At.there))) | with_reducible apply Sub.drop)))).ownKeep
              have h6 := (h5.sub (L' := ownR holdC 91 4 (.slice A nh c) hs :: keepR wantC 2 (.slice D n d) ws :: docB g now last vs2 :: rrR gr rw :: rowR 33 1 (.slice C q ce) q (ts.map (.int .u64)) :: parD vs m i :: intsR .u8 (.slice Av bs.length cv) bs :: L) (by (repeat (first | with_reducible exact Sub.refl _ | (with_reducible apply Sub.take; focus (repeat (first | with_reducible exact At.here | with_reducible apply At.there))) | with_reducible apply Sub.drop)))).ownKeep
              have HG4 := hide (HG4.out.trans HRW.out.symm)
              have HTA := hide (show r2.tab (i + 1) = (upd m i ⟨hs, ws⟩, rw) by
                rw [HTAB.out]
                unfold Rd.lreg
                rw [HG4.out, HLH.out])
              have HTS2 := hide (show ts = toksT (upd m i ⟨hs, ws⟩) (i + 1) by rw [toksT_succ, toksT_upd _ _ _ _ (Nat.le_refl _), updT_same]; exact HTS.out)
              have H7 := hide (((h6.sub (L' := parD vs m i :: keepR holdC 4 (.slice A nh c) hs :: keepR wantC 2 (.slice D n d) ws :: docB g now last vs2 :: rrR gr rw :: rowR 33 1 (.slice C q ce) q (ts.map (.int .u64)) :: intsR .u8 (.slice Av bs.length cv) bs :: L) (by (repeat (first | with_reducible exact Sub.refl _ | (with_reducible apply Sub.take; focus (repeat (first | with_reducible exact At.here | with_reducible apply At.there))) | with_reducible apply Sub.drop)))).parDStep (vs' := vs2) (hv := ⟨A, nh, c⟩) (wv := ⟨D, n, d⟩) HVI.out HOT.out).sub (L' := docB g now last vs2 :: rrR gr rw :: rowR 33 1 (.slice C q ce) q (ts.map (.int .u64)) :: parD vs2 (upd m i ⟨hs, ws⟩) (i + 1) :: intsR .u8 (.slice Av bs.length cv) bs :: L) (by (repeat (first | with_reducible exact Sub.refl _ | (with_reducible apply Sub.take; focus (repeat (first | with_reducible exact At.here | with_reducible apply At.there))) | with_reducible apply Sub.drop))))
              have HVS2 := hide (show ∀ j, i + 1 ≤ j → vs2 j = ⟨⟨none, 0, 0⟩, ⟨none, 0, 0⟩⟩ from fun j hj => (HOT.out j (by omega)).trans (HVSI.out j (by omega)))
              have HQK := hide (show q ≤ 255 * (i + 1) by omega)
              clear h h5 h6 HG HG4 HTAB HRW HOT HVSI HTS HLH
              go_wp2_with fail
              go_roundg (4 - (i + 1))
              case measure => have := HGI.out; omega
              case rel => exact ⟨i + 1, vs2, C, q, ce, ts, rfl, by omega, rfl, by go_num, HQ.out, HQK.out, by rw [HTA.out]; exact HTS2.out, HVS2.out, by rw [HTA.out]; exact H7.out⟩
    · obtain rfl : i = 4 := by omega
      have H1 := hide (h.sub (L' := rrR gr ri :: docB g now last vs :: rowR 33 1 (.slice C q ce) q (ts.map (.int .u64)) :: parD vs m 4 :: intsR .u8 (.slice Av bs.length cv) bs :: L) (by (repeat (first | with_reducible exact Sub.refl _ | (with_reducible apply Sub.take; focus (repeat (first | with_reducible exact At.here | with_reducible apply At.there))) | with_reducible apply Sub.drop))))
      clear h
      go_wp2_with fail
      refine (rrend_st gr ri _ H1.out).mono ?_
      rintro e w4 ⟨rfl, h5⟩
      obtain ⟨ee, hee⟩ : ∃ ee, ee = ri.endE := ⟨_, rfl⟩
      rw [← hee]
      have ht4 : Rd.t4 ⟨bs, false⟩ = (m, ri) := by
        unfold Rd.t4 Rd.t2 Rd.t1
        rw [← HR0.out, ← HR1.out, ← HR2.out, HM.out, hri]
      have HUT := hide (show uTab bs = ⟨now, last, m⟩ by
        unfold uTab
        rw [ht4, HNOW.out, HLAST.out, HR1.out, HR0.out]
        rfl)
      have HUE := hide (show uE bs = if ee ≠ 0 then ee else if (fineT last m 4 && dupOk ts) = true then 0 else 1 by
        have hd := HDOC.out
        rw [HUT.out] at hd
        unfold uE
        rw [← hd, ht4, hee, HTSI.out, ← HM.out])
      have HL5 := hide (show St M0 w4 (docB g now last vs :: docS vs m :: rowR 33 1 (.slice C q ce) q (ts.map (.int .u64)) :: intsR .u8 (.slice Av bs.length cv) bs :: L) from (show St M0 w4 (docB g now last vs :: parD vs m 4 :: rowR 33 1 (.slice C q ce) q (ts.map (.int .u64)) :: intsR .u8 (.slice Av bs.length cv) bs :: L) from h5.sub (by (repeat (first | with_reducible exact Sub.refl _ | (with_reducible apply Sub.take; focus (repeat (first | with_reducible exact At.here | with_reducible apply At.there))) | with_reducible apply Sub.drop)))))
      have HQ := HQI
      clear h5 H1 hee ht4 HTAB hri HVSI HGI HTSI HQI
      by_cases he : ee = 0
      · subst he
        have HUE2 := hide (show uE bs = if (fineT last m 4 && dupOk ts) = true then 0 else 1 from HUE.out)
        clear HUE
        go_wp2_with fail
        go_loopg [15] 4 (fun gh iv wr => ∃ (k : Nat), gh = 4 - k ∧ k ≤ 4 ∧ iv = .int .i64 (k : Nat) ∧ fineT last m k = true ∧ St M0 wr (docB g now last vs :: docS vs m :: rowR 33 1 (.slice C q ce) q (ts.map (.int .u64)) :: intsR .u8 (.slice Av bs.length cv) bs :: L))
        case atStart => exact ⟨0, rfl, by omega, rfl, rfl, HL5.out⟩
        case round =>
          clear HL5
          obtain ⟨k, hg, hk, rfl, hfi, h⟩ := hrel
          have HG := hide hg
          have HFI := hide hfi
          have H5 := hide h
          clear hg hfi h
          by_cases hk4 : k < 4
          · have k0 : (0 : Int) ≤ (k : Int) := by omega
            have k1 : (k : Int) < 4 := by omega
            go_wp2_with fail
            refine (fine_st g k now last vs m _ hk4 H5.out).mono ?_
            rintro e w5 ⟨rfl, h⟩
            have H6 := hide h
            clear h H5
            cases hfb : fineB last (m k) with
            | true =>
              have HF2 := hide (show fineT last m (k + 1) = true by rw [fineT_succ, HFI.out, hfb]; rfl)
              clear hfb
              go_wp2_with fail
              go_roundg (4 - (k + 1))
              case measure => have := HG.out; omega
              case rel => exact ⟨k + 1, rfl, by omega, by go_num, HF2.out, H6.out⟩
            | false =>
              have HE := hide (show uE bs = 1 by rw [HUE2.out, fineT_false hk4 hfb]; rfl)
              clear hfb
              go_wp2_with fail
              go_ret2
              exact .inr ⟨by rw [HE.out]; decide, by rw [HE.out]; rfl, H6.out.sub (by (repeat (first | with_reducible exact Sub.refl _ | (with_reducible apply Sub.take; focus (repeat (first | with_reducible exact At.here | with_reducible apply At.there))) | with_reducible apply Sub.drop)))⟩
          · obtain rfl : k = 4 := by omega
            have HUE3 := hide (show uE bs = if dupOk ts = true then 0 else 1 by rw [HUE2.out, HFI.out]; rfl)
            have H6 := hide (St.ints (xs := ts) (H5.out.sub (L' := rowR 33 1 (.slice C q ce) q (ts.map (.int .u64)) :: docB g now last vs :: docS vs m :: intsR .u8 (.slice Av bs.length cv) bs :: L) (by (repeat (first | with_reducible exact Sub.refl _ | (with_reducible apply Sub.take; focus (repeat (first | with_reducible exact At.here | with_reducible apply At.there))) | with_reducible apply Sub.drop)))))
            clear H5 HFI HUE2 HG
            go_wp2_with fail
            go_loopg [17] q (fun gh iv wr => ∃ (k : Nat), gh = q - k ∧ k ≤ q ∧ iv = .int .i64 (k : Nat) ∧ dupOk (ts.take k) = true ∧ St M0 wr (intsR .u64 (.slice C q ce) ts :: docB g now last vs :: docS vs m :: intsR .u8 (.slice Av bs.length cv) bs :: L))
            case atStart => exact ⟨0, rfl, by omega, rfl, rfl, H6.out⟩
            case round =>
              clear H6
              obtain ⟨k, hg, hk, rfl, hwho, h⟩ := hrel
              have HG := hide hg
              have HWHO := hide hwho
              clear hg hwho
              by_cases hlt : k < q
              · have hx := List.getElem?_eq_getElem (l := ts) (i := k) (by rw [← HQ.out]; exact hlt)
                generalize ts[k]'(by rw [← HQ.out]; exact hlt) = z at hx
                obtain ⟨ad, rfl, _⟩ := Ints.at_ (h.get 0 rfl) hx
                have HX := hide hx
                have HS := hide (show dupOk (ts.take (k + 1)) = !(ts.take k).contains z by rw [List.take_add_one, hx]; show dupOk (ts.take k ++ [z]) = _; rw [dupOk_snoc, HWHO.out]; rfl)
                have k0 : (0 : Int) ≤ (k : Int) := by omega
                have k1 : (k : Int) < (q : Int) := by omega
                have H5 := hide h
                clear h hx
                go_wp2_with fail
                go_loopg [18] k (fun gh jv wr => ∃ (j : Nat), gh = k - j ∧ j ≤ k ∧ jv = .int .i64 (j : Nat) ∧ (∀ a ∈ ts.take j, a ≠ z) ∧ St M0 wr (intsR .u64 (.slice (some ad) q ce) ts :: docB g now last vs :: docS vs m :: intsR .u8 (.slice Av bs.length cv) bs :: L))
                case atStart => exact ⟨0, rfl, by omega, rfl, fun a ha => by simp at ha, H5.out⟩
                case round =>
                  clear H5
                  obtain ⟨j, hgj, hj, rfl, hno, h⟩ := hrel
                  have HGJ := hide hgj
                  have HNO := hide hno
                  clear hgj hno
                  obtain ⟨ad', hae, ek⟩ := Ints.at_ (h.get 0 rfl) HX.out
                  cases hae
                  by_cases hjk : j < k
                  · have hy := List.getElem?_eq_getElem (l := ts) (i := j) (by rw [← HQ.out]; omega)
                    generalize ts[j]'(by rw [← HQ.out]; omega) = y at hy
                    obtain ⟨ad', hae, ej⟩ := Ints.at_ (h.get 0 rfl) hy
                    cases hae
                    have j0 : (0 : Int) ≤ (j : Int) := by omega
                    have j1 : (j : Int) < (q : Int) := by omega
                    have j2 : (j : Int) < (k : Int) := by omega
                    have HY := hide hy
                    have H5 := hide h
                    clear h hy
                    by_cases hyz : z = y
                    · have b1 := isT hyz
                      have b2 := isT hyz.symm
                      have HE := hide (show uE bs = 1 by
                        rw [HUE3.out]
                        have hd : dupOk ts = false := by
                          refine dupOk_take (k := k + 1) ?_
                          rw [HS.out]
                          have hm : z ∈ ts.take k := by
                            rw [hyz]
                            refine List.mem_of_getElem? (i := j) ?_
                            rw [List.getElem?_take, if_pos hjk]
                            exact HY.out
                          simp [List.contains_eq_mem, hm]
                        rw [hd]
                        rfl)
                      clear hyz
                      go_wp2_with fail
                      go_quiet (fail)
                      go_wp2_with fail
                      go_ret2
                      exact .inr ⟨by rw [HE.out]; decide, by rw [HE.out]; rfl, (H5.out.drewN _).sub (by (repeat (first | with_reducible exact Sub.refl _ | (with_reducible apply Sub.take; focus (repeat (first | with_reducible exact At.here | with_reducible apply At.there))) | with_reducible apply Sub.drop)))⟩
                    · have b1 := isF hyz
                      have b2 := isF (fun e : y = z => hyz e.symm)
                      have HN2 := hide (show ∀ a ∈ ts.take (j + 1), a ≠ z from fun a ha => by
                        rw [List.take_add_one, HY.out] at ha
                        rcases List.mem_append.1 ha with ha | ha
                        · exact HNO.out a ha
                        · simp at ha
                          rw [ha]
                          exact fun e => hyz e.symm)
                      clear hyz
                      go_wp2_with fail
                      go_quiet (fail)
                      go_wp2_with fail
                      go_roundg (k - (j + 1))
                      case measure => have := HGJ.out; omega
                      case rel => exact ⟨j + 1, rfl, by omega, by go_num, HN2.out, H5.out.drewN _⟩
                  · obtain rfl : k = j := by omega
                    have HW2 := hide (show dupOk (ts.take (k + 1)) = true by
                      rw [HS.out, List.contains_eq_mem, decide_eq_false]
                      · rfl
                      · exact fun hm => HNO.out z hm rfl)
                    have H5 := hide h
                    clear h
                    go_wp2_with fail
                    go_roundg (q - (k + 1))
                    case measure => have := HG.out; omega
                    case rel => exact ⟨k + 1, rfl, by omega, by go_num, HW2.out, H5.out⟩
              · obtain rfl : q = k := by omega
                have HE := hide (show uE bs = 0 by
                  rw [HUE3.out, ← List.take_of_length_le (l := ts) (i := q) (by rw [← HQ.out]; exact Nat.le_refl _), HWHO.out]
                  rfl)
                have H5 := hide (show St M0 wr (docR g (uTab bs) :: intsR .u8 (.slice Av bs.length cv) bs :: L) by
                  rw [HUT.out]
                  exact h.tail.docCl)
                clear h
                go_wp2_with fail
                go_ret2
                exact .inl ⟨HE.out, g, rfl, H5.out⟩
      · have b1 := isF he
        have b2 := isN he
        have HE := hide (show uE bs = ee by rw [HUE.out]; exact if_pos he)
        have HNE := hide he
        clear he
        go_wp2_with fail
        go_ret2
        exact .inr ⟨by rw [HE.out]; exact HNE.out, by rw [HE.out]; rfl, HL5.out.sub (by (repeat (first | with_reducible exact Sub.refl _ | (with_reducible apply Sub.take; focus (repeat (first | with_reducible exact At.here | with_reducible apply At.there))) | with_reducible apply Sub.drop)))⟩
end Go.Proofs.Ytbgknfdaaffeaaa
