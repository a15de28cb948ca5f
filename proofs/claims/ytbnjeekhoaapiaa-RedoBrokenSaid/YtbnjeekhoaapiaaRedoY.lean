/- Redo: Plan. -/
import Derived.Test.YtbnjeekhoaapiaaRedoC
namespace Go.Proofs.Ytbnjeekhoaapiaa
open Go.RowKit Go.Shelf
attribute [local go_sem] Oper.semAt_some

set_option maxHeartbeats 2000000 in
set_option maxRecDepth 100000 in
theorem plan_st {M0 : Imm} {L : List Res} (region token seq : Int) (l : List PU) (A : Option Addr) (n c : Nat) (w : World) (hs : 0 ≤ seq ∧ seq ≤ 4294967295) (hl : l.length ≤ 1000) (h : St M0 w (rowsR 3 PutR (.slice A n c) l :: L)) :
    Calls Try.prog 22 #[.int .i64 region, .int .u64 token, .int .u32 seq, .slice A n c] w fun e w' => ∃ v, e = .returned (.tuple #[v, .int .i64 (planE region l)]) ∧ St M0 w' (growR 89 6 ReqP v (planQ region token seq l) :: L) := by
  obtain ⟨A', c', e, hc, hm⟩ := (h.getRows 0 rfl).slice
  injection e with e1 e2 e3
  subst e1; subst e3
  have HN := hide e2
  have hn : n ≤ 1000 := by omega
  have H := hide (h.alloc 3 #[.int .i64 region])
  have HS := hide hs
  have HL := hide hl
  have HE := hide (show planE region l = if recsE l = 0 then (if l.any (fun x => x.region != region) = true then 1 else 0) else recsE l from rfl)
  have HQ := hide (show planQ region token seq l = if planE region l = 0 then (pQ region token seq l ((l.length + 3) / 4)).2 else [] from rfl)
  clear h e2 hs hl
  refine (callsIn_wide (n := 12)).1 ?_
  refine callsIn_of_wp_marks Try.func22 rfl trivial ?_ rfl
  simp only [Try.ntmps22, List.size_toArray, List.length_cons, List.length_nil, Nat.reduceAdd, Nat.reduceSub, Array.replicate_succ, Array.replicate_zero, List.push_toArray, List.append_toArray, List.nil_append, List.cons_append]
  gi_wp2_with fail
  gi_loopw [22] (fun i wr => ∃ k : Nat, k ≤ n ∧ i = .int .i64 (k : Nat) ∧ recsE (l.take k) = 0 ∧ St M0 wr (blkR w.heap.size 3 #[.int .i64 region] :: rowsR 3 PutR (.slice A n c) l :: L)) (fun i _ => n - (intOf i).toNat)
  case atStart => exact ⟨0, by omega, rfl, rfl, H.out⟩
  case round =>
    clear H
    obtain ⟨k, hk, rfl, h0, h⟩ := hrel
    by_cases hlt : k < n
    · have hx := List.getElem?_eq_getElem (l := l) (i := k) (by rw [← HN.out]; exact hlt)
      generalize l[k]'(by rw [← HN.out]; exact hlt) = x at hx
      have ht : l.take (k + 1) = l.take k ++ [x] := by rw [List.take_add_one, hx]; rfl
      have hE := recsE_snoc (l.take k) x h0
      rw [← ht] at hE
      have hsplit : l.take (k + 1) ++ l.drop (k + 1) = l := List.take_append_drop _ _
      obtain ⟨ad, cs, rfl, _, hcs, ⟨v, rfl, hv⟩, h1⟩ := h.elem 1 rfl hx
      obtain ⟨B, d, rfl, _, _, _⟩ := id hv
      obtain ⟨e0, e1, e2⟩ := cells3 hcs
      have HE1 := hide hE
      have HSP := hide hsplit
      have H1 := hide (((h1.pers1 (R' := fun w' => Ints w' .u8 (.slice B x.data.length d) x.data) (fun w' hr => by obtain ⟨v, e, hi⟩ := hr.2; injection e with _ e; injection e with _ e; injection e with e; subst e; exact hi)).alloc 62 #[.int .i64 x.region, .int .i64 x.index, .slice B x.data.length d]).swap)
      clear hx h h1 hv hcs ht hE hsplit h0
      have i0 : (0 : Int) ≤ (k : Int) := by omega
      have i1 : (k : Int) < (n : Int) := by omega
      gi_wp2_with fail
      refine ⟨trivial, (callsIn_wide.2 (rec_st x B x.data.length d _ (H1.out.pick (L' := intsR .u8 (.slice B x.data.length d) x.data :: blkR w.heap.size 3 #[.int .i64 region] :: rowsR 3 PutR (.slice (some ad) n c) l :: L) 2 [0]))).mono ?_⟩
      rintro e w2 ⟨v2, rfl, h⟩
      have H2 := hide h.tail
      clear h H1 e0 e1 e2
      by_cases he : recE x = 0
      · have HE2 := hide (HE1.out.trans he)
        rw [he]
        clear he HE1
        gi_wp2_with fail
        go_roundw
        case rel => exact ⟨k + 1, by omega, by go_num, HE2.out, H2.out⟩
        case measure => simp [intOf]; omega
      · have hall : recsE l = recE x := by rw [← HSP.out, recsE_more _ _ (by rw [HE1.out]; exact he), HE1.out]
        have HALL := hide hall
        have hne : (recE x != 0) = true := by simp [he]
        have HNE := hide he
        generalize recE x = ee at *
        clear he hall HE1
        gi_wp2_with fail
        refine ⟨_, results_tmp2 rfl _ _ _, .slice none 0 0, ?_, ?_⟩
        · rw [HE.out, if_neg (by rw [HALL.out]; exact HNE.out), HALL.out]; rfl
        · rw [HQ.out, if_neg (by rw [HE.out, if_neg (by rw [HALL.out]; exact HNE.out), HALL.out]; exact HNE.out)]
          exact H2.out.tail.tail.nilGrow _ _ _
    · obtain rfl : k = n := by omega
      have htk : l.take k = l := List.take_of_length_le (by rw [← HN.out]; exact Nat.le_refl _)
      rw [htk] at h0
      have H0 := hide h0
      have H := hide h.swap
      clear h htk h0
      gi_wp2_with fail
      refine ⟨trivial, (callsIn_wide.2 (contains_st 62 (.pointer (some ⟨w.heap.size, 0, none⟩)) (fun x => x.region != region) l A k c wr (enters_of Try.func62 (by kernel_rfl) rfl) (fun x v W hW => pclo_st w.heap.size region x v W hW) H.out)).mono ?_⟩
      rintro e w2 ⟨rfl, h⟩
      clear H
      cases ha : l.any (fun x => x.region != region) with
      | true =>
        have H := hide h
        clear h
        have HX := hide (show planE region l = 1 by rw [HE.out, if_pos H0.out, if_pos ha])
        gi_wp2_with fail
        refine ⟨_, results_tmp2 rfl _ _ _, .slice none 0 0, ?_, ?_⟩
        · rw [HX.out]; rfl
        · rw [HQ.out, HX.out]
          exact (H.out.tail.tail).nilGrow _ _ _
      | false =>
        have HX := hide (show planE region l = 0 by rw [HE.out, if_pos H0.out, if_neg (by rw [ha]; exact Bool.false_ne_true)])
        have h2 := (h.nilGrow 89 6 ReqP).alloc 138 #[.int .i64 region, .int .u64 token, .int .u32 seq, .slice none 0 0]
        have h3 := St.addEx (f := fun v => starR (blkR w2.heap.size 138 #[.int .i64 region, .int .u64 token, .int .u32 seq, v]) (growR 89 6 ReqP v [])) (.slice none 0 0) h2.addStar
        have h4 := h3.alloc 136 #[.pointer (some ⟨w2.heap.size, 0, none⟩)]
        rw [World.size_alloc] at h4
        have H4 := hide (show St M0 _ (blkR (w2.heap.size + 1) 136 #[.pointer (some ⟨w2.heap.size, 0, none⟩)] :: planR w2.heap.size region token seq [] :: rowsR 3 PutR (.slice A k c) l :: blkR w.heap.size 3 #[.int .i64 region] :: L) from h4)
        have y0 := (h.blk 1 rfl).cell 0
        clear h h2 h3 h4
        gi_wp2_with fail
        refine ⟨trivial, (callsIn_wide.2 (chunk_st A k c _ H4.out)).mono ?_⟩
        rintro e w5 ⟨bs, bn, rfl, h⟩
        obtain ⟨pc, hpc⟩ : ∃ pc, pc = w2.heap.size + 1 := ⟨_, rfl⟩
        obtain ⟨pl, hpl⟩ : ∃ pl, pl = w2.heap.size := ⟨_, rfl⟩
        obtain ⟨rb, hrb⟩ : ∃ rb, rb = w.heap.size := ⟨_, rfl⟩
        rw [← hpc, ← hpl, ← hrb] at h
        rw [← hpc, ← hpl, ← hrb]
        have H := hide h
        clear h H4 y0 hpc hpl hrb
        gi_wp2_with fail
        refine rangeFunc_st (n := 12) (gf := 86) (lb := #[.pointer (some ⟨bs, 0, none⟩), .pointer (some ⟨bn, 0, none⟩)]) rfl (enters_of Try.func86 (by kernel_rfl) rfl) H.out ?_
        intro fn lr D W1 hW1
        refine (cclo_st l A k c bs bn lr 11 (fun j => objR lr (.loop _) :: objR D (.deferred (some [])) :: blkR pc 136 #[.pointer (some ⟨pl, 0, none⟩)] :: planR pl region token (pQ region token seq l j).1 (pQ region token seq l j).2 :: blkR rb 3 #[.int .i64 region] :: L) W1 hn ?_ (hW1.pick 7 [2, 3, 6, 0, 1, 4, 5])).mono ?_
        · intro j W A' p hj hp hW
          have HP := hide hp
          clear hp
          have key := yield_st (P := Try.prog) (n := 10) (L' := blkR bs 46 #[.slice A k c] :: blkR bn 3 #[.int .i64 4] :: rowsR 3 PutR (.slice A k c) l :: objR D (.deferred (some [])) :: blkR pc 136 #[.pointer (some ⟨pl, 0, none⟩)] :: planR pl region token (pQ region token seq l (j + 1)).1 (pQ region token seq l (j + 1)).2 :: blkR rb 3 #[.int .i64 region] :: L) ?_ (args := #[.slice A' p p]) hW.up4 rfl ?_ ?_
          · obtain ⟨fn', tm', as', bd', hy, hR⟩ := key
            refine ⟨fn', tm', as', bd', hy, hR.mono ?_⟩
            rintro e W' ⟨he, h4⟩
            exact ⟨he, h4.pick 4 [1, 2, 3, 0]⟩
          rotate_left
          · intro W2 K hK
            gi_wp2
            exact hK
          · intro W2 h2
            have hrec : ∀ x ∈ (l.drop (4 * j)).take 4, recE x = 0 := fun x hx => recsE_each l H0.out x (List.mem_of_mem_drop (List.mem_of_mem_take hx))
            have hpl : ((l.drop (4 * j)).take 4).length = p := by have := HN.out; have := HP.out; rw [List.length_take, List.length_drop]; omega
            have hp4 : p ≤ 4 := by have := HP.out; omega
            have hrg := pQ_range region token seq l HS.out j
            have hln := pQ_length region token seq l j
            have hst : pQ region token seq l (j + 1) = ((partQ region token (pQ region token seq l j).1 ((l.drop (4 * j)).take 4)).1, (pQ region token seq l j).2 ++ (partQ region token (pQ region token seq l j).1 ((l.drop (4 * j)).take 4)).2) := rfl
            rw [hst]
            clear hst
            generalize (l.drop (4 * j)).take 4 = pt at *
            generalize (pQ region token seq l j).1 = s at *
            generalize (pQ region token seq l j).2 = rq at *
            have HW := hide h2.up6.up2.up7
            have hrl : rq.length ≤ 9000 := by omega
            clear h2 hW hj hln
            gi_wp2_with fail
            gi_loopw [48] (fun i wr => ∃ q : Nat, q ≤ p ∧ i = .int .i64 (q : Nat) ∧ St M0 wr (planR pl region token (IntKind.u32.wrap (s + q)) (rq ++ wl (eQ region token s) 0 (pt.take q)) :: rowsR 3 PutR (.slice A' p p) pt :: blkR pc 136 #[.pointer (some ⟨pl, 0, none⟩)] :: _)) (fun i _ => p - (intOf i).toNat)
            case atStart => exact ⟨0, by omega, rfl, by rw [show IntKind.u32.wrap (s + (0 : Nat)) = s by rw [Int.natCast_zero, Int.add_zero]; exact IntWalk.u32_in _ hrg]; simpa [wl] using HW.out⟩
            case round =>
              clear HW
              obtain ⟨q, hq, rfl, h⟩ := hrel
              by_cases hlt : q < p
              · have hx := List.getElem?_eq_getElem (l := pt) (i := q) (by rw [hpl]; exact hlt)
                generalize pt[q]'(by rw [hpl]; exact hlt) = x at hx
                have hrx := hrec x (List.mem_of_getElem? hx)
                have ht : pt.take (q + 1) = pt.take q ++ [x] := by rw [List.take_add_one, hx]; rfl
                have hw : rq ++ wl (eQ region token s) 0 (pt.take (q + 1)) = rq ++ wl (eQ region token s) 0 (pt.take q) ++ [⟨4, region, 0, token, IntKind.u32.wrap (s + q), recB x⟩] := by
                  rw [ht, wl_snoc, List.append_assoc, List.length_take, show min q pt.length = q by rw [hpl]; omega, Nat.zero_add]
                  rfl
                have hlen : (rq ++ wl (eQ region token s) 0 (pt.take q)).length ≤ 1000000 := by
                  rw [List.length_append, wl_length, List.length_take]
                  omega
                obtain ⟨ad, cs, rfl, _, hcs, ⟨v, rfl, hv⟩, h1⟩ := h.elem 1 rfl hx
                obtain ⟨B, d, rfl, _, _, _⟩ := id hv
                obtain ⟨e0, e1, e2⟩ := cells3 hcs
                have HW := hide hw
                have HLEN := hide hlen
                have HRX := hide hrx
                have HREC := hide hrec
                have H1 := hide (((h1.pers1 (R' := fun w' => Ints w' .u8 (.slice B x.data.length d) x.data) (fun w' hr => by obtain ⟨v, e, hi⟩ := hr.2; injection e with _ e; injection e with _ e; injection e with e; subst e; exact hi)).junk (.cells #[.int .i64 x.region, .int .i64 x.index, .slice B x.data.length d] 62)))
                clear hx h h1 hv hcs ht hw hlen hrx hrec
                have i0 : (0 : Int) ≤ (q : Int) := by omega
                have i1 : (q : Int) < (p : Int) := by omega
                generalize rq ++ wl (eQ region token s) 0 (pt.take q) = rk at *
                gi_wp2_with fail
                refine ⟨trivial, (CallsIn.inRound lr (callsIn_wide.2 (rec_st x B x.data.length d _ H1.out))).mono ?_⟩
                rintro e w3 ⟨v3, rfl, h⟩
                obtain ⟨A3, c3, rfl, _, _, _⟩ := h.get 0 rfl
                have x0 : w3.cell? ⟨pc, 0, none⟩ = some (.pointer (some ⟨pl, 0, none⟩)) := (h.blk 3 rfl).cell 0
                have H3 := hide h
                clear h H1 e0 e1 e2
                gi_wp2_with fail
                refine ⟨trivial, (CallsIn.inRound lr (callsIn_wide.2 (add_st pl region token _ 4 0 rk A3 _ c3 (recB x) _ HLEN.out H3.out))).mono ?_⟩
                rintro e w4 ⟨rfl, h⟩
                rw [wrap_next] at h
                have H4 := hide h
                clear h H3 x0
                gi_wp2_with fail
                go_roundw
                case rel => exact ⟨q + 1, by omega, by go_num, by rw [HW.out]; exact H4.out⟩
                case measure => simp [intOf]; omega
              · obtain rfl : q = p := by omega
                have htk : pt.take q = pt := List.take_of_length_le (by rw [hpl]; exact Nat.le_refl _)
                rw [htk] at h
                have hlen : (rq ++ wl (eQ region token s) 0 pt).length + pt.length ≤ 100000 := by rw [List.length_append, wl_length]; omega
                have hdt : ∀ x ∈ pt, x.data.length ≤ 23 := fun x hx => (recE_data x (hrec x hx)).1
                have x0 : wr.cell? ⟨pc, 0, none⟩ = some (.pointer (some ⟨pl, 0, none⟩)) := (h.blk 2 rfl).cell 0
                have H1 := hide h.swap
                have HLEN := hide hlen
                have HDT := hide hdt
                have HPL := hide hpl
                clear h htk hlen hdt hrec hpl
                gi_wp2_with fail
                refine ⟨trivial, (CallsIn.inRound lr (callsIn_wide.2 (writes_st pl region token _ _ pt A' q q _ (by simp only [IntKind.wrap_u32]; omega) HLEN.out HDT.out H1.out))).mono ?_⟩
                rintro e w4 ⟨rfl, h⟩
                have H4 := hide h
                clear h H1 x0
                gi_wp2_with fail
                have h5 := H4.out.dn6.dn5
                rw [← HPL.out, List.append_assoc] at h5
                exact h5
        · rintro e W2 ⟨he, h2⟩
          refine ⟨he, _, h2.up4.up4, ?_⟩
          intro W3 h3
          obtain ⟨v5, h5⟩ := (h3.pick (L' := planR pl region token (pQ region token seq l ((k + 3) / 4)).1 (pQ region token seq l ((k + 3) / 4)).2 :: objR D (.deferred (some [])) :: blkR pc 136 #[.pointer (some ⟨pl, 0, none⟩)] :: L) 7 [5, 0, 4]).ex
          have h6 := h5.star
          obtain ⟨A5, c5, q5, vs5, rfl, -, -⟩ := h6.swap.openGrow
          have x0 : W3.cell? ⟨pc, 0, none⟩ = some (.pointer (some ⟨pl, 0, none⟩)) := (h6.blk 3 rfl).cell 0
          have x3 : W3.cell? ⟨pl, 3, none⟩ = some (.slice A5 q5 c5) := (h6.blk 0 rfl).cell 3
          have hD := h6.obj 2 rfl
          have H6 := hide (h6.pick (L' := objR D (.deferred (some [])) :: growR 89 6 ReqP (.slice A5 q5 c5) (pQ region token seq l ((k + 3) / 4)).2 :: L) 4 [2, 1])
          clear h3 h5 h6
          gi_wp2_with fail
          refine ⟨by simp, .inl ⟨_, _, rfl, run_takeDeferred hD, ?_⟩⟩
          refine ⟨_, results_tmp2 rfl _ _ _, .slice A5 q5 c5, ?_, ?_⟩
          · rw [HX.out]; rfl
          · rw [HQ.out, if_pos HX.out, ← HN.out]
            exact (H6.out.putO _).tail
end Go.Proofs.Ytbnjeekhoaapiaa
