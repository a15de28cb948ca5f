/- Cache: the document's Flushed and Drop. Printed by gen_caqd.py. -/
import Derived.Test.YtbgknfdaaffeaaaCaPm
import Derived.Test.YtbgknfdaaffeaaaSub
namespace Go.Proofs.Ytbgknfdaaffeaaa
open Go.RowKit Go.Shelf

theorem seen_in {l : List PU} {k : Nat} {x : PU} {r : Int} (hx : l[k]? = some x) (h : inReg r x = true) : ((l.take (k + 1)).filter (inReg r)).length = ((l.take k).filter (inReg r)).length + 1 := by
  rw [filter_snoc _ hx, if_pos h, List.length_append]
  rfl
theorem seen_out {l : List PU} {k : Nat} {x : PU} {r : Int} (hx : l[k]? = some x) (h : inReg r x = false) : ((l.take (k + 1)).filter (inReg r)).length = ((l.take k).filter (inReg r)).length := by
  rw [filter_snoc _ hx, if_neg (by rw [h]; decide), List.append_nil]
set_option maxHeartbeats 4000000 in
set_option maxRecDepth 100000 in
theorem flushD_st {M0 : Imm} {L : List Res} (g : Nat) (bl l : List PU) (r m : Int) (w : World) (hl : l.length ≤ 1000000) (h : St M0 w (docR g bl l :: L)) :
    Calls Try.prog 31 #[.pointer (some ⟨g, 0, none⟩), .int .i64 r, .int .i64 m] w fun e w' => e = .returned (.int .i64 (flE l r m)) ∧ St M0 w' (docR g bl (flW l r m) :: L) := by
  have HL := hide hl
  by_cases hm : m < 0
  · have hX : flX l r m := .inl hm
    have EE := hide (show flE l r m = 1 from if_pos hX)
    have EW := hide (show flW l r m = l from if_pos hX)
    have m1 : decide (m < 0) = true := decide_eq_true hm
    have H := hide h
    clear h hX hm hl
    go_enter Try.func31, Try.ntmps31
    go_wp2_with fail
    go_ret
    exact ⟨by rw [EE.out]; try rfl, by rw [EW.out]; exact H.out⟩
  have m1 : decide (m < 0) = false := decide_eq_false hm
  have H0 := hide h
  clear h
  go_enter Try.func31, Try.ntmps31
  go_wp2_with fail
  refine (dirtyD_st g bl l r _ HL.out H0.out).mono ?_
  rintro e w1 ⟨v, rfl, h⟩
  obtain ⟨A9, c9, rfl, _, _⟩ := h.growLen
  obtain ⟨q9, hq9⟩ : ∃ q9, q9 = (l.filter (inReg r)).length := ⟨_, rfl⟩
  rw [← hq9]
  have hX : flX l r m ↔ m < 0 ∨ m > (q9 : Nat) := by rw [hq9]; exact Iff.rfl
  have hq91 : q9 ≤ 1000000 := by
    have := List.length_filter_le (inReg r) l
    omega
  have HX := hide hX
  have HB := hide h.tail
  clear h hq9 hX H0
  by_cases hm2 : m > (q9 : Nat)
  · have EE := hide (show flE l r m = 1 from if_pos (HX.out.2 (.inr hm2)))
    have EW := hide (show flW l r m = l from if_pos (HX.out.2 (.inr hm2)))
    have m2 : decide (m > (q9 : Int)) = true := decide_eq_true hm2
    have m3 : decide ((q9 : Int) < m) = true := m2
    go_wp2_with fail
    go_ret
    exact ⟨by rw [EE.out]; try rfl, by rw [EW.out]; exact HB.out⟩
  have hnX : ¬ flX l r m := fun h => by rcases HX.out.1 h with h | h <;> omega
  have EE := hide (show flE l r m = 0 from if_neg hnX)
  have EW := hide (show flW l r m = keepS (goneP r) m.toNat l from if_neg hnX)
  obtain ⟨nn, hnn⟩ : ∃ nn : Nat, m = (nn : Int) := ⟨m.toNat, by omega⟩
  have m2 : decide (m > (q9 : Int)) = false := decide_eq_false hm2
  have m3 : decide ((q9 : Int) < m) = false := m2
  rw [hnn, Int.toNat_natCast] at EW
  have HNN : nn ≤ 1000000 := by omega
  subst hnn
  have m4 : decide (q9 < nn) = false := decide_eq_false (by omega)
  clear hnX HX
  obtain ⟨A0, c0, A, c, _, hc, _, hcm, h0⟩ := HB.out.docO
  obtain ⟨n, hn⟩ : ∃ n, n = l.length := ⟨_, rfl⟩
  rw [← hn] at hc h0
  have HN := hide hn
  have hnc : n ≤ c := hc
  have hn1 : n ≤ 1000000 := by omega
  have k0 := (h0.blk 0 rfl).cell 1
  have H := hide (h0.nilGrow 69 3 PutR)
  clear h0 hn hl hc HB
  go_wp2_with fail
  clear m1 m2 m3 m4 hm hm2
  go_loopg [7, 8, 9] n (fun gh ov sv iv wr => ∃ (k : Nat) (C : Option Addr) (q e sn : Nat), gh = n - k ∧ k ≤ n ∧ ov = .slice C q e ∧ sv = .int .i64 (sn : Nat) ∧ iv = .int .i64 (k : Nat) ∧ q = (keepS (goneP r) nn (l.take k)).length ∧ sn = ((l.take k).filter (inReg r)).length ∧ St M0 wr (growR 69 3 PutR (.slice C q e) (keepS (goneP r) nn (l.take k)) :: blkR g 47 #[.slice A0 bl.length c0, .slice A n c] :: rowsR 3 PutR (.slice A0 bl.length c0) bl :: rowsR 3 PutR (.slice A n c) l :: L))
  case atStart => exact ⟨0, none, 0, 0, 0, rfl, by omega, rfl, rfl, rfl, rfl, rfl, H.out⟩
  case round =>
    clear H k0
    obtain ⟨k, C, q, e, sn, hg, hk, rfl, rfl, rfl, hq, hsn, h⟩ := hrel
    have HG := hide hg
    have HJ := hide h
    have HQ := hide hq
    have hsn1 : sn ≤ 1000000 := by
      have h8 := List.length_filter_le (inReg r) (l.take k)
      rw [List.length_take] at h8
      omega
    have HS := hide hsn
    clear hg hsn
    have k0 := (h.blk 1 rfl).cell 1
    by_cases hlt : k < n
    · have hx := List.getElem?_eq_getElem (l := l) (i := k) (by rw [← HN.out]; exact hlt)
      generalize l[k]'(by rw [← HN.out]; exact hlt) = x at hx
      obtain ⟨ad, cs, rfl, _, hcs, ⟨v, rfl, hv⟩, h1⟩ := h.elem 3 rfl hx
      obtain ⟨X, xc, rfl, _, _, _⟩ := id hv
      obtain ⟨f0, f1, f2⟩ := cells3 hcs
      have hqn : q ≤ 1000000 := by
        have h8 := (keep_sub (goneP r) (l.take k) nn).length_le
        rw [List.length_take] at h8
        omega
      have i0 : (0 : Int) ≤ (k : Int) := by omega
      have i1 : (k : Int) < (n : Int) := by omega
      have HX := hide hx
      have HGS := hide (gone_snoc r nn hx)
      have H1 := hide (h1.pers1 (R' := fun w' => PutR w' [.int .i64 x.region, .int .i64 x.index, .slice X x.data.length xc] x) (fun w' hw => hw.2))
      clear hcs hv h hx h1 hq
      by_cases cr : x.region = r
      · have br : (x.region == r) = true := isT cr
        have HSN1 := hide (show sn + 1 = ((l.take (k + 1)).filter (inReg r)).length by rw [seen_in HX.out br, HS.out])
        clear cr
        have s1 : IntKind.i64.wrap ((sn : Int) + 1) = (sn : Int) + 1 := IntWalk.i64_in _ (by omega)
        by_cases hle : sn + 1 ≤ nn
        · have E := hide (show keepS (goneP r) nn (l.take (k + 1)) = (keepS (goneP r) nn (l.take k)) by rw [HGS.out, if_pos (by rw [← HSN1.out]; simp only [Bool.and_eq_true, decide_eq_true_eq]; exact ⟨br, hle⟩), List.append_nil])
          have d1 : decide ((sn : Int) + 1 ≤ (nn : Int)) = true := decide_eq_true (by omega)
          go_wp2_with fail
          go_roundg (n - (k + 1))
          case measure => have := HG.out; omega
          case rel => exact ⟨k + 1, C, q, e, sn + 1, rfl, by omega, rfl, by go_num, by go_num, by rw [E.out]; exact HQ.out, HSN1.out, by rw [E.out]; exact HJ.out⟩
        · have E := hide (show keepS (goneP r) nn (l.take (k + 1)) = (keepS (goneP r) nn (l.take k)) ++ [x] by rw [HGS.out, if_neg (by rw [← HSN1.out]; simp only [Bool.and_eq_true, decide_eq_true_eq]; exact fun h => hle h.2)])
          have d1 : decide ((sn : Int) + 1 ≤ (nn : Int)) = false := decide_eq_false (by omega)
          have HSN := HSN1
          clear HJ
          have h6 := (H1.out.alloc 69 #[.int .i64 x.region, .int .i64 x.index, .slice X x.data.length xc]).sub (L' := growR 69 3 PutR (.slice C q e) (keepS (goneP r) nn (l.take k)) :: blkR wr.heap.size 69 #[.int .i64 x.region, .int .i64 x.index, .slice X x.data.length xc] :: persR (fun w' => PutR w' [.int .i64 x.region, .int .i64 x.index, .slice X x.data.length xc] x) :: blkR g 47 #[.slice A0 bl.length c0, .slice (some ad) n c] :: rowsR 3 PutR (.slice A0 bl.length c0) bl :: rowsR 3 PutR (.slice (some ad) n c) l :: L) (by (repeat (first | with_reducible exact Sub.refl _ | (with_reducible apply Sub.take; focus (repeat (first | with_reducible exact At.here | with_reducible apply At.there))) | with_reducible apply Sub.drop)))
          obtain ⟨vs, hq2, hxl, h7⟩ := h6.openGrowS
          have H7 := hide h7
          have HQ2 := hide hq2
          have HXL := hide hxl
          clear h6 h7 hq2 hxl H1
          go_wp2_with (at_builtin; refine St.app_step rput_elem H7.out rfl _ _ rfl rfl (some ⟨wr.heap.size, 0, none⟩) 1 1 rfl [.int .i64 x.region, .int .i64 x.index, .slice X x.data.length xc] (sl_blkN (cs := [.int .i64 x.region, .int .i64 x.index, .slice X x.data.length xc]) (H7.out.blk 2 rfl)) (put_one _ _ _ _ _) (by omega) (by omega) ?_; intro A6 c6 w7 h9)
          have h10 := (h9.sub (L' := rowR 69 3 (.slice A6 (q + 1) c6) (q + 1) (vs ++ [.int .i64 x.region, .int .i64 x.index, .slice X x.data.length xc]) :: persR (fun w => ∀ (j : Nat) p, (keepS (goneP r) nn (l.take k))[j]? = some p → PutR w ((vs.drop (j * 3)).take 3) p) :: persR (fun w' => PutR w' [.int .i64 x.region, .int .i64 x.index, .slice X x.data.length xc] x) :: blkR g 47 #[.slice A0 bl.length c0, .slice (some ad) n c] :: rowsR 3 PutR (.slice A0 bl.length c0) bl :: rowsR 3 PutR (.slice (some ad) n c) l :: L) (by (repeat (first | with_reducible exact Sub.refl _ | (with_reducible apply Sub.take; focus (repeat (first | with_reducible exact At.here | with_reducible apply At.there))) | with_reducible apply Sub.drop)))).snocGrow (size := 3) HQ2.out rfl HXL.out
          have H10 := hide h10
          clear h9 h10 H7
          go_roundg (n - (k + 1))
          case measure => have := HG.out; omega
          case rel => exact ⟨k + 1, A6, q + 1, c6, sn + 1, rfl, by omega, rfl, by go_num, by go_num, by rw [E.out, List.length_append, ← HQ.out]; rfl, HSN.out, by rw [E.out]; exact H10.out⟩
      · have br : (x.region == r) = false := isF cr
        clear cr
        have HSN := hide (show sn = ((l.take (k + 1)).filter (inReg r)).length by rw [seen_out HX.out br, HS.out])
        have E := hide (show keepS (goneP r) nn (l.take (k + 1)) = (keepS (goneP r) nn (l.take k)) ++ [x] by rw [HGS.out, if_neg (by rw [show inReg r x = false from br, Bool.false_and]; exact Bool.false_ne_true)])
        clear HJ
        have h6 := (H1.out.alloc 69 #[.int .i64 x.region, .int .i64 x.index, .slice X x.data.length xc]).sub (L' := growR 69 3 PutR (.slice C q e) (keepS (goneP r) nn (l.take k)) :: blkR wr.heap.size 69 #[.int .i64 x.region, .int .i64 x.index, .slice X x.data.length xc] :: persR (fun w' => PutR w' [.int .i64 x.region, .int .i64 x.index, .slice X x.data.length xc] x) :: blkR g 47 #[.slice A0 bl.length c0, .slice (some ad) n c] :: rowsR 3 PutR (.slice A0 bl.length c0) bl :: rowsR 3 PutR (.slice (some ad) n c) l :: L) (by (repeat (first | with_reducible exact Sub.refl _ | (with_reducible apply Sub.take; focus (repeat (first | with_reducible exact At.here | with_reducible apply At.there))) | with_reducible apply Sub.drop)))
        obtain ⟨vs, hq2, hxl, h7⟩ := h6.openGrowS
        have H7 := hide h7
        have HQ2 := hide hq2
        have HXL := hide hxl
        clear h6 h7 hq2 hxl H1
        go_wp2_with (at_builtin; refine St.app_step rput_elem H7.out rfl _ _ rfl rfl (some ⟨wr.heap.size, 0, none⟩) 1 1 rfl [.int .i64 x.region, .int .i64 x.index, .slice X x.data.length xc] (sl_blkN (cs := [.int .i64 x.region, .int .i64 x.index, .slice X x.data.length xc]) (H7.out.blk 2 rfl)) (put_one _ _ _ _ _) (by omega) (by omega) ?_; intro A6 c6 w7 h9)
        have h10 := (h9.sub (L' := rowR 69 3 (.slice A6 (q + 1) c6) (q + 1) (vs ++ [.int .i64 x.region, .int .i64 x.index, .slice X x.data.length xc]) :: persR (fun w => ∀ (j : Nat) p, (keepS (goneP r) nn (l.take k))[j]? = some p → PutR w ((vs.drop (j * 3)).take 3) p) :: persR (fun w' => PutR w' [.int .i64 x.region, .int .i64 x.index, .slice X x.data.length xc] x) :: blkR g 47 #[.slice A0 bl.length c0, .slice (some ad) n c] :: rowsR 3 PutR (.slice A0 bl.length c0) bl :: rowsR 3 PutR (.slice (some ad) n c) l :: L) (by (repeat (first | with_reducible exact Sub.refl _ | (with_reducible apply Sub.take; focus (repeat (first | with_reducible exact At.here | with_reducible apply At.there))) | with_reducible apply Sub.drop)))).snocGrow (size := 3) HQ2.out rfl HXL.out
        have H10 := hide h10
        clear h9 h10 H7
        go_roundg (n - (k + 1))
        case measure => have := HG.out; omega
        case rel => exact ⟨k + 1, A6, q + 1, c6, sn, rfl, by omega, rfl, by go_num, by go_num, by rw [E.out, List.length_append, ← HQ.out]; rfl, HSN.out, by rw [E.out]; exact H10.out⟩
    · obtain rfl : k = n := by omega
      have E := hide (show keepS (goneP r) nn (l.take k) = keepS (goneP r) nn l by rw [List.take_of_length_le (by rw [← HN.out]; exact Nat.le_refl _)])
      rw [E.out] at h hq
      have x0 := (h.blk 1 rfl).cell 1
      have f := (h.blk 1 rfl).frozen
      have H := hide ((h.swap.put_ 1 (.slice C q e) #[.slice A0 bl.length c0, .slice C q e]).swap.rowsGrow.sub (L' := blkR g 47 #[.slice A0 bl.length c0, .slice C q e] :: rowsR 3 PutR (.slice A0 bl.length c0) bl :: rowsR 3 PutR (.slice C q e) (keepS (goneP r) nn l) :: L) (by (repeat (first | with_reducible exact Sub.refl _ | (with_reducible apply Sub.take; focus (repeat (first | with_reducible exact At.here | with_reducible apply At.there))) | with_reducible apply Sub.drop))))
      clear h hq k0
      go_wp2_with fail
      go_ret
      exact ⟨by rw [EE.out]; try rfl, by rw [EW.out]; exact H.out.docC⟩
set_option maxHeartbeats 2000000 in
set_option maxRecDepth 100000 in
theorem others_q {M0 : Imm} {L R : List Res} (l : List PU) (r : Int) (A : Option Addr) (n c : Nat) (w : World) (hm : At (rowsR 3 PutR (.slice A n c) l) L R) (hl : l.length ≤ 1000000) (h : St M0 w L) :
    Calls Try.prog 86 #[.slice A n c, .int .i64 r] w fun e w' => ∃ B q d, e = .returned (.slice B q d) ∧ q = (l.filter (fun x => !inReg r x)).length ∧ St M0 w' (rowsR 3 PutR (.slice B q d) (l.filter (fun x => !inReg r x)) :: L) := by
  obtain ⟨m, hm⟩ := hm.idx
  refine (others_st l r A n c w m hm hl h).mono ?_
  rintro e w' ⟨v, rfl, h⟩
  obtain ⟨B, d, rfl, _, _⟩ := h.growLen
  exact ⟨_, _, _, rfl, rfl, h.rowsGrow⟩
set_option maxHeartbeats 4000000 in
set_option maxRecDepth 100000 in
theorem dropD_st {M0 : Imm} {L : List Res} (g : Nat) (bl ws : List PU) (r : Int) (w : World) (hbl : bl.length ≤ 1000000) (hl : ws.length ≤ 1000000) (h : St M0 w (docR g bl ws :: L)) :
    Calls Try.prog 34 #[.pointer (some ⟨g, 0, none⟩), .int .i64 r] w fun e w' => ∃ v, e = .returned v ∧ St M0 w' (growR 69 3 PutR v (ws.filter (inReg r)) :: docR g (bl.filter (fun x => !inReg r x)) (ws.filter (fun x => !inReg r x)) :: L) := by
  have HL := hide hl
  have HB := hide hbl
  have H0 := hide h
  clear h hl hbl
  go_enter Try.func34, Try.ntmps34
  go_wp2_with fail
  refine (dirtyD_st g bl ws r _ HL.out H0.out).mono ?_
  rintro e w1 ⟨v, rfl, h⟩
  obtain ⟨A9, c9, rfl, _, _⟩ := h.growLen
  generalize hq9 : (ws.filter (inReg r)).length = q9 at h ⊢
  obtain ⟨A0, c0, A1, c1, _, _, _, _, h0⟩ := h.swap.docO
  have k1 := (h0.blk 0 rfl).cell 1
  have H := hide h0
  clear h h0 hq9 H0
  go_wp2_with fail
  refine (others_q ws r A1 ws.length c1 _ (by (repeat (first | with_reducible exact At.here | with_reducible apply At.there))) HL.out H.out).mono ?_
  rintro e w2 ⟨B2, q2, d2, rfl, hq2, h2⟩
  clear k1
  have x1 := (h2.blk 1 rfl).cell 1
  have f := (h2.blk 1 rfl).frozen
  have h3 := (h2.sub (L' := blkR g 47 #[.slice A0 bl.length c0, .slice A1 ws.length c1] :: rowsR 3 PutR (.slice A0 bl.length c0) bl :: rowsR 3 PutR (.slice B2 q2 d2) (ws.filter (fun x => !inReg r x)) :: growR 69 3 PutR (.slice A9 q9 c9) (ws.filter (inReg r)) :: L) (by (repeat (first | with_reducible exact Sub.refl _ | (with_reducible apply Sub.take; focus (repeat (first | with_reducible exact At.here | with_reducible apply At.there))) | with_reducible apply Sub.drop)))).put_ 1 (.slice B2 q2 d2) #[.slice A0 bl.length c0, .slice B2 q2 d2]
  have k0 := (h3.blk 0 rfl).cell 0
  have H3 := hide h3
  clear h2 h3 hq2 H
  go_wp2_with fail
  refine (others_q bl r A0 bl.length c0 _ (by (repeat (first | with_reducible exact At.here | with_reducible apply At.there))) HB.out H3.out).mono ?_
  rintro e w3 ⟨B3, q3, d3, rfl, hq3, h4⟩
  clear k0 x1 f
  have x0 := (h4.blk 1 rfl).cell 0
  have f := (h4.blk 1 rfl).frozen
  have h5 := (h4.sub (L' := blkR g 47 #[.slice A0 bl.length c0, .slice B2 q2 d2] :: rowsR 3 PutR (.slice B3 q3 d3) (bl.filter (fun x => !inReg r x)) :: rowsR 3 PutR (.slice B2 q2 d2) (ws.filter (fun x => !inReg r x)) :: growR 69 3 PutR (.slice A9 q9 c9) (ws.filter (inReg r)) :: L) (by (repeat (first | with_reducible exact Sub.refl _ | (with_reducible apply Sub.take; focus (repeat (first | with_reducible exact At.here | with_reducible apply At.there))) | with_reducible apply Sub.drop)))).put_ 0 (.slice B3 q3 d3) #[.slice B3 q3 d3, .slice B2 q2 d2]
  have H5 := hide h5
  clear h4 h5 hq3 H3
  go_wp2_with fail
  go_ret
  exact ⟨_, rfl, H5.out.docC.swap⟩
end Go.Proofs.Ytbgknfdaaffeaaa
