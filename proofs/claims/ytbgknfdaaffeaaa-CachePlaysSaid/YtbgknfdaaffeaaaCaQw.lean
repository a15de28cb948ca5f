/- Cache: the document's Fill (by hand) and Write (printed by gen_caqf.py). -/
import Derived.Test.YtbgknfdaaffeaaaCaQl
import Derived.Test.YtbgknfdaaffeaaaCaWr
import Derived.Test.YtbgknfdaaffeaaaFlowS
namespace Go.Proofs.Ytbgknfdaaffeaaa
open Go.RowKit Go.Shelf

def filDS (g y : Nat) (v : Value) (r i : Int) (W : World) : Prop := W.cell? ⟨g, 1, none⟩ = some v ∧ W.cell? ⟨y, 0, none⟩ = some (.int .i64 r) ∧ W.cell? ⟨y, 1, none⟩ = some (.int .i64 i)
theorem filDS_of {M0 : Imm} {W : World} {Ls R1 R2 : List Res} {g y : Nat} {v u : Value} {r i : Int} (h : St M0 W Ls) (hj : At (blkR g 47 #[u, v]) Ls R1) (hk : At (blkR y 53 #[.int .i64 r, .int .i64 i]) Ls R2) : filDS g y v r i W :=
  ⟨(h.blkA hj).cell 1, (h.blkA hk).cell 0, (h.blkA hk).cell 1⟩
set_option maxHeartbeats 2000000 in
set_option maxRecDepth 100000 in
theorem fillD_st {M0 : Imm} {L : List Res} (g : Nat) (bl ws : List PU) (r i : Int) (A0 : Option Addr) (n0 c0 : Nat) (data : List Int) (w : World) (hl : bl.length ≤ 1000000) (hn : (bl.map keyOf).Nodup) (h : St M0 w (intsR .u8 (.slice A0 n0 c0) data :: docR g bl ws :: L)) :
    Calls Try.prog 27 #[.pointer (some ⟨g, 0, none⟩), .agg #[.int .i64 r, .int .i64 i], .slice A0 n0 c0] w fun e w' => e = .returned (.int .i64 (fillE bl ws r i)) ∧ St M0 w' (docR g (fillB bl ws ⟨r, i, data⟩) ws :: L) := by
  obtain ⟨A1, c1, B, d, hc, _, hcm, _, h0⟩ := h.swap.docO
  have HD := hide hn
  have HL := hide hl
  have h1 := h0.alloc 53 #[.int .i64 r, .int .i64 i]
  generalize hy : w.heap.size = y at h1
  have k0 := (h0.blk 0 rfl).cell 1
  have y0 := (h1.blk 0 rfl).cell 0
  have y1 := (h1.blk 0 rfl).cell 1
  have H := hide h1
  clear h h0 h1 hn hl
  go_enter Try.func27, Try.ntmps27
  go_wp2_with fail
  clear hy k0 y0 y1
  generalize w.alloc _ = w0 at H ⊢
  refine region_mix (filDS g y (.slice B ws.length d) r i) 6 [0, 1, 2, 3, 4] [5, 6] (by kernel_rfl) (by kernel_rfl) (fun d => by cases d <;> exact fun _ _ _ _ h => h) (fun W hW => ?_)
  have HW := hide H.out.drew
  rw [← hW] at HW
  clear hW H
  refine ⟨filDS_of HW.out (by (repeat (first | with_reducible exact At.here | with_reducible apply At.there))) (by (repeat (first | with_reducible exact At.here | with_reducible apply At.there))), ?_⟩
  iterate 5 (refine take_run rfl rfl (fun W hW => by (obtain ⟨x0, y0, y1⟩ := hW; go_simp; try rfl)) ?_; (simp only [Act.put, List.setIfInBounds_toArray, List.set_cons_succ, List.set_cons_zero]))
  refine take_nil ?_
  refine seq_call (f := 80) (args := #[.slice B ws.length d, .agg #[.int .i64 r, .int .i64 i]]) rfl rfl (by go_simp; try rfl) ?_
  refine (has_q ws r i B ws.length d W (by (repeat (first | with_reducible exact At.here | with_reducible apply At.there))) HW.out).mono ?_
  rintro e w2 ⟨rfl, h2⟩
  refine ⟨_, rfl, fun _ => filDS_of h2 (by (repeat (first | with_reducible exact At.here | with_reducible apply At.there))) (by (repeat (first | with_reducible exact At.here | with_reducible apply At.there))), ?_⟩
  (simp only [Act.put, List.setIfInBounds_toArray, List.set_cons_succ, List.set_cons_zero])
  refine seq_read rfl rfl (by (go_simp; try rfl)) (fun h => absurd h (by decide)) ?_
  (simp only [Act.put, List.setIfInBounds_toArray, List.set_cons_succ, List.set_cons_zero])
  refine seq_nil ?_
  have H1 := hide h2
  clear h2 HW
  cases ha : ws.any (keyIs r i) with
  | true =>
    have E0 := hide (show fillE bl ws r i = 1 from if_pos ha)
    have EB := hide (show fillB bl ws ⟨r, i, data⟩ = bl from if_pos ha)
    clear ha
    go_wp2_with fail
    go_ret
    exact ⟨by rw [E0.out]; try rfl, by rw [EB.out]; exact (H1.out.sub (L' := blkR g 47 #[.slice A1 bl.length c1, .slice B ws.length d] :: rowsR 3 PutR (.slice A1 bl.length c1) bl :: rowsR 3 PutR (.slice B ws.length d) ws :: L) (by (repeat (first | with_reducible exact Sub.refl _ | (with_reducible apply Sub.take; focus (repeat (first | with_reducible exact At.here | with_reducible apply At.there))) | with_reducible apply Sub.drop)))).docC⟩
  | false =>
    have E0 := hide (show fillE bl ws r i = layE bl ws r i from if_neg (by rw [ha]; decide))
    have EB := hide (show fillB bl ws ⟨r, i, data⟩ = layB bl ws ⟨r, i, data⟩ from if_neg (by show ¬ ws.any (keyIs r i) = true; rw [ha]; decide))
    have y0 := (H1.out.blk 0 rfl).cell 0
    have y1 := (H1.out.blk 0 rfl).cell 1
    clear ha
    go_wp2_with fail
    refine (layD_st g bl ws r i A0 n0 c0 data _ HL.out HD.out ((H1.out.sub (L' := blkR g 47 #[.slice A1 bl.length c1, .slice B ws.length d] :: rowsR 3 PutR (.slice A1 bl.length c1) bl :: rowsR 3 PutR (.slice B ws.length d) ws :: intsR .u8 (.slice A0 n0 c0) data :: L) (by (repeat (first | with_reducible exact Sub.refl _ | (with_reducible apply Sub.take; focus (repeat (first | with_reducible exact At.here | with_reducible apply At.there))) | with_reducible apply Sub.drop)))).docC.swap)).mono ?_
    rintro e w3 ⟨rfl, h3⟩
    have H3 := hide h3
    clear h3 H1 y0 y1
    rcases layE_le bl ws r i with he | he
    · rw [he] at E0 ⊢
      clear he
      go_wp2_with fail
      go_ret
      exact ⟨by rw [E0.out]; try rfl, by rw [EB.out]; exact H3.out⟩
    · rw [he] at E0 ⊢
      clear he
      go_wp2_with fail
      go_ret
      exact ⟨by rw [E0.out]; try rfl, by rw [EB.out]; exact H3.out⟩

theorem rput_empty (w : World) : (Instr.buildSlice 45 0 #[]).run Try.prog w = .ok (.slice (some ⟨w.heap.size, 0, none⟩) 0 0) (w.alloc (.cells #[] 69)) := by kernel_rfl
theorem one_cells {α : Type} (css : Nat → List Value) (xs : List α) (n : Nat) (h : ∀ i x, xs[i]? = some x → ∀ u ∈ css i, u.oneCell' = true) (hn : n = xs.length) : ∀ u ∈ flat css n, u.oneCell' = true := by
  intro u hu
  obtain ⟨i, hi, hu⟩ := flat_mem hu
  exact h i _ (List.getElem?_eq_getElem (by omega)) u hu
set_option maxHeartbeats 4000000 in
set_option maxRecDepth 100000 in
theorem writeD_st {M0 : Imm} {L : List Res} (g : Nat) (bl ws : List PU) (r i : Int) (A0 : Option Addr) (n0 c0 : Nat) (data : List Int) (w : World) (hbl : bl.length ≤ 1000000) (hl : ws.length ≤ 1000000) (hn : (bl.map keyOf).Nodup) (h : St M0 w (intsR .u8 (.slice A0 n0 c0) data :: docR g bl ws :: L)) :
    Calls Try.prog 29 #[.pointer (some ⟨g, 0, none⟩), .agg #[.int .i64 r, .int .i64 i], .slice A0 n0 c0] w fun e w' => e = .returned (.int .i64 (wrE bl ws ⟨r, i, data⟩)) ∧ St M0 w' (docR g (wrB bl ws ⟨r, i, data⟩) (wrW bl ws ⟨r, i, data⟩) :: L) := by
  have hn0 : n0 = data.length := (h.get 0 rfl).sl.1
  have h1 := h.alloc 53 #[.int .i64 r, .int .i64 i]
  generalize hy : w.heap.size = y at h1
  have y0 := (h1.blk 0 rfl).cell 0
  have y1 := (h1.blk 0 rfl).cell 1
  have H := hide (h1.sub (L' := docR g bl ws :: blkR y 53 #[.int .i64 r, .int .i64 i] :: intsR .u8 (.slice A0 n0 c0) data :: L) (by (repeat (first | with_reducible exact Sub.refl _ | (with_reducible apply Sub.take; focus (repeat (first | with_reducible exact At.here | with_reducible apply At.there))) | with_reducible apply Sub.drop))))
  have HL := hide hl
  have HD := hide hn
  have HB := hide hbl
  have HN0 := hide hn0
  clear h h1 hl hbl hn
  by_cases hlong : 23 < n0
  · have EX : wrX ws r data = 2 := if_pos (by omega)
    have EE := hide (show wrE bl ws ⟨r, i, data⟩ = 2 by unfold wrE; simp only [EX]; rfl)
    have EB := hide (show wrB bl ws ⟨r, i, data⟩ = bl by unfold wrB; simp only [EX]; rfl)
    have EW := hide (show wrW bl ws ⟨r, i, data⟩ = ws by unfold wrW; rw [EE.out]; rfl)
    have c1 : decide ((n0 : Int) > 23) = true := decide_eq_true (by omega)
    have c2 : decide ((23 : Int) < (n0 : Int)) = true := c1
    clear EX hn0 hy
    go_enter Try.func29, Try.ntmps29
    go_wp2_with fail
    go_ret
    exact ⟨by rw [EE.out]; try rfl, by rw [EB.out, EW.out]; exact H.out.sub (by (repeat (first | with_reducible exact Sub.refl _ | (with_reducible apply Sub.take; focus (repeat (first | with_reducible exact At.here | with_reducible apply At.there))) | with_reducible apply Sub.drop)))⟩
  · have c1 : decide ((n0 : Int) > 23) = false := decide_eq_false (by omega)
    have c2 : decide ((23 : Int) < (n0 : Int)) = false := c1
    have hn1 : n0 ≤ 1000000 := by omega
    have hX : wrX ws r data = if 12 ≤ (ws.filter (inReg r)).length then 42 else 0 := if_neg (by omega)
    have HX := hide hX
    clear hX hn0
    go_enter Try.func29, Try.ntmps29
    go_wp2_with fail
    refine (dirtyD_st g bl ws r _ HL.out H.out).mono ?_
    rintro e w2 ⟨v, rfl, h2⟩
    obtain ⟨A2, c2', rfl, hc2, hm2⟩ := h2.growLen
    obtain ⟨q2, hq2⟩ : ∃ q2, q2 = (ws.filter (inReg r)).length := ⟨_, rfl⟩
    rw [← hq2] at hc2 h2 HX
    rw [← hq2]
    clear y0 y1
    have y0 := (h2.blk 2 rfl).cell 0
    have y1 := (h2.blk 2 rfl).cell 1
    have H2 := hide (h2.sub (L' := intsR .u8 (.slice A0 n0 c0) data :: docR g bl ws :: blkR y 53 #[.int .i64 r, .int .i64 i] :: L) (by (repeat (first | with_reducible exact Sub.refl _ | (with_reducible apply Sub.take; focus (repeat (first | with_reducible exact At.here | with_reducible apply At.there))) | with_reducible apply Sub.drop))))
    have HQ := hide hq2
    clear h2 H hq2
    by_cases hfull : 12 ≤ q2
    · have c3 : decide ((q2 : Int) ≥ 12) = true := decide_eq_true (by omega)
      have c4 : decide ((12 : Int) ≤ (q2 : Int)) = true := c3
      have EX : wrX ws r data = 42 := by rw [HX.out, if_pos hfull]
      have EE := hide (show wrE bl ws ⟨r, i, data⟩ = 42 by unfold wrE; simp only [EX]; rfl)
      have EB := hide (show wrB bl ws ⟨r, i, data⟩ = bl by unfold wrB; simp only [EX]; rfl)
      have EW := hide (show wrW bl ws ⟨r, i, data⟩ = ws by unfold wrW; rw [EE.out]; rfl)
      clear EX
      go_wp2_with fail
      go_ret
      exact ⟨by rw [EE.out]; try rfl, by rw [EB.out, EW.out]; exact H2.out.sub (by (repeat (first | with_reducible exact Sub.refl _ | (with_reducible apply Sub.take; focus (repeat (first | with_reducible exact At.here | with_reducible apply At.there))) | with_reducible apply Sub.drop)))⟩
    · have c3 : decide ((q2 : Int) ≥ 12) = false := decide_eq_false (by omega)
      have c4 : decide ((12 : Int) ≤ (q2 : Int)) = false := c3
      have EX : wrX ws r data = 0 := by rw [HX.out, if_neg hfull]
      have EB := hide (show wrB bl ws ⟨r, i, data⟩ = layB bl ws ⟨r, i, data⟩ by unfold wrB; simp only [EX]; rfl)
      have EE := hide (show wrE bl ws ⟨r, i, data⟩ = layE bl ws r i by unfold wrE; simp only [EX]; rfl)
      have HI := hide (H2.out.copy 0 rfl)
      clear EX H2
      go_wp2_with fail
      have h3 := (HI.out.sub (L' := intsR .u8 (.slice A0 n0 c0) data :: docR g bl ws :: intsR .u8 (.slice A0 n0 c0) data :: blkR y 53 #[.int .i64 r, .int .i64 i] :: L) (by (repeat (first | with_reducible exact Sub.refl _ | (with_reducible apply Sub.take; focus (repeat (first | with_reducible exact At.here | with_reducible apply At.there))) | with_reducible apply Sub.drop))))
      refine (layD_st g bl ws r i A0 n0 c0 data _ HB.out HD.out h3).mono ?_
      rintro e w3 ⟨rfl, h4⟩
      clear h3 HI y0 y1
      have y0 := (h4.blk 2 rfl).cell 0
      have y1 := (h4.blk 2 rfl).cell 1
      have H4 := hide h4
      clear h4
      rcases layE_le bl ws r i with he | he
      · have EW := hide (show wrW bl ws ⟨r, i, data⟩ = ws ++ [⟨r, i, data⟩] by unfold wrW; rw [EE.out, he]; rfl)
        rw [he] at EE
        rw [he]
        clear he
        have E0 := EE
        generalize layB bl ws ⟨r, i, data⟩ = b1 at EB H4
        go_wp2_with fail
        obtain ⟨A1, c1, B, d, _, _, _, _, h5⟩ := H4.out.docO
        obtain ⟨nw, hnw⟩ : ∃ nw, nw = ws.length := ⟨_, rfl⟩
        obtain ⟨nb, hnb⟩ : ∃ nb, nb = b1.length := ⟨_, rfl⟩
        rw [← hnw, ← hnb] at h5
        have hnl : nw ≤ 1000000 := by have := HL.out; omega
        have HNW := hide hnw
        obtain ⟨css, h6⟩ := ((h5.sub (L' := rowsR 3 PutR (.slice B nw d) ws :: intsR .u8 (.slice A0 n0 c0) data :: blkR y 53 #[.int .i64 r, .int .i64 i] :: blkR g 47 #[.slice A1 nb c1, .slice B nw d] :: rowsR 3 PutR (.slice A1 nb c1) b1 :: L) (by (repeat (first | with_reducible exact Sub.refl _ | (with_reducible apply Sub.take; focus (repeat (first | with_reducible exact At.here | with_reducible apply At.there))) | with_reducible apply Sub.drop))))).openRows
        have HONE := hide (show ∀ i x, ws[i]? = some x → ∀ u ∈ css i, u.oneCell' = true from fun i x hx u hu => by
          obtain ⟨A9, c9, e9, _, _, h9⟩ := h6.get 0 rfl
          obtain ⟨_, _, _, _, v9, e8, h8⟩ := h9 i x hx
          obtain ⟨A8, c8, rfl, _⟩ := h8
          rw [e8] at hu
          exact put_one _ _ _ _ _ u hu)
        have h7 := (h6.swap.pers1 (R' := fun w' => PutR w' [.int .i64 r, .int .i64 i, .slice A0 n0 c0] ⟨r, i, data⟩) (fun w' hi => ⟨_, rfl, hi⟩)).sub (L' := blkR y 53 #[.int .i64 r, .int .i64 i] :: blkR g 47 #[.slice A1 nb c1, .slice B nw d] :: persR (fun w => RowsC w 3 PutR (.slice B nw d) css ws) :: persR (fun w' => PutR w' [.int .i64 r, .int .i64 i, .slice A0 n0 c0] ⟨r, i, data⟩) :: rowsR 3 PutR (.slice A1 nb c1) b1 :: L) (by (repeat (first | with_reducible exact Sub.refl _ | (with_reducible apply Sub.take; focus (repeat (first | with_reducible exact At.here | with_reducible apply At.there))) | with_reducible apply Sub.drop)))
        have h0 := h7
        clear h5 h6 h7 H4 y0 y1 hnb hnw
        refine region_flow (M0 := M0) (L0 := rowsR 3 PutR (.slice A1 nb c1) b1 :: L) [⟨none, none, fun e => blkR y 53 #[.int .i64 r, .int .i64 i]⟩, ⟨none, some 14, fun e => blkR g 47 #[.slice A1 nb c1, .slice B nw d]⟩, ⟨none, none, fun e => persR (fun w => RowsC w 3 PutR (.slice B nw d) css ws)⟩, ⟨none, none, fun e => persR (fun w' => PutR w' [.int .i64 r, .int .i64 i, .slice A0 n0 c0] ⟨r, i, data⟩)⟩, ⟨some 1, some 6, fun e => growR 69 3 PutR (.slice (some ⟨(e 1).n, 0, none⟩) 0 0) []⟩, ⟨some 6, some 11, fun e => growR 69 3 PutR (.slice (e 6).A nw (e 6).n) ws⟩, ⟨some 10, none, fun e => blkR (e 10).n 69 #[.int .i64 r, .int .i64 i, .slice A0 n0 c0]⟩, ⟨some 11, none, fun e => growR 69 3 PutR (.slice (e 11).A (nw + 1) (e 11).n) (ws ++ [⟨r, i, data⟩])⟩, ⟨some 14, none, fun e => blkR g 47 #[.slice A1 nb c1, .slice (e 11).A (nw + 1) (e 11).n]⟩] [[], [], [], [2], [2, 3], [2, 3, 4], [1, 2, 3, 4, 5], [], [], [7, 8], [7, 8, 9], [1, 2, 3, 4, 5, 6, 7, 8, 9, 10], [0, 1, 2, 3, 4, 5, 6, 7, 8, 9, 10, 11], [0, 1, 2, 3, 4, 5, 6, 7, 8, 9, 10, 11, 12], [0, 1, 2, 3, 4, 5, 6, 7, 8, 9, 10, 11, 12, 13]] [0, 1, 2, 3, 4, 5, 6, 7, 8, 9, 10, 11, 12, 13, 14] rfl (by kernel_rfl) (by kernel_rfl) (by kernel_rfl) (by rfl) (fun _ => rfl) (show St M0 _ (blkR y 53 #[.int .i64 r, .int .i64 i] :: blkR g 47 #[.slice A1 nb c1, .slice B nw d] :: persR (fun w => RowsC w 3 PutR (.slice B nw d) css ws) :: persR (fun w' => PutR w' [.int .i64 r, .int .i64 i, .slice A0 n0 c0] ⟨r, i, data⟩) :: rowsR 3 PutR (.slice A1 nb c1) b1 :: L) from h0) ?_
        refine flow_run _ rfl (fun _ => rfl) (fun e wx Lx h => by (go_simp; try rfl)) (by intro e; rfl) (by intro e; rfl) (by intro e x; rfl) ?_
        (simp only [Act.put, List.setIfInBounds_toArray, List.set_cons_succ, List.set_cons_zero])
        refine flow_do (fun e => .slice (some ⟨(e 1).n, 0, none⟩) 0 0) rfl (fun _ => rfl) (by intro e; rfl) (fun e wx Lx h => by (
          have h : St M0 wx (blkR y 53 #[.int .i64 r, .int .i64 i] :: blkR g 47 #[.slice A1 nb c1, .slice B nw d] :: persR (fun w => RowsC w 3 PutR (.slice B nw d) css ws) :: persR (fun w' => PutR w' [.int .i64 r, .int .i64 i, .slice A0 n0 c0] ⟨r, i, data⟩) :: Lx) := h
          have hk : St M0 _ (blkR y 53 #[.int .i64 r, .int .i64 i] :: blkR g 47 #[.slice A1 nb c1, .slice B nw d] :: persR (fun w => RowsC w 3 PutR (.slice B nw d) css ws) :: persR (fun w' => PutR w' [.int .i64 r, .int .i64 i, .slice A0 n0 c0] ⟨r, i, data⟩) :: growR 69 3 PutR (.slice (some ⟨wx.heap.size, 0, none⟩) 0 0) [] :: Lx) := (h.emptyGrow 69 3 PutR).sub (by (repeat (first | with_reducible exact Sub.refl _ | (with_reducible apply Sub.take; focus (repeat (first | with_reducible exact At.here | with_reducible apply At.there))) | with_reducible apply Sub.drop)))
          exact ⟨⟨none, wx.heap.size, default⟩, _, exec_buildSlice0 rfl (rput_empty _), hk⟩)) ?_
        (simp only [Act.put, List.setIfInBounds_toArray, List.set_cons_succ, List.set_cons_zero])
        refine flow_run _ rfl (fun _ => rfl) (fun e wx Lx h => by (go_simp; try rfl)) (by intro e; rfl) (by intro e; rfl) (by intro e x; rfl) ?_
        (simp only [Act.put, List.setIfInBounds_toArray, List.set_cons_succ, List.set_cons_zero])
        refine flow_run _ rfl (fun _ => rfl) (fun e wx Lx h => by (go_simp; try rfl)) (by intro e; rfl) (by intro e; rfl) (by intro e x; rfl) ?_
        (simp only [Act.put, List.setIfInBounds_toArray, List.set_cons_succ, List.set_cons_zero])
        refine flow_run _ rfl (fun _ => rfl) (fun e wx Lx h => by (go_simp; try rfl)) (by intro e; rfl) (by intro e; rfl) (by intro e x; rfl) ?_
        (simp only [Act.put, List.setIfInBounds_toArray, List.set_cons_succ, List.set_cons_zero])
        refine flow_run _ rfl (fun _ => rfl) (fun e wx Lx h => by (have h : St M0 wx (blkR y 53 #[.int .i64 r, .int .i64 i] :: blkR g 47 #[.slice A1 nb c1, .slice B nw d] :: persR (fun w => RowsC w 3 PutR (.slice B nw d) css ws) :: persR (fun w' => PutR w' [.int .i64 r, .int .i64 i, .slice A0 n0 c0] ⟨r, i, data⟩) :: Lx) := h; have y0 := (h.blkA (g := y) (t := 53) (cs := #[.int .i64 r, .int .i64 i]) (by (repeat (first | with_reducible exact At.here | with_reducible apply At.there)))).cell 0; have y1 := (h.blkA (g := y) (t := 53) (cs := #[.int .i64 r, .int .i64 i]) (by (repeat (first | with_reducible exact At.here | with_reducible apply At.there)))).cell 1; have x1 := (h.blkA (g := g) (t := 47) (cs := #[.slice A1 nb c1, .slice B nw d]) (by (repeat (first | with_reducible exact At.here | with_reducible apply At.there)))).cell 1; go_simp; try rfl)) (by intro e; rfl) (by intro e; rfl) (by intro e x; rfl) ?_
        (simp only [Act.put, List.setIfInBounds_toArray, List.set_cons_succ, List.set_cons_zero])
        refine flow_do (fun e => .slice (e 6).A nw (e 6).n) rfl (fun _ => rfl) (by intro e; rfl) (fun e wx Lx h => by (
          have h : St M0 wx (blkR y 53 #[.int .i64 r, .int .i64 i] :: blkR g 47 #[.slice A1 nb c1, .slice B nw d] :: persR (fun w => RowsC w 3 PutR (.slice B nw d) css ws) :: persR (fun w' => PutR w' [.int .i64 r, .int .i64 i, .slice A0 n0 c0] ⟨r, i, data⟩) :: growR 69 3 PutR (.slice (some ⟨(e 1).n, 0, none⟩) 0 0) [] :: Lx) := h
          obtain ⟨A', c', w', hr, h2⟩ := ((h.copyA (Q := fun w => RowsC w 3 PutR (.slice B nw d) css ws) (by (repeat (first | with_reducible exact At.here | with_reducible apply At.there)))).sub (L' := growR 69 3 PutR (.slice (some ⟨(e 1).n, 0, none⟩) 0 0) [] :: persR (fun w => RowsC w 3 PutR (.slice B nw d) css ws) :: blkR y 53 #[.int .i64 r, .int .i64 i] :: blkR g 47 #[.slice A1 nb c1, .slice B nw d] :: persR (fun w => RowsC w 3 PutR (.slice B nw d) css ws) :: persR (fun w' => PutR w' [.int .i64 r, .int .i64 i, .slice A0 n0 c0] ⟨r, i, data⟩) :: Lx) (by (repeat (first | with_reducible exact Sub.refl _ | (with_reducible apply Sub.take; focus (repeat (first | with_reducible exact At.here | with_reducible apply At.there))) | with_reducible apply Sub.drop)))).growAll rput_elem _ (one_cells css ws nw HONE.out HNW.out) (by omega) (by omega)
          rw [Nat.zero_add] at hr h2
          rw [List.nil_append] at h2
          have hk : St M0 _ (blkR y 53 #[.int .i64 r, .int .i64 i] :: blkR g 47 #[.slice A1 nb c1, .slice B nw d] :: persR (fun w => RowsC w 3 PutR (.slice B nw d) css ws) :: persR (fun w' => PutR w' [.int .i64 r, .int .i64 i, .slice A0 n0 c0] ⟨r, i, data⟩) :: growR 69 3 PutR (.slice A' nw c') ws :: Lx) := h2.sub (by (repeat (first | with_reducible exact Sub.refl _ | (with_reducible apply Sub.take; focus (repeat (first | with_reducible exact At.here | with_reducible apply At.there))) | with_reducible apply Sub.drop)))
          exact ⟨⟨A', c', default⟩, _, exec_append rfl rfl rfl hr, hk⟩)) ?_
        (simp only [Act.put, List.setIfInBounds_toArray, List.set_cons_succ, List.set_cons_zero])
        refine flow_run _ rfl (fun _ => rfl) (fun e wx Lx h => by (have h : St M0 wx (blkR y 53 #[.int .i64 r, .int .i64 i] :: blkR g 47 #[.slice A1 nb c1, .slice B nw d] :: persR (fun w => RowsC w 3 PutR (.slice B nw d) css ws) :: persR (fun w' => PutR w' [.int .i64 r, .int .i64 i, .slice A0 n0 c0] ⟨r, i, data⟩) :: Lx) := h; have y0 := (h.blkA (g := y) (t := 53) (cs := #[.int .i64 r, .int .i64 i]) (by (repeat (first | with_reducible exact At.here | with_reducible apply At.there)))).cell 0; have y1 := (h.blkA (g := y) (t := 53) (cs := #[.int .i64 r, .int .i64 i]) (by (repeat (first | with_reducible exact At.here | with_reducible apply At.there)))).cell 1; have x1 := (h.blkA (g := g) (t := 47) (cs := #[.slice A1 nb c1, .slice B nw d]) (by (repeat (first | with_reducible exact At.here | with_reducible apply At.there)))).cell 1; go_simp; try rfl)) (by intro e; rfl) (by intro e; rfl) (by intro e x; rfl) ?_
        (simp only [Act.put, List.setIfInBounds_toArray, List.set_cons_succ, List.set_cons_zero])
        refine flow_run _ rfl (fun _ => rfl) (fun e wx Lx h => by (go_simp; try rfl)) (by intro e; rfl) (by intro e; rfl) (by intro e x; rfl) ?_
        (simp only [Act.put, List.setIfInBounds_toArray, List.set_cons_succ, List.set_cons_zero])
        refine flow_run _ rfl (fun _ => rfl) (fun e wx Lx h => by (go_simp; try rfl)) (by intro e; rfl) (by intro e; rfl) (by intro e x; rfl) ?_
        (simp only [Act.put, List.setIfInBounds_toArray, List.set_cons_succ, List.set_cons_zero])
        refine flow_do (fun e => .slice (some ⟨(e 10).n, 0, none⟩) 1 1) rfl (fun _ => rfl) (by intro e; rfl) (fun e wx Lx h => by (
          have h : St M0 wx (blkR y 53 #[.int .i64 r, .int .i64 i] :: blkR g 47 #[.slice A1 nb c1, .slice B nw d] :: persR (fun w => RowsC w 3 PutR (.slice B nw d) css ws) :: persR (fun w' => PutR w' [.int .i64 r, .int .i64 i, .slice A0 n0 c0] ⟨r, i, data⟩) :: Lx) := h
          have hk : St M0 _ (blkR y 53 #[.int .i64 r, .int .i64 i] :: blkR g 47 #[.slice A1 nb c1, .slice B nw d] :: persR (fun w => RowsC w 3 PutR (.slice B nw d) css ws) :: persR (fun w' => PutR w' [.int .i64 r, .int .i64 i, .slice A0 n0 c0] ⟨r, i, data⟩) :: blkR wx.heap.size 69 #[.int .i64 r, .int .i64 i, .slice A0 n0 c0] :: Lx) := (h.alloc 69 #[.int .i64 r, .int .i64 i, .slice A0 n0 c0]).sub (by (repeat (first | with_reducible exact Sub.refl _ | (with_reducible apply Sub.take; focus (repeat (first | with_reducible exact At.here | with_reducible apply At.there))) | with_reducible apply Sub.drop)))
          exact ⟨⟨none, wx.heap.size, default⟩, _, exec_buildSlice1 rfl rfl (rput_build _ _ _ _ _ _), hk⟩)) ?_
        (simp only [Act.put, List.setIfInBounds_toArray, List.set_cons_succ, List.set_cons_zero])
        refine flow_do (fun e => .slice (e 11).A (nw + 1) (e 11).n) rfl (fun _ => rfl) (by intro e; rfl) (fun e wx Lx h => by (
          have h : St M0 wx (blkR y 53 #[.int .i64 r, .int .i64 i] :: blkR g 47 #[.slice A1 nb c1, .slice B nw d] :: persR (fun w => RowsC w 3 PutR (.slice B nw d) css ws) :: persR (fun w' => PutR w' [.int .i64 r, .int .i64 i, .slice A0 n0 c0] ⟨r, i, data⟩) :: growR 69 3 PutR (.slice (e 6).A nw (e 6).n) ws :: blkR (e 10).n 69 #[.int .i64 r, .int .i64 i, .slice A0 n0 c0] :: Lx) := h
          have hz := sl_blkN (cs := [.int .i64 r, .int .i64 i, .slice A0 n0 c0]) (h.blkA (g := (e 10).n) (t := 69) (cs := #[.int .i64 r, .int .i64 i, .slice A0 n0 c0]) (by (repeat (first | with_reducible exact At.here | with_reducible apply At.there))))
          obtain ⟨A', c', w', hr, h2⟩ := ((h.copyA (Q := fun w' => PutR w' [.int .i64 r, .int .i64 i, .slice A0 n0 c0] ⟨r, i, data⟩) (by (repeat (first | with_reducible exact At.here | with_reducible apply At.there)))).sub (L' := growR 69 3 PutR (.slice (e 6).A nw (e 6).n) ws :: persR (fun w' => PutR w' [.int .i64 r, .int .i64 i, .slice A0 n0 c0] ⟨r, i, data⟩) :: blkR y 53 #[.int .i64 r, .int .i64 i] :: blkR g 47 #[.slice A1 nb c1, .slice B nw d] :: persR (fun w => RowsC w 3 PutR (.slice B nw d) css ws) :: persR (fun w' => PutR w' [.int .i64 r, .int .i64 i, .slice A0 n0 c0] ⟨r, i, data⟩) :: blkR (e 10).n 69 #[.int .i64 r, .int .i64 i, .slice A0 n0 c0] :: Lx) (by (repeat (first | with_reducible exact Sub.refl _ | (with_reducible apply Sub.take; focus (repeat (first | with_reducible exact At.here | with_reducible apply At.there))) | with_reducible apply Sub.drop)))).grow1 rput_elem _ ⟨(e 10).n, 0, none⟩ 1 hz (put_one _ _ _ _ _) rfl (by omega) (by omega)
          have hk : St M0 _ (blkR y 53 #[.int .i64 r, .int .i64 i] :: blkR g 47 #[.slice A1 nb c1, .slice B nw d] :: persR (fun w => RowsC w 3 PutR (.slice B nw d) css ws) :: persR (fun w' => PutR w' [.int .i64 r, .int .i64 i, .slice A0 n0 c0] ⟨r, i, data⟩) :: blkR (e 10).n 69 #[.int .i64 r, .int .i64 i, .slice A0 n0 c0] :: growR 69 3 PutR (.slice A' (nw + 1) c') (ws ++ [⟨r, i, data⟩]) :: Lx) := h2.sub (by (repeat (first | with_reducible exact Sub.refl _ | (with_reducible apply Sub.take; focus (repeat (first | with_reducible exact At.here | with_reducible apply At.there))) | with_reducible apply Sub.drop)))
          exact ⟨⟨A', c', default⟩, _, exec_append rfl rfl rfl hr, hk⟩)) ?_
        (simp only [Act.put, List.setIfInBounds_toArray, List.set_cons_succ, List.set_cons_zero])
        refine flow_run _ rfl (fun _ => rfl) (fun e wx Lx h => by (go_simp; try rfl)) (by intro e; rfl) (by intro e; rfl) (by intro e x; rfl) ?_
        (simp only [Act.put, List.setIfInBounds_toArray, List.set_cons_succ, List.set_cons_zero])
        refine flow_run _ rfl (fun _ => rfl) (fun e wx Lx h => by (go_simp; try rfl)) (by intro e; rfl) (by intro e; rfl) (by intro e x; rfl) ?_
        (simp only [Act.put, List.setIfInBounds_toArray, List.set_cons_succ, List.set_cons_zero])
        refine flow_store _ _ _ (fun e => .pointer (some ⟨g, 1, none⟩)) (fun e => .slice (e 11).A (nw + 1) (e 11).n) rfl (fun _ => rfl) rfl (fun _ => rfl) (fun _ => rfl) (fun e wx Lx h => by (
          have h : St M0 wx (blkR y 53 #[.int .i64 r, .int .i64 i] :: blkR g 47 #[.slice A1 nb c1, .slice B nw d] :: persR (fun w => RowsC w 3 PutR (.slice B nw d) css ws) :: persR (fun w' => PutR w' [.int .i64 r, .int .i64 i, .slice A0 n0 c0] ⟨r, i, data⟩) :: blkR (e 10).n 69 #[.int .i64 r, .int .i64 i, .slice A0 n0 c0] :: growR 69 3 PutR (.slice (e 11).A (nw + 1) (e 11).n) (ws ++ [⟨r, i, data⟩]) :: Lx) := h
          have x1 := (h.blkA (g := g) (t := 47) (cs := #[.slice A1 nb c1, .slice B nw d]) (by (repeat (first | with_reducible exact At.here | with_reducible apply At.there)))).cell 1
          have f := (h.blkA (g := g) (t := 47) (cs := #[.slice A1 nb c1, .slice B nw d]) (by (repeat (first | with_reducible exact At.here | with_reducible apply At.there)))).frozen
          have h1 := (h.front (X := blkR g 47 #[.slice A1 nb c1, .slice B nw d]) (by (repeat (first | with_reducible exact At.here | with_reducible apply At.there)))).put_ 1 (.slice (e 11).A (nw + 1) (e 11).n) #[.slice A1 nb c1, .slice (e 11).A (nw + 1) (e 11).n]
          have hk : St M0 _ (blkR y 53 #[.int .i64 r, .int .i64 i] :: persR (fun w => RowsC w 3 PutR (.slice B nw d) css ws) :: persR (fun w' => PutR w' [.int .i64 r, .int .i64 i, .slice A0 n0 c0] ⟨r, i, data⟩) :: blkR (e 10).n 69 #[.int .i64 r, .int .i64 i, .slice A0 n0 c0] :: growR 69 3 PutR (.slice (e 11).A (nw + 1) (e 11).n) (ws ++ [⟨r, i, data⟩]) :: blkR g 47 #[.slice A1 nb c1, .slice (e 11).A (nw + 1) (e 11).n] :: Lx) := h1.sub (by (repeat (first | with_reducible exact Sub.refl _ | (with_reducible apply Sub.take; focus (repeat (first | with_reducible exact At.here | with_reducible apply At.there))) | with_reducible apply Sub.drop)))
          exact ⟨_, (by (go_simp; try rfl)), hk⟩)) ?_
        simp only [Act.put]
        refine flow_nil ?_
        intro e w1 h
        have h : St M0 w1 (blkR y 53 #[.int .i64 r, .int .i64 i] :: persR (fun w => RowsC w 3 PutR (.slice B nw d) css ws) :: persR (fun w' => PutR w' [.int .i64 r, .int .i64 i, .slice A0 n0 c0] ⟨r, i, data⟩) :: blkR (e 10).n 69 #[.int .i64 r, .int .i64 i, .slice A0 n0 c0] :: growR 69 3 PutR (.slice (e 11).A (nw + 1) (e 11).n) (ws ++ [⟨r, i, data⟩]) :: blkR g 47 #[.slice A1 nb c1, .slice (e 11).A (nw + 1) (e 11).n] :: rowsR 3 PutR (.slice A1 nb c1) b1 :: L) := h
        have h1 := (h.sub (L' := growR 69 3 PutR (.slice (e 11).A (nw + 1) (e 11).n) (ws ++ [⟨r, i, data⟩]) :: blkR g 47 #[.slice A1 nb c1, .slice (e 11).A (nw + 1) (e 11).n] :: rowsR 3 PutR (.slice A1 nb c1) b1 :: L) (by (repeat (first | with_reducible exact Sub.refl _ | (with_reducible apply Sub.take; focus (repeat (first | with_reducible exact At.here | with_reducible apply At.there))) | with_reducible apply Sub.drop)))).rowsGrow
        generalize (e 11).A = A11 at h1 ⊢
        generalize (e 11).n = c11 at h1 ⊢
        have H1 := hide (h1.sub (L' := blkR g 47 #[.slice A1 nb c1, .slice A11 (nw + 1) c11] :: rowsR 3 PutR (.slice A1 nb c1) b1 :: rowsR 3 PutR (.slice A11 (nw + 1) c11) (ws ++ [⟨r, i, data⟩]) :: L) (by (repeat (first | with_reducible exact Sub.refl _ | (with_reducible apply Sub.take; focus (repeat (first | with_reducible exact At.here | with_reducible apply At.there))) | with_reducible apply Sub.drop))))
        clear h h1
        go_wp2_with fail
        go_ret
        exact ⟨by rw [E0.out]; try rfl, by rw [EB.out, EW.out]; exact H1.out.docC⟩
      · have EW := hide (show wrW bl ws ⟨r, i, data⟩ = ws by unfold wrW; rw [EE.out, he]; rfl)
        rw [he] at EE
        rw [he]
        clear he
        go_wp2_with fail
        go_ret
        exact ⟨by rw [EE.out]; try rfl, by rw [EB.out, EW.out]; exact H4.out.sub (by (repeat (first | with_reducible exact Sub.refl _ | (with_reducible apply Sub.take; focus (repeat (first | with_reducible exact At.here | with_reducible apply At.there))) | with_reducible apply Sub.drop)))⟩
end Go.Proofs.Ytbgknfdaaffeaaa
