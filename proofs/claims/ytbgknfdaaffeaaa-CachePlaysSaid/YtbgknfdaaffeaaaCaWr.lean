/- Cache: Write. -/
import Derived.Test.YtbgknfdaaffeaaaCaFl
namespace Go.Proofs.Ytbgknfdaaffeaaa
open Go.RowKit Go.Shelf

def wrX (ws : List PU) (r : Int) (data : List Int) : Int := if 23 < data.length then 2 else if 12 ≤ (ws.filter (inReg r)).length then 42 else 0
def wrE (bl ws : List PU) (p : PU) : Int := if wrX ws p.region p.data = 0 then layE bl ws p.region p.index else wrX ws p.region p.data
def wrB (bl ws : List PU) (p : PU) : List PU := if wrX ws p.region p.data = 0 then layB bl ws p else bl
def wrW (bl ws : List PU) (p : PU) : List PU := if wrE bl ws p = 0 then ws ++ [p] else ws
def wrS (y g : Nat) (r i : Int) (v : Value) (W : World) : Prop := W.cell? ⟨y, 0, none⟩ = some (.int .i64 r) ∧ W.cell? ⟨y, 1, none⟩ = some (.int .i64 i) ∧ W.cell? ⟨g, 1, none⟩ = some v
theorem wrS_of {M0 : Imm} {W : World} {Ls : List Res} {y g : Nat} {r i : Int} {u v : Value} (h : St M0 W Ls) (j k : Nat) (hj : Ls[j]? = some (blkR y 52 #[.int .i64 r, .int .i64 i])) (hk : Ls[k]? = some (blkR g 43 #[u, v])) : wrS y g r i v W :=
  ⟨(h.blk j hj).cell 0, (h.blk j hj).cell 1, (h.blk k hk).cell 1⟩
theorem layE_le (bl ws : List PU) (r i : Int) : layE bl ws r i = 0 ∨ layE bl ws r i = 42 := by
  unfold layE
  split
  · exact .inl rfl
  · split
    · split
      · exact .inr rfl
      · exact .inl rfl
    · exact .inl rfl
set_option maxHeartbeats 2000000 in
set_option maxRecDepth 100000 in
theorem write_st {M0 : Imm} {L : List Res} (g : Nat) (bl ws : List PU) (r i : Int) (A0 : Option Addr) (n0 c0 : Nat) (data : List Int) (w : World) (hbl : bl.length ≤ 1000000) (hl : ws.length ≤ 1000000) (hd : ∀ x ∈ ws, x.data.length ≤ 1000000) (h : St M0 w (intsR .u8 (.slice A0 n0 c0) data :: cacheR g bl ws :: L)) :
    Calls Try.prog 28 #[.pointer (some ⟨g, 0, none⟩), .agg #[.int .i64 r, .int .i64 i], .slice A0 n0 c0] w fun e w' => e = .returned (.int .i64 (wrE bl ws ⟨r, i, data⟩)) ∧ St M0 w' (cacheR g (wrB bl ws ⟨r, i, data⟩) (wrW bl ws ⟨r, i, data⟩) :: L) := by
  have hn0 : n0 = data.length := (h.get 0 rfl).sl.1
  have h1 := h.alloc 52 #[.int .i64 r, .int .i64 i]
  generalize hy : w.heap.size = y at h1
  have y0 := (h1.blk 0 rfl).cell 0
  have y1 := (h1.blk 0 rfl).cell 1
  have H := hide (h1.pick (L' := cacheR g bl ws :: blkR y 52 #[.int .i64 r, .int .i64 i] :: intsR .u8 (.slice A0 n0 c0) data :: L) 3 [2, 0, 1])
  have HL := hide hl
  have HD := hide hd
  have HB := hide hbl
  have HN0 := hide hn0
  clear h h1 hl hd hbl
  by_cases hlong : 23 < n0
  · have EX : wrX ws r data = 2 := if_pos (by omega)
    have EE := hide (show wrE bl ws ⟨r, i, data⟩ = 2 by unfold wrE; simp only [EX]; rfl)
    have EB := hide (show wrB bl ws ⟨r, i, data⟩ = bl by unfold wrB; simp only [EX]; rfl)
    have EW := hide (show wrW bl ws ⟨r, i, data⟩ = ws by unfold wrW; rw [EE.out]; rfl)
    have c1 : decide ((n0 : Int) > 23) = true := decide_eq_true (by omega)
    have c2 : decide ((23 : Int) < (n0 : Int)) = true := c1
    clear EX hn0 hy
    go_enter Try.func28, Try.ntmps28
    go_wp2_with fail
    go_ret
    exact ⟨by rw [EE.out]; try rfl, by rw [EB.out, EW.out]; exact H.out.pick 3 [0]⟩
  · have c1 : decide ((n0 : Int) > 23) = false := decide_eq_false (by omega)
    have c2 : decide ((23 : Int) < (n0 : Int)) = false := c1
    have hn1 : n0 ≤ 1000000 := by omega
    have hX : wrX ws r data = if 12 ≤ (ws.filter (inReg r)).length then 42 else 0 := if_neg (by omega)
    have HX := hide hX
    clear hX hn0
    go_enter Try.func28, Try.ntmps28
    go_wp2_with fail
    refine (dirtyL_st g bl ws r _ HL.out HD.out H.out).mono ?_
    rintro e w2 ⟨v, rfl, h2⟩
    obtain ⟨A2, c2', rfl, hc2, hm2⟩ := h2.growLen
    obtain ⟨q2, hq2⟩ : ∃ q2, q2 = (ws.filter (inReg r)).length := ⟨_, rfl⟩
    rw [← hq2] at hc2 h2 HX
    rw [← hq2]
    have y0 := (h2.blk 2 rfl).cell 0
    have y1 := (h2.blk 2 rfl).cell 1
    have H2 := hide (h2.pick (L' := intsR .u8 (.slice A0 n0 c0) data :: cacheR g bl ws :: blkR y 52 #[.int .i64 r, .int .i64 i] :: L) 4 [3, 1, 2])
    have HQ := hide hq2
    clear h2 H hq2
    by_cases hfull : 12 ≤ q2
    · have c3 : decide ((q2 : Int) ≥ 12) = true := decide_eq_true (by omega)
      have c4 : decide ((12 : Int) ≤ (q2 : Int)) = true := c3
      have EX : wrX ws r data = 42 := by rw [HX.out, if_pos hfull]
      have EE := hide (show wrE bl ws ⟨r, i, data⟩ = 42 by unfold wrE; simp only [EX]; rfl)
      have EB := hide (show wrB bl ws ⟨r, i, data⟩ = bl by unfold wrB; simp only [EX]; rfl)
      have EW := hide (show wrW bl ws ⟨r, i, data⟩ = ws by unfold wrW; rw [EE.out]; rfl)
      clear EX
      go_wp2_with fail
      go_ret
      exact ⟨by rw [EE.out]; try rfl, by rw [EB.out, EW.out]; exact H2.out.pick 3 [1]⟩
    · have c3 : decide ((q2 : Int) ≥ 12) = false := decide_eq_false (by omega)
      have c4 : decide ((12 : Int) ≤ (q2 : Int)) = false := c3
      have EX : wrX ws r data = 0 := by rw [HX.out, if_neg hfull]
      have EB := hide (show wrB bl ws ⟨r, i, data⟩ = layB bl ws ⟨r, i, data⟩ by unfold wrB; simp only [EX]; rfl)
      have EE := hide (show wrE bl ws ⟨r, i, data⟩ = layE bl ws r i by unfold wrE; simp only [EX]; rfl)
      have HI := hide (H2.out.copy 0 rfl)
      clear EX H2
      go_wp2_with fail
      have h3 := (HI.out.pick (L' := intsR .u8 (.slice A0 n0 c0) data :: cacheR g bl ws :: intsR .u8 (.slice A0 n0 c0) data :: blkR y 52 #[.int .i64 r, .int .i64 i] :: L) 4 [0, 2, 1, 3])
      refine (lay_st g bl ws r i A0 n0 c0 data _ HB.out (by have := HN0.out; omega) h3).mono ?_
      rintro e w3 ⟨rfl, h4⟩
      clear h3 HI y0 y1
      have y0 := (h4.blk 2 rfl).cell 0
      have y1 := (h4.blk 2 rfl).cell 1
      have H4 := hide h4
      clear h4
      rcases layE_le bl ws r i with he | he
      · have EW := hide (show wrW bl ws ⟨r, i, data⟩ = ws ++ [⟨r, i, data⟩] by unfold wrW; rw [EE.out, he]; rfl)
        rw [he] at EE
        rw [he]
        clear he
        go_wp2_with fail
        obtain ⟨A, c, B, d, _, _, _, _, h5⟩ := H4.out.cacheO
        obtain ⟨n, hn⟩ : ∃ n, n = ws.length := ⟨_, rfl⟩
        rw [← hn] at h5
        have hnl : n ≤ 1000000 := by have := HL.out; omega
        have H5 := hide h5
        clear h5 H4 y0 y1 hn
        refine region_mix (wrS y g r i (.slice B n d)) 11 [0, 1, 2, 3, 4, 5, 6] [7, 8, 9, 10, 11, 12, 13] (by kernel_rfl) (by kernel_rfl) (fun d => by cases d <;> exact fun _ _ _ _ h => h) (fun W hW => ?_)
        have HW := hide (H5.out.drew)
        rw [← hW] at HW
        clear hW H5
        refine ⟨wrS_of HW.out 4 0 rfl rfl, ?_⟩
        iterate 7 (refine take_run rfl rfl (fun W hW => by (obtain ⟨y0, y1, x0⟩ := hW; go_simp; try rfl)) ?_; (simp only [Act.put, List.setIfInBounds_toArray, List.set_cons_succ, List.set_cons_zero]))
        refine take_nil ?_
        refine seq_call (f := 76) (args := #[.slice A0 n0 c0]) rfl rfl (by go_simp; try rfl) ?_
        refine (clone_st A0 n0 c0 data W (HW.out.get 3 rfl).sl.2.2.2 (by omega) HW.out).mono ?_
        rintro e w4 ⟨v4, rfl, h4⟩
        obtain ⟨A4, c4, rfl⟩ := h4.slice
        refine ⟨_, rfl, fun _ => wrS_of h4 5 1 rfl rfl, ?_⟩
        (simp only [Act.put, List.setIfInBounds_toArray, List.set_cons_succ, List.set_cons_zero])
        refine seq_read rfl rfl (by (go_simp; try rfl)) (fun _ => wrS_of h4 5 1 rfl rfl) ?_
        (simp only [Act.put, List.setIfInBounds_toArray, List.set_cons_succ, List.set_cons_zero])
        have h5 := h4.ints.alloc 153 #[.int .i64 r, .int .i64 i, .slice A4 n0 c4]
        refine seq_buildSlice1 rfl rfl 41 1 0 _ (.agg #[.int .i64 r, .int .i64 i, .slice A4 n0 c4]) rfl rfl (put_build _ _ _ _ _ _) (fun _ => wrS_of h5 6 2 rfl rfl) ?_
        (simp only [Act.put, List.setIfInBounds_toArray, List.set_cons_succ, List.set_cons_zero])
        generalize w4.heap.size = z at h5 ⊢
        generalize w4.alloc _ = w5 at h5 ⊢
        have h6 := (h5.swap.pers1 (R' := fun w' => PutR w' [.int .i64 r, .int .i64 i, .slice A4 n0 c4] ⟨r, i, data⟩) (fun w' hi => ⟨_, rfl, hi⟩)).pick (L' := growR 153 3 PutR (.slice B n d) ws :: blkR z 153 #[.int .i64 r, .int .i64 i, .slice A4 n0 c4] :: persR (fun w' => PutR w' [.int .i64 r, .int .i64 i, .slice A4 n0 c4] ⟨r, i, data⟩) :: blkR g 43 #[.slice A (layB bl ws ⟨r, i, data⟩).length c, .slice B n d] :: growR 153 3 PutR (.slice A (layB bl ws ⟨r, i, data⟩).length c) (layB bl ws ⟨r, i, data⟩) :: blkR y 52 #[.int .i64 r, .int .i64 i] :: L) 7 [4, 1, 0, 2, 3, 6]
        clear h4 h5 HW
        obtain ⟨vs, hq2, hxl, h7⟩ := h6.openGrowS
        refine seq_app put_elem h7 rfl rfl _ _ rfl rfl (some ⟨z, 0, none⟩) 1 1 rfl [.int .i64 r, .int .i64 i, .slice A4 n0 c4] (sl_blkN (cs := [.int .i64 r, .int .i64 i, .slice A4 n0 c4]) (h7.blk 2 rfl)) (put_one _ _ _ _ _) (by omega) (by omega) (fun A6 c6 w7 h9 => ⟨fun _ => wrS_of h9 6 4 rfl rfl, ?_⟩)
        (simp only [Act.put, List.setIfInBounds_toArray, List.set_cons_succ, List.set_cons_zero])
        have h10 := (h9.pick (L' := rowR 153 3 (.slice A6 (n + 1) c6) (n + 1) (vs ++ [.int .i64 r, .int .i64 i, .slice A4 n0 c4]) :: persR (fun w => ∀ (j : Nat) p, ws[j]? = some p → PutR w ((vs.drop (j * 3)).take 3) p) :: persR (fun w' => PutR w' [.int .i64 r, .int .i64 i, .slice A4 n0 c4] ⟨r, i, data⟩) :: blkR g 43 #[.slice A (layB bl ws ⟨r, i, data⟩).length c, .slice B n d] :: growR 153 3 PutR (.slice A (layB bl ws ⟨r, i, data⟩).length c) (layB bl ws ⟨r, i, data⟩) :: L) 7 [0, 1, 3, 4, 5]).snocGrow hq2 rfl hxl
        have x0 := (h10.blk 1 rfl).cell 1
        have f := (h10.blk 1 rfl).frozen
        have H11 := hide ((h10.swap.set_ 1 (.slice A6 (n + 1) c6)).pick (L' := blkR g 43 #[.slice A (layB bl ws ⟨r, i, data⟩).length c, .slice A6 (n + 1) c6] :: growR 153 3 PutR (.slice A (layB bl ws ⟨r, i, data⟩).length c) (layB bl ws ⟨r, i, data⟩) :: growR 153 3 PutR (.slice A6 (n + 1) c6) (ws ++ [⟨r, i, data⟩]) :: L) 3 [0, 2, 1])
        clear h6 h7 h9 h10 hq2 hxl
        refine seq_read rfl rfl (by (go_simp; try rfl)) (fun h => absurd h (by decide)) ?_
        (simp only [Act.put, List.setIfInBounds_toArray, List.set_cons_succ, List.set_cons_zero])
        refine seq_read rfl rfl (by (go_simp; try rfl)) (fun h => absurd h (by decide)) ?_
        (simp only [Act.put, List.setIfInBounds_toArray, List.set_cons_succ, List.set_cons_zero])
        refine seq_store rfl rfl 41 _ _ (.pointer (some ⟨g, 1, none⟩)) (.slice A6 (n + 1) c6) rfl rfl rfl (by go_simp; try rfl) (fun h => absurd h (by decide)) ?_
        simp only [Act.put]
        refine seq_nil ?_
        clear x0 f
        go_wp2_with fail
        go_ret
        exact ⟨by rw [EE.out]; try rfl, by rw [EB.out, EW.out]; exact H11.out.cacheC⟩
      · have EW := hide (show wrW bl ws ⟨r, i, data⟩ = ws by unfold wrW; rw [EE.out, he]; rfl)
        rw [he] at EE
        rw [he]
        clear he
        go_wp2_with fail
        go_ret
        exact ⟨by rw [EE.out]; try rfl, by rw [EB.out, EW.out]; exact H4.out.pick 3 [0]⟩
end Go.Proofs.Ytbgknfdaaffeaaa
