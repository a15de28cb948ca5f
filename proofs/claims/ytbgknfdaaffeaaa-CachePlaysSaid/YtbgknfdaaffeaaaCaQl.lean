/- Cache: the document's lay. Printed by gen_cala.py. -/
import Derived.Test.YtbgknfdaaffeaaaCaQ
import Derived.Test.YtbgknfdaaffeaaaCaW
namespace Go.Proofs.Ytbgknfdaaffeaaa
open Go.RowKit Go.Shelf

def layDS (g y : Nat) (v : Value) (r i : Int) (W : World) : Prop := W.cell? ⟨g, 0, none⟩ = some v ∧ W.cell? ⟨y, 0, none⟩ = some (.int .i64 r) ∧ W.cell? ⟨y, 1, none⟩ = some (.int .i64 i)
theorem layDS_of {M0 : Imm} {W : World} {Ls R1 R2 : List Res} {g y : Nat} {v u : Value} {r i : Int} (h : St M0 W Ls) (hj : At (blkR g 47 #[v, u]) Ls R1) (hk : At (blkR y 53 #[.int .i64 r, .int .i64 i]) Ls R2) : layDS g y v r i W :=
  ⟨(h.blkA hj).cell 0, (h.blkA hk).cell 0, (h.blkA hk).cell 1⟩
/-- the first that may go, of so many -/
def goneL (ws b : List PU) (k : Nat) : Prop := (b.take k).any (cleanP ws) = false
theorem goneL_snoc {ws b : List PU} {k : Nat} {x : PU} (h : goneL ws b k) (hx : b[k]? = some x) (hc : ws.any (keyIs x.region x.index) = true) : goneL ws b (k + 1) := by
  unfold goneL at *
  rw [any_snoc _ hx, h]
  unfold cleanP
  rw [hc]
  rfl
def layRel (bl ws : List PU) (k : Nat) (b1 : List PU) : Bool → Prop
  | false => b1 = bl ∧ k ≤ bl.length ∧ goneL ws bl k
  | true => ∃ (j : Nat) (x : PU), k = j + 1 ∧ bl[j]? = some x ∧ goneL ws bl j ∧ ws.any (keyIs x.region x.index) = false ∧ b1 = bl.filter (fun y => !keyIs x.region x.index y)
def keyS (p : Addr) (r i : Int) (W : World) : Prop := W.cell? p = some (.int .i64 r) ∧ W.cell? ⟨p.block, p.off + 1, none⟩ = some (.int .i64 i)
theorem keyS_of {p : Addr} {r i : Int} {v : Value} {W : World} (h : ∀ (j : Nat) u, [Value.int .i64 r, .int .i64 i, v][j]? = some u → W.cell? (p.add j) = some u) : keyS p r i W :=
  ⟨(cells3 h).1, (cells3 h).2.1⟩
def layES (g : Nat) (p : Addr) (v u : Value) (r i : Int) (W : World) : Prop := W.cell? ⟨g, 0, none⟩ = some v ∧ W.cell? ⟨g, 1, none⟩ = some u ∧ keyS p r i W
theorem layES_of {M0 : Imm} {W : World} {Ls R1 R2 : List Res} {g : Nat} {p : Addr} {v u : Value} {r i : Int} (h : St M0 W Ls) (hj : At (blkR g 47 #[v, u]) Ls R1) (hk : At (persR (keyS p r i)) Ls R2) : layES g p v u r i W :=
  ⟨(h.blkA hj).cell 0, (h.blkA hj).cell 1, h.getA hk⟩
/-- what lay comes to, in three cases -/
theorem layD_there {bl ws : List PU} {r i : Int} {data : List Int} (hn : (bl.map keyOf).Nodup) (h : bl.any (keyIs r i) = true) : decide (layE bl ws r i = 0) = true ∧ layB bl ws ⟨r, i, data⟩ = bl.filter (fun y => !keyIs r i y) ++ [⟨r, i, data⟩] := by
  rcases idxP_spec (keyIs r i) bl 0 with ⟨_, h2⟩ | ⟨k, x, h1, h2, h3⟩
  · rw [h] at h2; cases h2
  · rw [Nat.zero_add] at h1
    unfold layE layB
    simp only [h1, if_pos (show (0 : Int) ≤ (k : Int) by omega), Int.toNat_natCast]
    exact ⟨by first | trivial | rfl, by rw [erase_filter hn h2 ((keyIs_iff r i x).1 h3)]⟩
theorem layD_room {bl ws : List PU} {r i : Int} {data : List Int} (h : bl.any (keyIs r i) = false) (hr : bl.length < 6) : decide (layE bl ws r i = 0) = true ∧ layB bl ws ⟨r, i, data⟩ = bl.filter (fun y => !keyIs r i y) ++ [⟨r, i, data⟩] := by
  have h1 := idxP_no _ _ h
  unfold layE layB
  simp only [h1, if_neg (show ¬ (0 : Int) ≤ -1 by omega), if_neg (show ¬ 6 ≤ bl.length by omega), filter_none h]
  exact ⟨by first | trivial | rfl, by first | trivial | rfl⟩
theorem layD_full {bl ws : List PU} {r i : Int} {data : List Int} (h : bl.any (keyIs r i) = false) (hr : 6 ≤ bl.length) (hg : goneL ws bl bl.length) : decide (layE bl ws r i = 0) = false ∧ layB bl ws ⟨r, i, data⟩ = bl := by
  have h1 := idxP_no _ _ h
  unfold goneL at hg
  rw [List.take_length] at hg
  have h2 := idxP_no _ _ hg
  unfold layE layB
  simp only [h1, h2, if_neg (show ¬ (0 : Int) ≤ -1 by omega), if_pos hr, if_pos (show (-1 : Int) < 0 by omega)]
  exact ⟨by first | trivial | rfl, by first | trivial | rfl⟩
theorem layD_evict {bl ws : List PU} {r i : Int} {data : List Int} {k : Nat} {x : PU} (hn : (bl.map keyOf).Nodup) (h : bl.any (keyIs r i) = false) (hr : 6 ≤ bl.length) (hg : goneL ws bl k) (hx : bl[k]? = some x) (hc : ws.any (keyIs x.region x.index) = false) :
    decide (layE bl ws r i = 0) = true ∧ layB bl ws ⟨r, i, data⟩ = (bl.filter (fun y => !keyIs x.region x.index y)).filter (fun y => !keyIs r i y) ++ [⟨r, i, data⟩] := by
  have h1 := idxP_no _ _ h
  have h2 := idxP_at (cleanP ws) bl k 0 x hx (by unfold cleanP; rw [hc]; rfl) hg
  rw [Nat.zero_add] at h2
  have h3 : (bl.filter (fun y => !keyIs x.region x.index y)).any (keyIs r i) = false := by
    rw [List.any_eq_false] at h ⊢
    exact fun y hy => h y (List.mem_filter.1 hy).1
  unfold layE layB
  simp only [h1, h2, if_neg (show ¬ (0 : Int) ≤ -1 by omega), if_pos hr, if_neg (show ¬ (k : Int) < 0 by omega), Int.toNat_natCast]
  exact ⟨by first | trivial | rfl, by rw [erase_filter (r := x.region) (i := x.index) hn hx rfl, filter_none h3]⟩
theorem has_q {M0 : Imm} {L R : List Res} (l : List PU) (r i : Int) (A : Option Addr) (n c : Nat) (w : World) (hm : At (rowsR 3 PutR (.slice A n c) l) L R) (h : St M0 w L) :
    Calls Try.prog 80 #[.slice A n c, .agg #[.int .i64 r, .int .i64 i]] w fun e w' => e = .returned (.bool (l.any (keyIs r i))) ∧ St M0 w' L := by
  obtain ⟨m, hm⟩ := hm.idx
  exact has_st l r i A n c w m hm h
set_option maxHeartbeats 8000000 in
set_option maxRecDepth 100000 in
theorem layD_st {M0 : Imm} {L : List Res} (g : Nat) (bl ws : List PU) (r i : Int) (A0 : Option Addr) (n0 c0 : Nat) (data : List Int) (w : World) (hl : bl.length ≤ 1000000) (hn : (bl.map keyOf).Nodup) (h : St M0 w (intsR .u8 (.slice A0 n0 c0) data :: docR g bl ws :: L)) :
    Calls Try.prog 81 #[.pointer (some ⟨g, 0, none⟩), .agg #[.int .i64 r, .int .i64 i], .slice A0 n0 c0] w fun e w' => e = .returned (.bool (decide (layE bl ws r i = 0))) ∧ St M0 w' (docR g (layB bl ws ⟨r, i, data⟩) ws :: L) := by
  obtain ⟨A1, c1, B, d, hc, _, hcm, _, h0⟩ := h.swap.docO
  have HD := hide hn
  have HL := hide hl
  have h1 := h0.alloc 53 #[.int .i64 r, .int .i64 i]
  generalize hy : w.heap.size = y at h1
  have k0 := (h0.blk 0 rfl).cell 0
  have y0 := (h1.blk 0 rfl).cell 0
  have y1 := (h1.blk 0 rfl).cell 1
  have H := hide h1
  clear h h0 h1 hn
  go_enter Try.func81, Try.ntmps81
  go_wp2_with fail
  clear hy k0 y0 y1
  generalize w.alloc _ = w0 at H ⊢
  refine region_mix (layDS g y (.slice A1 bl.length c1) r i) 6 [0, 1, 2, 3, 4] [5, 6] (by kernel_rfl) (by kernel_rfl) (fun d => by cases d <;> exact fun _ _ _ _ h => h) (fun W hW => ?_)
  have HW := hide H.out.drew
  rw [← hW] at HW
  clear hW H
  refine ⟨layDS_of HW.out (by (repeat (first | with_reducible exact At.here | with_reducible apply At.there))) (by (repeat (first | with_reducible exact At.here | with_reducible apply At.there))), ?_⟩
  iterate 5 (refine take_run rfl rfl (fun W hW => by (obtain ⟨x0, y0, y1⟩ := hW; go_simp; try rfl)) ?_; (simp only [Act.put, List.setIfInBounds_toArray, List.set_cons_succ, List.set_cons_zero]))
  refine take_nil ?_
  refine seq_call (f := 80) (args := #[.slice A1 bl.length c1, .agg #[.int .i64 r, .int .i64 i]]) rfl rfl (by go_simp; try rfl) ?_
  refine (has_q bl r i A1 bl.length c1 W (by (repeat (first | with_reducible exact At.here | with_reducible apply At.there))) HW.out).mono ?_
  rintro e w2 ⟨rfl, h2⟩
  refine ⟨_, rfl, fun _ => layDS_of h2 (by (repeat (first | with_reducible exact At.here | with_reducible apply At.there))) (by (repeat (first | with_reducible exact At.here | with_reducible apply At.there))), ?_⟩
  (simp only [Act.put, List.setIfInBounds_toArray, List.set_cons_succ, List.set_cons_zero])
  refine seq_read rfl rfl (by (go_simp; try rfl)) (fun h => absurd h (by decide)) ?_
  (simp only [Act.put, List.setIfInBounds_toArray, List.set_cons_succ, List.set_cons_zero])
  refine seq_nil ?_
  have H1 := hide h2
  clear h2 HW
  have k0 := (H1.out.blk 1 rfl).cell 0
  by_cases hq : bl.any (keyIs r i) = true ∨ bl.length < 6
  · have hLAY : decide (layE bl ws r i = 0) = true ∧ layB bl ws ⟨r, i, data⟩ = bl.filter (fun y => !keyIs r i y) ++ [⟨r, i, data⟩] := by
      cases ht : bl.any (keyIs r i) with
      | true => exact layD_there HD.out ht
      | false => exact layD_room ht (by rcases hq with h | h; rw [ht] at h; cases h; exact h)
    have E0 := hide hLAY.1
    have HL1 := hide hl
    have hif : (bl.any (keyIs r i) = true) ∨ (bl.any (keyIs r i) = false ∧ decide ((6 : Int) ≤ (bl.length : Int)) = false) := by
      cases ht : bl.any (keyIs r i) with
      | true => exact .inl rfl
      | false => exact .inr ⟨rfl, decide_eq_false (by rcases hq with h | h; rw [ht] at h; cases h; omega)⟩
    generalize hb1 : bl = b1 at H1 HL1 hif k0 ⊢
    have EB := hide (show layB bl ws ⟨r, i, data⟩ = b1.filter (fun y => !keyIs r i y) ++ [⟨r, i, data⟩] by rw [← hb1]; exact hLAY.2)
    clear hb1 hLAY hq hl HL
    rcases hif with ht | ⟨ht, h6⟩
    all_goals
      rw [ht]
      clear ht
      go_wp2_with fail
      clear k0
      refine region_mixs (layDS g y (.slice A1 b1.length c1) r i) 12 5 [0, 1, 2, 3, 4, 5, 7, 8, 9] [[6, 10, 11, 12, 13, 14], [10, 6, 11, 12, 13, 14]] (by kernel_rfl) (by kernel_rfl) (fun d => by cases d <;> exact fun _ _ _ _ h => h) (fun W hW => ?_)
      have HW := hide ((H1.out.drew.copy 4 rfl).pers1 (R' := fun w' => PutR w' [.int .i64 r, .int .i64 i, .slice A0 n0 c0] ⟨r, i, data⟩) (fun w' hi => ⟨_, rfl, hi⟩))
      rw [← hW] at HW
      clear hW H1
      refine ⟨layDS_of HW.out (by (repeat (first | with_reducible exact At.here | with_reducible apply At.there))) (by (repeat (first | with_reducible exact At.here | with_reducible apply At.there))), ?_⟩
      iterate 9 (refine take_run rfl rfl (fun W hW => by (obtain ⟨x0, y0, y1⟩ := hW; go_simp; try rfl)) ?_; (simp only [Act.put, List.setIfInBounds_toArray, List.set_cons_succ, List.set_cons_zero]))
      refine take_nil ?_
      intro tl htl
      simp only [List.mem_cons, List.not_mem_nil, or_false] at htl
      rcases htl with rfl | rfl
      case' inl =>
        refine seq_call (f := 77) (args := #[.slice A1 b1.length c1, .agg #[.int .i64 r, .int .i64 i]]) rfl rfl (by go_simp; try rfl) ?_
        refine (without_st b1 r i A1 b1.length c1 W 3 rfl HL1.out HW.out).mono ?_
        rintro e w4 ⟨v, rfl, h5⟩
        obtain ⟨A5, c5, rfl, _, _⟩ := h5.growLen
        refine ⟨_, rfl, fun _ => layDS_of h5 (by (repeat (first | with_reducible exact At.here | with_reducible apply At.there))) (by (repeat (first | with_reducible exact At.here | with_reducible apply At.there))), ?_⟩
        (simp only [Act.put, List.setIfInBounds_toArray, List.set_cons_succ, List.set_cons_zero])
        have h6 := h5.alloc 69 #[.int .i64 r, .int .i64 i, .slice A0 n0 c0]
        refine seq_buildSlice1 rfl rfl 45 1 0 _ (.agg #[.int .i64 r, .int .i64 i, .slice A0 n0 c0]) rfl rfl (rput_build _ _ _ _ _ _) (fun _ => layDS_of h6 (by (repeat (first | with_reducible exact At.here | with_reducible apply At.there))) (by (repeat (first | with_reducible exact At.here | with_reducible apply At.there)))) ?_
        (simp only [Act.put, List.setIfInBounds_toArray, List.set_cons_succ, List.set_cons_zero])
        generalize w4.heap.size = q at h6 ⊢
        generalize w4.alloc _ = w6 at h6 ⊢
        have H5 := hide (h6.sub (L' := growR 69 3 PutR (.slice A5 (b1.filter (fun y => !keyIs r i y)).length c5) (b1.filter (fun y => !keyIs r i y)) :: blkR q 69 #[.int .i64 r, .int .i64 i, .slice A0 n0 c0] :: persR (fun w' => PutR w' [.int .i64 r, .int .i64 i, .slice A0 n0 c0] ⟨r, i, data⟩) :: blkR y 53 #[.int .i64 r, .int .i64 i] :: blkR g 47 #[.slice A1 b1.length c1, .slice B ws.length d] :: rowsR 3 PutR (.slice A1 b1.length c1) b1 :: rowsR 3 PutR (.slice B ws.length d) ws :: intsR .u8 (.slice A0 n0 c0) data :: L) (by (repeat (first | with_reducible exact Sub.refl _ | (with_reducible apply Sub.take; focus (repeat (first | with_reducible exact At.here | with_reducible apply At.there))) | with_reducible apply Sub.drop))))
        clear h5 h6 HW
      case' inr =>
        have h4 := HW.out.alloc 69 #[.int .i64 r, .int .i64 i, .slice A0 n0 c0]
        refine seq_buildSlice1 rfl rfl 45 1 0 _ (.agg #[.int .i64 r, .int .i64 i, .slice A0 n0 c0]) rfl rfl (rput_build _ _ _ _ _ _) (fun _ => layDS_of h4 (by (repeat (first | with_reducible exact At.here | with_reducible apply At.there))) (by (repeat (first | with_reducible exact At.here | with_reducible apply At.there)))) ?_
        (simp only [Act.put, List.setIfInBounds_toArray, List.set_cons_succ, List.set_cons_zero])
        generalize W.heap.size = q at h4 ⊢
        generalize W.alloc _ = W4 at h4 ⊢
        refine seq_call (f := 77) (args := #[.slice A1 b1.length c1, .agg #[.int .i64 r, .int .i64 i]]) rfl rfl (by go_simp; try rfl) ?_
        refine (without_st b1 r i A1 b1.length c1 W4 4 rfl HL1.out h4).mono ?_
        rintro e w6 ⟨v, rfl, h6⟩
        obtain ⟨A5, c5, rfl, _, _⟩ := h6.growLen
        refine ⟨_, rfl, fun _ => layDS_of h6 (by (repeat (first | with_reducible exact At.here | with_reducible apply At.there))) (by (repeat (first | with_reducible exact At.here | with_reducible apply At.there))), ?_⟩
        (simp only [Act.put, List.setIfInBounds_toArray, List.set_cons_succ, List.set_cons_zero])
        have H5 := hide (h6.sub (L' := growR 69 3 PutR (.slice A5 (b1.filter (fun y => !keyIs r i y)).length c5) (b1.filter (fun y => !keyIs r i y)) :: blkR q 69 #[.int .i64 r, .int .i64 i, .slice A0 n0 c0] :: persR (fun w' => PutR w' [.int .i64 r, .int .i64 i, .slice A0 n0 c0] ⟨r, i, data⟩) :: blkR y 53 #[.int .i64 r, .int .i64 i] :: blkR g 47 #[.slice A1 b1.length c1, .slice B ws.length d] :: rowsR 3 PutR (.slice A1 b1.length c1) b1 :: rowsR 3 PutR (.slice B ws.length d) ws :: intsR .u8 (.slice A0 n0 c0) data :: L) (by (repeat (first | with_reducible exact Sub.refl _ | (with_reducible apply Sub.take; focus (repeat (first | with_reducible exact At.here | with_reducible apply At.there))) | with_reducible apply Sub.drop))))
        clear h4 h6 HW
      all_goals
        obtain ⟨m, hm⟩ : ∃ m, m = (b1.filter (fun y => !keyIs r i y)).length := ⟨_, rfl⟩
        have hml : m ≤ 1000000 := by
          have := List.length_filter_le (fun y => !keyIs r i y) b1
          have := HL1.out
          omega
        rw [← hm] at H5 ⊢
        obtain ⟨vs, hq2, hxl, h8⟩ := H5.out.openGrowS
        refine seq_app rput_elem h8 rfl rfl _ _ rfl rfl (some ⟨q, 0, none⟩) 1 1 rfl [.int .i64 r, .int .i64 i, .slice A0 n0 c0] (sl_blkN (cs := [.int .i64 r, .int .i64 i, .slice A0 n0 c0]) (h8.blk 2 rfl)) (put_one _ _ _ _ _) (by omega) (by omega) (fun A4 c4 w7 h9 => ⟨fun _ => layDS_of h9 (by (repeat (first | with_reducible exact At.here | with_reducible apply At.there))) (by (repeat (first | with_reducible exact At.here | with_reducible apply At.there))), ?_⟩)
        (simp only [Act.put, List.setIfInBounds_toArray, List.set_cons_succ, List.set_cons_zero])
        have h10 := (h9.sub (L' := rowR 69 3 (.slice A4 (m + 1) c4) (m + 1) (vs ++ [.int .i64 r, .int .i64 i, .slice A0 n0 c0]) :: persR (fun w => ∀ (k : Nat) p, (b1.filter (fun y => !keyIs r i y))[k]? = some p → PutR w ((vs.drop (k * 3)).take 3) p) :: persR (fun w' => PutR w' [.int .i64 r, .int .i64 i, .slice A0 n0 c0] ⟨r, i, data⟩) :: blkR g 47 #[.slice A1 b1.length c1, .slice B ws.length d] :: rowsR 3 PutR (.slice B ws.length d) ws :: L) (by (repeat (first | with_reducible exact Sub.refl _ | (with_reducible apply Sub.take; focus (repeat (first | with_reducible exact At.here | with_reducible apply At.there))) | with_reducible apply Sub.drop)))).snocGrow (size := 3) hq2 rfl hxl
        have x0 := (h10.blkA (g := g) (t := 47) (cs := #[.slice A1 b1.length c1, .slice B ws.length d]) (by (repeat (first | with_reducible exact At.here | with_reducible apply At.there)))).cell 0
        have f := (h10.blkA (g := g) (t := 47) (cs := #[.slice A1 b1.length c1, .slice B ws.length d]) (by (repeat (first | with_reducible exact At.here | with_reducible apply At.there)))).frozen
        have h11 := (h10.swap.put_ 0 (.slice A4 (m + 1) c4) #[.slice A4 (m + 1) c4, .slice B ws.length d])
        have H11 := hide (h11.swap.rowsGrow.swap)
        clear h8 h9 h10 h11 hq2 hxl H5 hml hm
        refine seq_read rfl rfl (by (go_simp; try rfl)) (fun h => absurd h (by decide)) ?_
        (simp only [Act.put, List.setIfInBounds_toArray, List.set_cons_succ, List.set_cons_zero])
        refine seq_read rfl rfl (by (go_simp; try rfl)) (fun h => absurd h (by decide)) ?_
        (simp only [Act.put, List.setIfInBounds_toArray, List.set_cons_succ, List.set_cons_zero])
        refine seq_store rfl rfl 45 _ _ (.pointer (some ⟨g, 0, none⟩)) (.slice A4 (m + 1) c4) rfl rfl rfl (by go_simp; try rfl) (fun h => absurd h (by decide)) ?_
        simp only [Act.put]
        refine seq_nil ?_
        clear x0 f
        go_wp2_with fail
        go_ret
        exact ⟨by rw [E0.out]; try rfl, by rw [EB.out]; exact H11.out.docC⟩
  · have ht : bl.any (keyIs r i) = false := by
      cases h : bl.any (keyIs r i) with
      | true => exact absurd (.inl h) hq
      | false => rfl
    have h6 : 6 ≤ bl.length := Nat.not_lt.1 (fun h => hq (.inr h))
    have HT := hide ht
    have H6 := hide h6
    have hif : decide ((6 : Int) ≤ (bl.length : Int)) = true := decide_eq_true (by omega)
    rw [ht]
    clear hq ht
    generalize hn : bl.length = n at hif H1 k0 hc hl ⊢
    have HN := hide hn
    have hn6 : 6 ≤ n := by omega
    clear hn h6
    go_wp2_with fail
    clear k0 hif
    go_loopg [8, 9] (n + 1) (fun gh fv iv wr => ∃ (k : Nat) (fd : Bool) (b1 : List PU) (A1 : Option Addr) (c1 : Nat), gh = n + 1 - k ∧ fv = .bool fd ∧ iv = .int .i64 (k : Nat) ∧ layRel bl ws k b1 fd ∧ St M0 wr (blkR y 53 #[.int .i64 r, .int .i64 i] :: blkR g 47 #[.slice A1 b1.length c1, .slice B ws.length d] :: rowsR 3 PutR (.slice A1 b1.length c1) b1 :: rowsR 3 PutR (.slice B ws.length d) ws :: intsR .u8 (.slice A0 n0 c0) data :: L))
    case atStart => exact ⟨0, false, bl, A1, c1, rfl, rfl, rfl, ⟨rfl, by omega, rfl⟩, by rw [HN.out]; exact H1.out⟩
    case round =>
      clear H1 hc hcm
      obtain ⟨k, fd, b1, A1, c1, hg, rfl, rfl, hr, h⟩ := hrel
      have HG := hide hg
      clear hg
      have k0 := (h.blk 1 rfl).cell 0
      cases fd with
      | false =>
        obtain ⟨hb, hkn, hgo⟩ := hr
        subst hb
        rw [HN.out] at hkn h k0
        have HGO := hide hgo
        clear hgo
        by_cases hlt : k < n
        · have hx := List.getElem?_eq_getElem (l := b1) (i := k) (by rw [HN.out]; exact hlt)
          generalize b1[k]'(by rw [HN.out]; exact hlt) = x at hx
          obtain ⟨ad, cs, rfl, _, hcs, ⟨v, rfl, hv⟩, h1⟩ := h.elem 2 rfl hx
          have H1 := hide (h1.pers1 (R' := keyS (ad.add (k * 3)) x.region x.index) (fun w' hw => keyS_of hw.1))
          have HX := hide hx
          have i0 : (0 : Int) ≤ (k : Int) := by omega
          have i1 : (k : Int) < (n : Int) := by omega
          clear hcs hv h hx h1
          go_wp2_with fail
          clear k0
          refine region_mix (layES g (ad.add (k * 3)) (.slice (some ad) n c1) (.slice B ws.length d) x.region x.index) 13 [0, 1, 2, 3, 4, 5, 6, 7, 8, 9, 10, 11] [12, 13] (by kernel_rfl) (by kernel_rfl) (fun d => by cases d <;> exact fun _ _ _ _ h => h) (fun W hW => ?_)
          have HW := hide H1.out.drew
          rw [← hW] at HW
          clear hW H1
          refine ⟨layES_of HW.out (by (repeat (first | with_reducible exact At.here | with_reducible apply At.there))) (by (repeat (first | with_reducible exact At.here | with_reducible apply At.there))), ?_⟩
          iterate 12 (refine take_run rfl rfl (fun W hW => by (obtain ⟨x0, x1, y0, y1⟩ := hW; go_simp; try rfl)) ?_; (simp only [Act.put, List.setIfInBounds_toArray, List.set_cons_succ, List.set_cons_zero]))
          refine take_nil ?_
          refine seq_call (f := 80) (args := #[.slice B ws.length d, .agg #[.int .i64 x.region, .int .i64 x.index]]) rfl rfl (by go_simp; try rfl) ?_
          refine (has_q ws x.region x.index B ws.length d W (by (repeat (first | with_reducible exact At.here | with_reducible apply At.there))) HW.out).mono ?_
          rintro e w2 ⟨rfl, h2⟩
          refine ⟨_, rfl, fun _ => layES_of h2 (by (repeat (first | with_reducible exact At.here | with_reducible apply At.there))) (by (repeat (first | with_reducible exact At.here | with_reducible apply At.there))), ?_⟩
          (simp only [Act.put, List.setIfInBounds_toArray, List.set_cons_succ, List.set_cons_zero])
          refine seq_read rfl rfl (by (go_simp; try rfl)) (fun h => absurd h (by decide)) ?_
          (simp only [Act.put, List.setIfInBounds_toArray, List.set_cons_succ, List.set_cons_zero])
          refine seq_nil ?_
          have H1 := hide h2
          clear h2 HW
          cases hcl : ws.any (keyIs x.region x.index) with
          | true =>
            have E := hide (goneL_snoc HGO.out HX.out hcl)
            clear hcl
            go_wp2_with fail
            go_roundg (n + 1 - (k + 1))
            case measure => have := HG.out; omega
            case rel => exact ⟨k + 1, false, b1, some ad, c1, rfl, rfl, by go_num, ⟨rfl, by have := HN.out; omega, E.out⟩, by rw [HN.out]; exact H1.out.tail⟩
          | false =>
            have E := hide hcl
            clear hcl
            have k0 := (H1.out.blk 2 rfl).cell 0
            go_wp2_with fail
            clear k0
            refine region_mix (layES g (ad.add (k * 3)) (.slice (some ad) n c1) (.slice B ws.length d) x.region x.index) 14 [0, 1, 2, 3, 4, 5, 6, 7, 8, 9, 10, 11, 12] [13, 14, 15, 16] (by kernel_rfl) (by kernel_rfl) (fun d => by cases d <;> exact fun _ _ _ _ h => h) (fun W hW => ?_)
            have HW := hide H1.out.drew
            rw [← hW] at HW
            clear hW H1
            refine ⟨layES_of HW.out (by (repeat (first | with_reducible exact At.here | with_reducible apply At.there))) (by (repeat (first | with_reducible exact At.here | with_reducible apply At.there))), ?_⟩
            iterate 13 (refine take_run rfl rfl (fun W hW => by (obtain ⟨x0, x1, y0, y1⟩ := hW; go_simp; try rfl)) ?_; (simp only [Act.put, List.setIfInBounds_toArray, List.set_cons_succ, List.set_cons_zero]))
            refine take_nil ?_
            refine seq_call (f := 77) (args := #[.slice (some ad) n c1, .agg #[.int .i64 x.region, .int .i64 x.index]]) rfl rfl (by go_simp; try rfl) ?_
            refine (without_st b1 x.region x.index (some ad) n c1 W 3 rfl (by have := HN.out; omega) HW.out).mono ?_
            rintro e w4 ⟨v, rfl, h5⟩
            obtain ⟨A5, c5, rfl, _, _⟩ := h5.growLen
            refine ⟨_, rfl, fun _ => layES_of h5 (by (repeat (first | with_reducible exact At.here | with_reducible apply At.there))) (by (repeat (first | with_reducible exact At.here | with_reducible apply At.there))), ?_⟩
            (simp only [Act.put, List.setIfInBounds_toArray, List.set_cons_succ, List.set_cons_zero])
            have h6 := h5.rowsGrow
            have x0 := (h6.blkA (g := g) (t := 47) (cs := #[.slice (some ad) n c1, .slice B ws.length d]) (by (repeat (first | with_reducible exact At.here | with_reducible apply At.there)))).cell 0
            have f := (h6.blkA (g := g) (t := 47) (cs := #[.slice (some ad) n c1, .slice B ws.length d]) (by (repeat (first | with_reducible exact At.here | with_reducible apply At.there)))).frozen
            generalize hbf : b1.filter (fun y => !keyIs x.region x.index y) = bf at h6 ⊢
            have H11 := hide (((h6.sub (L' := blkR g 47 #[.slice (some ad) n c1, .slice B ws.length d] :: rowsR 3 PutR (.slice A5 bf.length c5) bf :: rowsR 3 PutR (.slice B ws.length d) ws :: intsR .u8 (.slice A0 n0 c0) data :: blkR y 53 #[.int .i64 r, .int .i64 i] :: L) (by (repeat (first | with_reducible exact Sub.refl _ | (with_reducible apply Sub.take; focus (repeat (first | with_reducible exact At.here | with_reducible apply At.there))) | with_reducible apply Sub.drop)))).put_ 0 (.slice A5 bf.length c5) #[.slice A5 bf.length c5, .slice B ws.length d]).sub (L' := blkR y 53 #[.int .i64 r, .int .i64 i] :: blkR g 47 #[.slice A5 bf.length c5, .slice B ws.length d] :: rowsR 3 PutR (.slice A5 bf.length c5) bf :: rowsR 3 PutR (.slice B ws.length d) ws :: intsR .u8 (.slice A0 n0 c0) data :: L) (by (repeat (first | with_reducible exact Sub.refl _ | (with_reducible apply Sub.take; focus (repeat (first | with_reducible exact At.here | with_reducible apply At.there))) | with_reducible apply Sub.drop))))
            have HBF := hide hbf
            clear hbf h5 h6 HW
            refine seq_read rfl rfl (by (go_simp; try rfl)) (fun h => absurd h (by decide)) ?_
            (simp only [Act.put, List.setIfInBounds_toArray, List.set_cons_succ, List.set_cons_zero])
            refine seq_read rfl rfl (by (go_simp; try rfl)) (fun h => absurd h (by decide)) ?_
            (simp only [Act.put, List.setIfInBounds_toArray, List.set_cons_succ, List.set_cons_zero])
            refine seq_store rfl rfl 45 _ _ (.pointer (some ⟨g, 0, none⟩)) (.slice A5 bf.length c5) rfl rfl rfl (by go_simp; try rfl) (fun h => absurd h (by decide)) ?_
            simp only [Act.put]
            refine seq_nil ?_
            clear x0 f
            go_wp2_with fail
            go_roundg (n + 1 - (k + 1))
            case measure => have := HG.out; omega
            case rel => exact ⟨k + 1, true, bf, A5, c5, rfl, rfl, by go_num, ⟨k, x, rfl, HX.out, HGO.out, E.out, HBF.out.symm⟩, H11.out⟩
        · obtain rfl : k = n := by omega
          have hLAY := layD_full (data := data) HT.out H6.out (ws := ws) (by have := HGO.out; rwa [← HN.out] at this)
          have E0 := hide hLAY.1
          have EB := hide hLAY.2
          rw [← HN.out] at h
          have H1 := hide (h.sub (L' := blkR g 47 #[.slice A1 b1.length c1, .slice B ws.length d] :: rowsR 3 PutR (.slice A1 b1.length c1) b1 :: rowsR 3 PutR (.slice B ws.length d) ws :: L) (by (repeat (first | with_reducible exact Sub.refl _ | (with_reducible apply Sub.take; focus (repeat (first | with_reducible exact At.here | with_reducible apply At.there))) | with_reducible apply Sub.drop))))
          clear h hLAY
          go_wp2_with fail
          go_ret
          exact ⟨by rw [E0.out]; try rfl, by rw [EB.out]; exact H1.out.docC⟩
      | true =>
        obtain ⟨j, x, hkj, hx, hgo, hcl, hb⟩ := hr
        have hLAY := layD_evict (data := data) HD.out HT.out H6.out hgo hx hcl
        rw [← hb] at hLAY
        have E0 := hide hLAY.1
        have EB := hide hLAY.2
        have HL1 := hide (show b1.length ≤ 1000000 by
          have := List.length_filter_le (fun y => !keyIs x.region x.index y) bl
          have := HL.out
          rw [hb]
          omega)
        have H1 := hide h
        clear hkj hx hgo hcl hb hLAY h
        cases hdk : decide ((k : Int) < (b1.length : Int)) with
        | true =>
          have hdk' : (k : Int) < (b1.length : Int) := of_decide_eq_true hdk
          go_wp2_with fail
          clear k0 hdk hdk'
          refine region_mixs (layDS g y (.slice A1 b1.length c1) r i) 12 5 [0, 1, 2, 3, 4, 5, 7, 8, 9] [[6, 10, 11, 12, 13, 14], [10, 6, 11, 12, 13, 14]] (by kernel_rfl) (by kernel_rfl) (fun d => by cases d <;> exact fun _ _ _ _ h => h) (fun W hW => ?_)
          have HW := hide ((H1.out.drew.copy 4 rfl).pers1 (R' := fun w' => PutR w' [.int .i64 r, .int .i64 i, .slice A0 n0 c0] ⟨r, i, data⟩) (fun w' hi => ⟨_, rfl, hi⟩))
          rw [← hW] at HW
          clear hW H1
          refine ⟨layDS_of HW.out (by (repeat (first | with_reducible exact At.here | with_reducible apply At.there))) (by (repeat (first | with_reducible exact At.here | with_reducible apply At.there))), ?_⟩
          iterate 9 (refine take_run rfl rfl (fun W hW => by (obtain ⟨x0, y0, y1⟩ := hW; go_simp; try rfl)) ?_; (simp only [Act.put, List.setIfInBounds_toArray, List.set_cons_succ, List.set_cons_zero]))
          refine take_nil ?_
          intro tl htl
          simp only [List.mem_cons, List.not_mem_nil, or_false] at htl
          rcases htl with rfl | rfl
          case' inl =>
            refine seq_call (f := 77) (args := #[.slice A1 b1.length c1, .agg #[.int .i64 r, .int .i64 i]]) rfl rfl (by go_simp; try rfl) ?_
            refine (without_st b1 r i A1 b1.length c1 W 3 rfl HL1.out HW.out).mono ?_
            rintro e w4 ⟨v, rfl, h5⟩
            obtain ⟨A5, c5, rfl, _, _⟩ := h5.growLen
            refine ⟨_, rfl, fun _ => layDS_of h5 (by (repeat (first | with_reducible exact At.here | with_reducible apply At.there))) (by (repeat (first | with_reducible exact At.here | with_reducible apply At.there))), ?_⟩
            (simp only [Act.put, List.setIfInBounds_toArray, List.set_cons_succ, List.set_cons_zero])
            have h6 := h5.alloc 69 #[.int .i64 r, .int .i64 i, .slice A0 n0 c0]
            refine seq_buildSlice1 rfl rfl 45 1 0 _ (.agg #[.int .i64 r, .int .i64 i, .slice A0 n0 c0]) rfl rfl (rput_build _ _ _ _ _ _) (fun _ => layDS_of h6 (by (repeat (first | with_reducible exact At.here | with_reducible apply At.there))) (by (repeat (first | with_reducible exact At.here | with_reducible apply At.there)))) ?_
            (simp only [Act.put, List.setIfInBounds_toArray, List.set_cons_succ, List.set_cons_zero])
            generalize w4.heap.size = q at h6 ⊢
            generalize w4.alloc _ = w6 at h6 ⊢
            have H5 := hide (h6.sub (L' := growR 69 3 PutR (.slice A5 (b1.filter (fun y => !keyIs r i y)).length c5) (b1.filter (fun y => !keyIs r i y)) :: blkR q 69 #[.int .i64 r, .int .i64 i, .slice A0 n0 c0] :: persR (fun w' => PutR w' [.int .i64 r, .int .i64 i, .slice A0 n0 c0] ⟨r, i, data⟩) :: blkR y 53 #[.int .i64 r, .int .i64 i] :: blkR g 47 #[.slice A1 b1.length c1, .slice B ws.length d] :: rowsR 3 PutR (.slice A1 b1.length c1) b1 :: rowsR 3 PutR (.slice B ws.length d) ws :: intsR .u8 (.slice A0 n0 c0) data :: L) (by (repeat (first | with_reducible exact Sub.refl _ | (with_reducible apply Sub.take; focus (repeat (first | with_reducible exact At.here | with_reducible apply At.there))) | with_reducible apply Sub.drop))))
            clear h5 h6 HW
          case' inr =>
            have h4 := HW.out.alloc 69 #[.int .i64 r, .int .i64 i, .slice A0 n0 c0]
            refine seq_buildSlice1 rfl rfl 45 1 0 _ (.agg #[.int .i64 r, .int .i64 i, .slice A0 n0 c0]) rfl rfl (rput_build _ _ _ _ _ _) (fun _ => layDS_of h4 (by (repeat (first | with_reducible exact At.here | with_reducible apply At.there))) (by (repeat (first | with_reducible exact At.here | with_reducible apply At.there)))) ?_
            (simp only [Act.put, List.setIfInBounds_toArray, List.set_cons_succ, List.set_cons_zero])
            generalize W.heap.size = q at h4 ⊢
            generalize W.alloc _ = W4 at h4 ⊢
            refine seq_call (f := 77) (args := #[.slice A1 b1.length c1, .agg #[.int .i64 r, .int .i64 i]]) rfl rfl (by go_simp; try rfl) ?_
            refine (without_st b1 r i A1 b1.length c1 W4 4 rfl HL1.out h4).mono ?_
            rintro e w6 ⟨v, rfl, h6⟩
            obtain ⟨A5, c5, rfl, _, _⟩ := h6.growLen
            refine ⟨_, rfl, fun _ => layDS_of h6 (by (repeat (first | with_reducible exact At.here | with_reducible apply At.there))) (by (repeat (first | with_reducible exact At.here | with_reducible apply At.there))), ?_⟩
            (simp only [Act.put, List.setIfInBounds_toArray, List.set_cons_succ, List.set_cons_zero])
            have H5 := hide (h6.sub (L' := growR 69 3 PutR (.slice A5 (b1.filter (fun y => !keyIs r i y)).length c5) (b1.filter (fun y => !keyIs r i y)) :: blkR q 69 #[.int .i64 r, .int .i64 i, .slice A0 n0 c0] :: persR (fun w' => PutR w' [.int .i64 r, .int .i64 i, .slice A0 n0 c0] ⟨r, i, data⟩) :: blkR y 53 #[.int .i64 r, .int .i64 i] :: blkR g 47 #[.slice A1 b1.length c1, .slice B ws.length d] :: rowsR 3 PutR (.slice A1 b1.length c1) b1 :: rowsR 3 PutR (.slice B ws.length d) ws :: intsR .u8 (.slice A0 n0 c0) data :: L) (by (repeat (first | with_reducible exact Sub.refl _ | (with_reducible apply Sub.take; focus (repeat (first | with_reducible exact At.here | with_reducible apply At.there))) | with_reducible apply Sub.drop))))
            clear h4 h6 HW
          all_goals
            obtain ⟨m, hm⟩ : ∃ m, m = (b1.filter (fun y => !keyIs r i y)).length := ⟨_, rfl⟩
            have hml : m ≤ 1000000 := by
              have := List.length_filter_le (fun y => !keyIs r i y) b1
              have := HL1.out
              omega
            rw [← hm] at H5 ⊢
            obtain ⟨vs, hq2, hxl, h8⟩ := H5.out.openGrowS
            refine seq_app rput_elem h8 rfl rfl _ _ rfl rfl (some ⟨q, 0, none⟩) 1 1 rfl [.int .i64 r, .int .i64 i, .slice A0 n0 c0] (sl_blkN (cs := [.int .i64 r, .int .i64 i, .slice A0 n0 c0]) (h8.blk 2 rfl)) (put_one _ _ _ _ _) (by omega) (by omega) (fun A4 c4 w7 h9 => ⟨fun _ => layDS_of h9 (by (repeat (first | with_reducible exact At.here | with_reducible apply At.there))) (by (repeat (first | with_reducible exact At.here | with_reducible apply At.there))), ?_⟩)
            (simp only [Act.put, List.setIfInBounds_toArray, List.set_cons_succ, List.set_cons_zero])
            have h10 := (h9.sub (L' := rowR 69 3 (.slice A4 (m + 1) c4) (m + 1) (vs ++ [.int .i64 r, .int .i64 i, .slice A0 n0 c0]) :: persR (fun w => ∀ (k : Nat) p, (b1.filter (fun y => !keyIs r i y))[k]? = some p → PutR w ((vs.drop (k * 3)).take 3) p) :: persR (fun w' => PutR w' [.int .i64 r, .int .i64 i, .slice A0 n0 c0] ⟨r, i, data⟩) :: blkR g 47 #[.slice A1 b1.length c1, .slice B ws.length d] :: rowsR 3 PutR (.slice B ws.length d) ws :: L) (by (repeat (first | with_reducible exact Sub.refl _ | (with_reducible apply Sub.take; focus (repeat (first | with_reducible exact At.here | with_reducible apply At.there))) | with_reducible apply Sub.drop)))).snocGrow (size := 3) hq2 rfl hxl
            have x0 := (h10.blkA (g := g) (t := 47) (cs := #[.slice A1 b1.length c1, .slice B ws.length d]) (by (repeat (first | with_reducible exact At.here | with_reducible apply At.there)))).cell 0
            have f := (h10.blkA (g := g) (t := 47) (cs := #[.slice A1 b1.length c1, .slice B ws.length d]) (by (repeat (first | with_reducible exact At.here | with_reducible apply At.there)))).frozen
            have h11 := (h10.swap.put_ 0 (.slice A4 (m + 1) c4) #[.slice A4 (m + 1) c4, .slice B ws.length d])
            have H11 := hide (h11.swap.rowsGrow.swap)
            clear h8 h9 h10 h11 hq2 hxl H5 hml hm
            refine seq_read rfl rfl (by (go_simp; try rfl)) (fun h => absurd h (by decide)) ?_
            (simp only [Act.put, List.setIfInBounds_toArray, List.set_cons_succ, List.set_cons_zero])
            refine seq_read rfl rfl (by (go_simp; try rfl)) (fun h => absurd h (by decide)) ?_
            (simp only [Act.put, List.setIfInBounds_toArray, List.set_cons_succ, List.set_cons_zero])
            refine seq_store rfl rfl 45 _ _ (.pointer (some ⟨g, 0, none⟩)) (.slice A4 (m + 1) c4) rfl rfl rfl (by go_simp; try rfl) (fun h => absurd h (by decide)) ?_
            simp only [Act.put]
            refine seq_nil ?_
            clear x0 f
            go_wp2_with fail
            go_ret
            exact ⟨by rw [E0.out]; try rfl, by rw [EB.out]; exact H11.out.docC⟩
        | false =>
          have hdk' : ¬ (k : Int) < (b1.length : Int) := of_decide_eq_false hdk
          go_wp2_with fail
          clear k0 hdk hdk'
          refine region_mixs (layDS g y (.slice A1 b1.length c1) r i) 12 5 [0, 1, 2, 3, 4, 5, 7, 8, 9] [[6, 10, 11, 12, 13, 14], [10, 6, 11, 12, 13, 14]] (by kernel_rfl) (by kernel_rfl) (fun d => by cases d <;> exact fun _ _ _ _ h => h) (fun W hW => ?_)
          have HW := hide ((H1.out.drew.copy 4 rfl).pers1 (R' := fun w' => PutR w' [.int .i64 r, .int .i64 i, .slice A0 n0 c0] ⟨r, i, data⟩) (fun w' hi => ⟨_, rfl, hi⟩))
          rw [← hW] at HW
          clear hW H1
          refine ⟨layDS_of HW.out (by (repeat (first | with_reducible exact At.here | with_reducible apply At.there))) (by (repeat (first | with_reducible exact At.here | with_reducible apply At.there))), ?_⟩
          iterate 9 (refine take_run rfl rfl (fun W hW => by (obtain ⟨x0, y0, y1⟩ := hW; go_simp; try rfl)) ?_; (simp only [Act.put, List.setIfInBounds_toArray, List.set_cons_succ, List.set_cons_zero]))
          refine take_nil ?_
          intro tl htl
          simp only [List.mem_cons, List.not_mem_nil, or_false] at htl
          rcases htl with rfl | rfl
          case' inl =>
            refine seq_call (f := 77) (args := #[.slice A1 b1.length c1, .agg #[.int .i64 r, .int .i64 i]]) rfl rfl (by go_simp; try rfl) ?_
            refine (without_st b1 r i A1 b1.length c1 W 3 rfl HL1.out HW.out).mono ?_
            rintro e w4 ⟨v, rfl, h5⟩
            obtain ⟨A5, c5, rfl, _, _⟩ := h5.growLen
            refine ⟨_, rfl, fun _ => layDS_of h5 (by (repeat (first | with_reducible exact At.here | with_reducible apply At.there))) (by (repeat (first | with_reducible exact At.here | with_reducible apply At.there))), ?_⟩
            (simp only [Act.put, List.setIfInBounds_toArray, List.set_cons_succ, List.set_cons_zero])
            have h6 := h5.alloc 69 #[.int .i64 r, .int .i64 i, .slice A0 n0 c0]
            refine seq_buildSlice1 rfl rfl 45 1 0 _ (.agg #[.int .i64 r, .int .i64 i, .slice A0 n0 c0]) rfl rfl (rput_build _ _ _ _ _ _) (fun _ => layDS_of h6 (by (repeat (first | with_reducible exact At.here | with_reducible apply At.there))) (by (repeat (first | with_reducible exact At.here | with_reducible apply At.there)))) ?_
            (simp only [Act.put, List.setIfInBounds_toArray, List.set_cons_succ, List.set_cons_zero])
            generalize w4.heap.size = q at h6 ⊢
            generalize w4.alloc _ = w6 at h6 ⊢
            have H5 := hide (h6.sub (L' := growR 69 3 PutR (.slice A5 (b1.filter (fun y => !keyIs r i y)).length c5) (b1.filter (fun y => !keyIs r i y)) :: blkR q 69 #[.int .i64 r, .int .i64 i, .slice A0 n0 c0] :: persR (fun w' => PutR w' [.int .i64 r, .int .i64 i, .slice A0 n0 c0] ⟨r, i, data⟩) :: blkR y 53 #[.int .i64 r, .int .i64 i] :: blkR g 47 #[.slice A1 b1.length c1, .slice B ws.length d] :: rowsR 3 PutR (.slice A1 b1.length c1) b1 :: rowsR 3 PutR (.slice B ws.length d) ws :: intsR .u8 (.slice A0 n0 c0) data :: L) (by (repeat (first | with_reducible exact Sub.refl _ | (with_reducible apply Sub.take; focus (repeat (first | with_reducible exact At.here | with_reducible apply At.there))) | with_reducible apply Sub.drop))))
            clear h5 h6 HW
          case' inr =>
            have h4 := HW.out.alloc 69 #[.int .i64 r, .int .i64 i, .slice A0 n0 c0]
            refine seq_buildSlice1 rfl rfl 45 1 0 _ (.agg #[.int .i64 r, .int .i64 i, .slice A0 n0 c0]) rfl rfl (rput_build _ _ _ _ _ _) (fun _ => layDS_of h4 (by (repeat (first | with_reducible exact At.here | with_reducible apply At.there))) (by (repeat (first | with_reducible exact At.here | with_reducible apply At.there)))) ?_
            (simp only [Act.put, List.setIfInBounds_toArray, List.set_cons_succ, List.set_cons_zero])
            generalize W.heap.size = q at h4 ⊢
            generalize W.alloc _ = W4 at h4 ⊢
            refine seq_call (f := 77) (args := #[.slice A1 b1.length c1, .agg #[.int .i64 r, .int .i64 i]]) rfl rfl (by go_simp; try rfl) ?_
            refine (without_st b1 r i A1 b1.length c1 W4 4 rfl HL1.out h4).mono ?_
            rintro e w6 ⟨v, rfl, h6⟩
            obtain ⟨A5, c5, rfl, _, _⟩ := h6.growLen
            refine ⟨_, rfl, fun _ => layDS_of h6 (by (repeat (first | with_reducible exact At.here | with_reducible apply At.there))) (by (repeat (first | with_reducible exact At.here | with_reducible apply At.there))), ?_⟩
            (simp only [Act.put, List.setIfInBounds_toArray, List.set_cons_succ, List.set_cons_zero])
            have H5 := hide (h6.sub (L' := growR 69 3 PutR (.slice A5 (b1.filter (fun y => !keyIs r i y)).length c5) (b1.filter (fun y => !keyIs r i y)) :: blkR q 69 #[.int .i64 r, .int .i64 i, .slice A0 n0 c0] :: persR (fun w' => PutR w' [.int .i64 r, .int .i64 i, .slice A0 n0 c0] ⟨r, i, data⟩) :: blkR y 53 #[.int .i64 r, .int .i64 i] :: blkR g 47 #[.slice A1 b1.length c1, .slice B ws.length d] :: rowsR 3 PutR (.slice A1 b1.length c1) b1 :: rowsR 3 PutR (.slice B ws.length d) ws :: intsR .u8 (.slice A0 n0 c0) data :: L) (by (repeat (first | with_reducible exact Sub.refl _ | (with_reducible apply Sub.take; focus (repeat (first | with_reducible exact At.here | with_reducible apply At.there))) | with_reducible apply Sub.drop))))
            clear h4 h6 HW
          all_goals
            obtain ⟨m, hm⟩ : ∃ m, m = (b1.filter (fun y => !keyIs r i y)).length := ⟨_, rfl⟩
            have hml : m ≤ 1000000 := by
              have := List.length_filter_le (fun y => !keyIs r i y) b1
              have := HL1.out
              omega
            rw [← hm] at H5 ⊢
            obtain ⟨vs, hq2, hxl, h8⟩ := H5.out.openGrowS
            refine seq_app rput_elem h8 rfl rfl _ _ rfl rfl (some ⟨q, 0, none⟩) 1 1 rfl [.int .i64 r, .int .i64 i, .slice A0 n0 c0] (sl_blkN (cs := [.int .i64 r, .int .i64 i, .slice A0 n0 c0]) (h8.blk 2 rfl)) (put_one _ _ _ _ _) (by omega) (by omega) (fun A4 c4 w7 h9 => ⟨fun _ => layDS_of h9 (by (repeat (first | with_reducible exact At.here | with_reducible apply At.there))) (by (repeat (first | with_reducible exact At.here | with_reducible apply At.there))), ?_⟩)
            (simp only [Act.put, List.setIfInBounds_toArray, List.set_cons_succ, List.set_cons_zero])
            have h10 := (h9.sub (L' := rowR 69 3 (.slice A4 (m + 1) c4) (m + 1) (vs ++ [.int .i64 r, .int .i64 i, .slice A0 n0 c0]) :: persR (fun w => ∀ (k : Nat) p, (b1.filter (fun y => !keyIs r i y))[k]? = some p → PutR w ((vs.drop (k * 3)).take 3) p) :: persR (fun w' => PutR w' [.int .i64 r, .int .i64 i, .slice A0 n0 c0] ⟨r, i, data⟩) :: blkR g 47 #[.slice A1 b1.length c1, .slice B ws.length d] :: rowsR 3 PutR (.slice B ws.length d) ws :: L) (by (repeat (first | with_reducible exact Sub.refl _ | (with_reducible apply Sub.take; focus (repeat (first | with_reducible exact At.here | with_reducible apply At.there))) | with_reducible apply Sub.drop)))).snocGrow (size := 3) hq2 rfl hxl
            have x0 := (h10.blkA (g := g) (t := 47) (cs := #[.slice A1 b1.length c1, .slice B ws.length d]) (by (repeat (first | with_reducible exact At.here | with_reducible apply At.there)))).cell 0
            have f := (h10.blkA (g := g) (t := 47) (cs := #[.slice A1 b1.length c1, .slice B ws.length d]) (by (repeat (first | with_reducible exact At.here | with_reducible apply At.there)))).frozen
            have h11 := (h10.swap.put_ 0 (.slice A4 (m + 1) c4) #[.slice A4 (m + 1) c4, .slice B ws.length d])
            have H11 := hide (h11.swap.rowsGrow.swap)
            clear h8 h9 h10 h11 hq2 hxl H5 hml hm
            refine seq_read rfl rfl (by (go_simp; try rfl)) (fun h => absurd h (by decide)) ?_
            (simp only [Act.put, List.setIfInBounds_toArray, List.set_cons_succ, List.set_cons_zero])
            refine seq_read rfl rfl (by (go_simp; try rfl)) (fun h => absurd h (by decide)) ?_
            (simp only [Act.put, List.setIfInBounds_toArray, List.set_cons_succ, List.set_cons_zero])
            refine seq_store rfl rfl 45 _ _ (.pointer (some ⟨g, 0, none⟩)) (.slice A4 (m + 1) c4) rfl rfl rfl (by go_simp; try rfl) (fun h => absurd h (by decide)) ?_
            simp only [Act.put]
            refine seq_nil ?_
            clear x0 f
            go_wp2_with fail
            go_ret
            exact ⟨by rw [E0.out]; try rfl, by rw [EB.out]; exact H11.out.docC⟩
end Go.Proofs.Ytbgknfdaaffeaaa
