/- Cache: lay. -/
import Derived.Test.YtbgknfdaaffeaaaCaV
namespace Go.Proofs.Ytbgknfdaaffeaaa
open Go.RowKit Go.Shelf

/-- what lay answers, and what is held then -/
def layE (bl wr : List PU) (r i : Int) : Int :=
  if 0 ≤ idxP (keyIs r i) 0 bl then 0 else if 6 ≤ bl.length then (if idxP (cleanP wr) 0 bl < 0 then 42 else 0) else 0
def layB (bl wr : List PU) (p : PU) : List PU :=
  if 0 ≤ idxP (keyIs p.region p.index) 0 bl then bl.eraseIdx (idxP (keyIs p.region p.index) 0 bl).toNat ++ [p]
  else if 6 ≤ bl.length then (if idxP (cleanP wr) 0 bl < 0 then bl else bl.eraseIdx (idxP (cleanP wr) 0 bl).toNat ++ [p]) else bl ++ [p]
def layS (y : Nat) (r i : Int) (W : World) : Prop := W.cell? ⟨y, 0, none⟩ = some (.int .i64 r) ∧ W.cell? ⟨y, 1, none⟩ = some (.int .i64 i)
theorem layS_of {M0 : Imm} {W : World} {Ls : List Res} {y : Nat} {r i : Int} (h : St M0 W Ls) (j : Nat) (hj : Ls[j]? = some (blkR y 52 #[.int .i64 r, .int .i64 i])) : layS y r i W :=
  ⟨(h.blk j hj).cell 0, (h.blk j hj).cell 1⟩
set_option maxHeartbeats 4000000 in
set_option maxRecDepth 100000 in
theorem lay_st {M0 : Imm} {L : List Res} (g : Nat) (bl wr : List PU) (r i : Int) (A0 : Option Addr) (n0 c0 : Nat) (data : List Int) (w : World) (hl : bl.length ≤ 1000000) (hd : data.length ≤ 140737488355328) (h : St M0 w (intsR .u8 (.slice A0 n0 c0) data :: cacheR g bl wr :: L)) :
    Calls Try.prog 79 #[.pointer (some ⟨g, 0, none⟩), .agg #[.int .i64 r, .int .i64 i], .slice A0 n0 c0] w fun e w' => e = .returned (.int .i64 (layE bl wr r i)) ∧ St M0 w' (cacheR g (layB bl wr ⟨r, i, data⟩) wr :: L) := by
  have hn0 : n0 = data.length := (h.get 0 rfl).sl.1
  have h1 := h.alloc 40 #[.pointer (some ⟨g, 0, none⟩)]
  have h2 := h1.alloc 52 #[.int .i64 r, .int .i64 i]
  rw [World.size_alloc] at h2
  have hn1 : n0 ≤ 140737488355328 := by omega
  clear hn0 hd
  have H := hide h2
  clear h h1 h2
  go_enter Try.func79, Try.ntmps79
  go_wp2_with fail
  generalize w.heap.size + 1 = y at H ⊢
  generalize w.heap.size = z at H ⊢
  generalize World.alloc _ _ = w2 at H ⊢
  refine region_mixT (layS y r i) 5 4 [0, 1] #[true, true, false, false, false, false] (by kernel_rfl) (by kernel_rfl) (fun d => by cases d <;> exact fun _ _ _ _ h => h) (fun W hW => ?_)
  have HW := hide (H.out.drew)
  rw [← hW] at HW
  clear hW H
  refine ⟨layS_of HW.out 0 rfl, ?_⟩
  iterate 2 (refine take_run rfl rfl (fun W hW => by (obtain ⟨y0, y1⟩ := hW; go_simp; try rfl)) ?_; (simp only [Act.put, List.setIfInBounds_toArray, List.set_cons_succ, List.set_cons_zero]))
  refine take_nil ?_
  refine wpT_nodes [2, 4] (by kernel_rfl) (by decide) (fun q hq => ?_)
  simp only [List.mem_cons, List.not_mem_nil, or_false] at hq
  rcases hq with rfl | rfl
  case' inl =>
    refine node_callR (f := 76) (args := #[.slice A0 n0 c0]) rfl rfl (by go_simp; try rfl) ((clone_st A0 n0 c0 data _ (HW.out.get 2 rfl).sl.2.2.2 (by omega) HW.out).mono ?_)
    rintro e w3 ⟨v2, rfl, h⟩
    obtain ⟨A2, c2, rfl⟩ := h.slice
    refine ⟨_, rfl, fun _ => layS_of h 1 rfl, ?_⟩
    (simp only [Act.put, List.setIfInBounds_toArray, List.set_cons_succ, List.set_cons_zero])
    have h3 := h.ints
    refine wpT_mid1 (n := 2) [3] #[true, true, true, true, false, false] (by kernel_rfl) (by kernel_rfl) (fun d => by cases d <;> exact fun _ _ _ _ h => h) (layS_of h3 1 rfl) (by kernel_rfl) ?_
    refine take_run rfl rfl (fun W hW => by (clear hW; go_simp; try rfl)) ?_
    (simp only [Act.put, List.setIfInBounds_toArray, List.set_cons_succ, List.set_cons_zero])
    refine take_nil ?_
    refine wpT_seq [4, 5] _ _ _ (by kernel_rfl) ?_
    have h4 := h3.alloc 153 #[.int .i64 0, .int .i64 0, .slice none 0 0]
    refine seq_run (v := .pointer (some ⟨w3.heap.size, 0, none⟩)) (w' := w3.alloc (.cells #[.int .i64 0, .int .i64 0, .slice none 0 0] 153)) rfl rfl (by go_simp; try rfl) (fun _ => layS_of h4 2 rfl) ?_
    (simp only [Act.put, List.setIfInBounds_toArray, List.set_cons_succ, List.set_cons_zero])
    have y0 := (h4.blk 0 rfl).cell 0
    have y1 := (h4.blk 0 rfl).cell 1
    have y2 := (h4.blk 0 rfl).cell 2
    have f := (h4.blk 0 rfl).frozen
    have H5 := hide (((h4.set_ 0 (.int .i64 r)).set_ 1 (.int .i64 i)).set_ 2 (.slice A2 n0 c2))
    clear h h3 h4 HW
    refine seq_store (w' := (((w3.alloc (.cells #[.int .i64 0, .int .i64 0, .slice none 0 0] 153)).setCell ⟨w3.heap.size, 0, none⟩ (.int .i64 r)).setCell ⟨w3.heap.size, 1, none⟩ (.int .i64 i)).setCell ⟨w3.heap.size, 2, none⟩ (.slice A2 n0 c2)) rfl rfl 153 _ _ (.pointer (some ⟨w3.heap.size, 0, none⟩)) (.agg #[.int .i64 r, .int .i64 i, .slice A2 n0 c2]) rfl rfl rfl (by go_simp; try rfl) (fun h => absurd h (by decide)) ?_
    simp only [Act.put]
    refine seq_nil ?_
    clear y0 y1 y2 f
    generalize w3.heap.size = p at H5 ⊢
    generalize World.setCell _ _ _ = w5 at H5 ⊢
  case' inr =>
    have h3 := HW.out.alloc 153 #[.int .i64 0, .int .i64 0, .slice none 0 0]
    refine node_run (v := .pointer (some ⟨W.heap.size, 0, none⟩)) (w' := W.alloc (.cells #[.int .i64 0, .int .i64 0, .slice none 0 0] 153)) rfl rfl (by go_simp; try rfl) (fun _ => layS_of h3 1 rfl) ?_
    (simp only [Act.put, List.setIfInBounds_toArray, List.set_cons_succ, List.set_cons_zero])
    refine wpT_seq [2, 3, 5] _ _ _ (by kernel_rfl) ?_
    generalize W.heap.size = p at h3 ⊢
    generalize World.alloc _ _ = w4 at h3 ⊢
    refine seq_call (f := 76) (args := #[.slice A0 n0 c0]) rfl rfl (by go_simp; try rfl) ((clone_st A0 n0 c0 data _ (h3.get 3 rfl).sl.2.2.2 (by omega) h3).mono ?_)
    rintro e w3 ⟨v2, rfl, h⟩
    obtain ⟨A2, c2, rfl⟩ := h.slice
    refine ⟨_, rfl, fun _ => layS_of h 2 rfl, ?_⟩
    (simp only [Act.put, List.setIfInBounds_toArray, List.set_cons_succ, List.set_cons_zero])
    refine seq_read rfl rfl (by (go_simp; try rfl)) (fun _ => layS_of h 2 rfl) ?_
    (simp only [Act.put, List.setIfInBounds_toArray, List.set_cons_succ, List.set_cons_zero])
    have h4 := h.ints.swap
    have y0 := (h4.blk 0 rfl).cell 0
    have y1 := (h4.blk 0 rfl).cell 1
    have y2 := (h4.blk 0 rfl).cell 2
    have f := (h4.blk 0 rfl).frozen
    have H5 := hide (((h4.set_ 0 (.int .i64 r)).set_ 1 (.int .i64 i)).set_ 2 (.slice A2 n0 c2))
    clear h h3 h4 HW
    refine seq_store (w' := ((w3.setCell ⟨p, 0, none⟩ (.int .i64 r)).setCell ⟨p, 1, none⟩ (.int .i64 i)).setCell ⟨p, 2, none⟩ (.slice A2 n0 c2)) rfl rfl 153 _ _ (.pointer (some ⟨p, 0, none⟩)) (.agg #[.int .i64 r, .int .i64 i, .slice A2 n0 c2]) rfl rfl rfl (by go_simp; try rfl) (fun h => absurd h (by decide)) ?_
    simp only [Act.put]
    refine seq_nil ?_
    clear y0 y1 y2 f
    generalize World.setCell _ _ _ = w5 at H5 ⊢
  all_goals
    have H6 : Hid (St M0 w5 (blkR p 153 #[.int .i64 r, .int .i64 i, .slice A2 n0 c2] :: intsR .u8 (.slice A2 n0 c2) data :: blkR y 52 #[.int .i64 r, .int .i64 i] :: blkR z 40 #[.pointer (some ⟨g, 0, none⟩)] :: intsR .u8 (.slice A0 n0 c0) data :: cacheR g bl wr :: L)) := H5
    clear H5
    have H7 := hide (H6.out.pick (L' := cacheR g bl wr :: blkR p 153 #[.int .i64 r, .int .i64 i, .slice A2 n0 c2] :: intsR .u8 (.slice A2 n0 c2) data :: blkR y 52 #[.int .i64 r, .int .i64 i] :: blkR z 40 #[.pointer (some ⟨g, 0, none⟩)] :: L) 6 [5, 0, 1, 2, 3])
    clear H6
    have z0 := (H7.out.blk 4 rfl).cell 0
    have y0 := (H7.out.blk 3 rfl).cell 0
    have y1 := (H7.out.blk 3 rfl).cell 1
    go_wp2_with fail
    refine (find_st g bl wr r i _ H7.out).mono ?_
    rintro e w6 ⟨rfl, h8⟩
    have H8 := hide h8
    clear H7 h8 z0 y0 y1
    have z0 := (H8.out.blk 4 rfl).cell 0
    have p0 := (H8.out.blk 1 rfl).cell 0
    have p1 := (H8.out.blk 1 rfl).cell 1
    have p2 := (H8.out.blk 1 rfl).cell 2
    rcases idxP_spec (keyIs r i) bl 0 with ⟨hk, _⟩ | ⟨k, x, hk, hx, _⟩
    case' inr =>
      rw [Nat.zero_add] at hk
      have EE := hide (show layE bl wr r i = 0 by unfold layE; rw [hk, if_pos (by omega)])
      have EB := hide (show layB bl wr ⟨r, i, data⟩ = bl.eraseIdx k ++ [⟨r, i, data⟩] by unfold layB; simp only [hk]; rw [if_pos (by omega), Int.toNat_natCast])
      have HX := hide hx
      rw [hk]
      clear hk hx
      have k0 : (0 : Int) ≤ (k : Int) := by omega
      have k1 : decide ((k : Int) ≥ 0) = true := decide_eq_true k0
      have k2 : decide ((0 : Int) ≤ (k : Int)) = true := decide_eq_true k0
      go_wp2_with fail
      refine (use_st g bl wr k x _ HX.out hl H8.out).mono ?_
      rintro e w7 ⟨rfl, h9⟩
      clear H8 z0 p0 p1 p2
      obtain ⟨q, hq⟩ : ∃ q, q = (bl.eraseIdx k).length := ⟨_, rfl⟩
      obtain ⟨A3, c3, B3, d3, hc3, _, hcm3, _, h10⟩ := h9.cacheO
      obtain ⟨m, hm⟩ : ∃ m, m = (bl.eraseIdx k ++ [x]).length := ⟨_, rfl⟩
      have hmq : m = q + 1 := by rw [hm, List.length_append, hq]; rfl
      have hql : q ≤ 1000000 := by
        have := List.length_eraseIdx_le bl k
        omega
      rw [← hm] at h10 hc3
      have h11 := h10.pick (L' := growR 153 3 PutR (.slice A3 m c3) (bl.eraseIdx k ++ [x]) :: intsR .u8 (.slice A2 n0 c2) data :: blkR g 43 #[.slice A3 m c3, .slice B3 wr.length d3] :: blkR p 153 #[.int .i64 r, .int .i64 i, .slice A2 n0 c2] :: blkR z 40 #[.pointer (some ⟨g, 0, none⟩)] :: growR 153 3 PutR (.slice B3 wr.length d3) wr :: L) 7 [1, 4, 0, 3, 6, 2]
      have h12 := (h11.swap.pers1 (R' := fun w' => PutR w' [.int .i64 r, .int .i64 i, .slice A2 n0 c2] ⟨r, i, data⟩) (fun w' hi => ⟨_, rfl, hi⟩)).swap
      clear h9 h10 h11
      have hqm : q < (bl.eraseIdx k ++ [x]).length := by omega
      have EQ := hide hq
      have HM := hide hm
      have HMQ := hide hmq
      have HC3 := hide hc3
      have m0 : (0 : Int) ≤ (q : Int) := by omega
      have m1 : (q : Int) < (m : Int) := by omega
      have m2 : IntKind.i64.wrap ((m : Int) - 1) = (q : Int) := by rw [IntWalk.i64_in _ (by omega)]; omega
      clear hq hm hmq hql hc3
      obtain ⟨b3, rfl⟩ : ∃ b, A3 = some ⟨b, 0, none⟩ := by
        obtain ⟨b, hb, _⟩ := h12.growSet (k := q) rfl hqm
        exact ⟨b, hb⟩
      have z0 := (h12.blk 4 rfl).cell 0
      have p0 := (h12.blk 3 rfl).cell 0
      have p1 := (h12.blk 3 rfl).cell 1
      have p2 := (h12.blk 3 rfl).cell 2
      have g0 := (h12.blk 2 rfl).cell 0
      have H12 := hide h12
      have HQM := hide hqm
      clear h12 hqm
      go_wp2_with fail
      refine region_tail 12 (by kernel_rfl) (by kernel_rfl) (fun W4 hW => ?_)
      have H13 := hide (H12.out.drew)
      rw [← hW] at H13
      clear hW H12 z0 p0 p1 p2 g0
      have z0 := (H13.out.blk 4 rfl).cell 0
      have p0 := (H13.out.blk 3 rfl).cell 0
      have p1 := (H13.out.blk 3 rfl).cell 1
      have p2 := (H13.out.blk 3 rfl).cell 2
      have g0 := (H13.out.blk 2 rfl).cell 0
      simp only [List.take_succ_cons, List.take_zero, List.drop_succ_cons, List.drop_zero]
      repeat still_step
      try refine wpStill_nil ?_
      obtain ⟨b4, e4, h14⟩ := H13.out.growSet (k := q) rfl HQM.out
      obtain rfl : b3 = b4 := by injection e4 with e4; injection e4
      have hrun := run_store_put W4 b3 (q * 3) (H13.out.thereG HQM.out) r i A2 n0 c2
      refine at_storeR 153 rfl rfl rfl rfl hrun ?_
      have H15 := hide (h14.pick (L' := blkR g 43 #[.slice (some ⟨b3, 0, none⟩) m c3, .slice B3 wr.length d3] :: growR 153 3 PutR (.slice (some ⟨b3, 0, none⟩) m c3) ((bl.eraseIdx k ++ [x]).set q ⟨r, i, data⟩) :: growR 153 3 PutR (.slice B3 wr.length d3) wr :: L) 5 [1, 0, 4])
      clear hrun h14 H13 z0 p0 p1 p2 g0
      generalize World.setCells _ _ _ _ = w8 at H15 ⊢
      simp only [Act.put]
      go_wp2_with fail
      go_ret
      refine ⟨by rw [EE.out]; try rfl, ?_⟩
      have e : (bl.eraseIdx k ++ [x]).set q ⟨r, i, data⟩ = bl.eraseIdx k ++ [⟨r, i, data⟩] := by
        rw [EQ.out, List.set_append_right _ _ (Nat.le_refl _), Nat.sub_self]
        rfl
      rw [EB.out, ← e]
      exact H15.out.cacheC
    case' inl =>
      obtain ⟨A3, c3, B3, d3, hc3, _, hcm3, _, h10⟩ := H8.out.cacheO
      obtain ⟨n, hn⟩ : ∃ n, n = bl.length := ⟨_, rfl⟩
      rw [← hn] at h10 hc3
      have h11 := h10.pick (L' := growR 153 3 PutR (.slice A3 n c3) bl :: blkR z 40 #[.pointer (some ⟨g, 0, none⟩)] :: blkR g 43 #[.slice A3 n c3, .slice B3 wr.length d3] :: growR 153 3 PutR (.slice B3 wr.length d3) wr :: blkR p 153 #[.int .i64 r, .int .i64 i, .slice A2 n0 c2] :: intsR .u8 (.slice A2 n0 c2) data :: L) 7 [1, 6, 0, 2, 3, 4]
      clear H8 z0 p0 p1 p2 h10
      have z0 := (h11.blk 1 rfl).cell 0
      have g0 := (h11.blk 2 rfl).cell 0
      have p0 := (h11.blk 4 rfl).cell 0
      have p1 := (h11.blk 4 rfl).cell 1
      have p2 := (h11.blk 4 rfl).cell 2
      have H11 := hide h11
      have HN := hide hn
      have HK := hide hk
      have hnl : n ≤ 1000000 := by omega
      have HC3 := hide hc3
      rw [hk]
      clear h11 hn hk hl hc3
      by_cases hs : 6 ≤ n
      · have s0 : decide ((n : Int) ≥ 6) = true := decide_eq_true (by omega)
        have s1 : decide ((6 : Int) ≤ (n : Int)) = true := decide_eq_true (by omega)
        have s2 : (6 : Int) ≤ (n : Int) := by omega
        go_wp2_with fail
        refine (indexG1_st 138 (.pointer (some ⟨z, 0, none⟩)) (cleanP wr) bl A3 n c3 _ (enters_of Try.func138 (by kernel_rfl) rfl) (fun x v W _ hW => lclo_st g z wr A3 B3 n c3 wr.length d3 x v W hW) H11.out).mono ?_
        rintro e w7 ⟨rfl, h12⟩
        rcases idxP_spec (cleanP wr) bl 0 with ⟨hj, _⟩ | ⟨k, x, hj, hx, _⟩
        · have EE := hide (show layE bl wr r i = 42 by unfold layE; rw [HK.out, if_neg (by omega), if_pos (by rw [← HN.out]; exact hs), hj, if_pos (by omega)])
          have EB := hide (show layB bl wr ⟨r, i, data⟩ = bl by unfold layB; simp only [HK.out, hj]; rw [if_neg (by omega), if_pos (by rw [← HN.out]; exact hs), if_pos (by omega)])
          have H12 := hide (h12.pick (L' := blkR g 43 #[.slice A3 n c3, .slice B3 wr.length d3] :: growR 153 3 PutR (.slice A3 n c3) bl :: growR 153 3 PutR (.slice B3 wr.length d3) wr :: L) 6 [2, 0, 3])
          clear h12 H11 z0 g0 p0 p1 p2
          rw [hj]
          clear hj
          go_wp2_with fail
          go_ret
          exact ⟨by rw [EE.out]; try rfl, by rw [EB.out]; exact H12.out.cacheC⟩
        · rw [Nat.zero_add] at hj
          have EE := hide (show layE bl wr r i = 0 by unfold layE; rw [HK.out, if_neg (by omega), if_pos (by rw [← HN.out]; exact hs), hj, if_neg (by omega)])
          have EB := hide (show layB bl wr ⟨r, i, data⟩ = bl.eraseIdx k ++ [⟨r, i, data⟩] by unfold layB; simp only [HK.out, hj]; rw [if_neg (by omega), if_pos (by rw [← HN.out]; exact hs), if_neg (by omega), Int.toNat_natCast])
          have hkn := (List.getElem?_eq_some_iff.1 hx).1
          rw [← HN.out] at hkn
          have HKN := hide (show k < bl.length by rw [← HN.out]; exact hkn)
          have H12 := hide h12
          obtain ⟨j, hjj⟩ : ∃ j, j = k + 1 := ⟨_, rfl⟩
          have HJ := hide hjj
          have jw : IntKind.i64.wrap ((k : Int) + 1) = (j : Int) := by rw [hjj, IntWalk.i64_in _ (by omega)]; omega
          have k0 : (0 : Int) ≤ (k : Int) := by omega
          have k1 : ¬ (k : Int) < 0 := by omega
          have k2 : decide ((k : Int) < 0) = false := decide_eq_false k1
          clear h12 H11 z0 g0 p0 p1 p2 hjj hkn hx
          rw [hj]
          clear hj
          go_wp2_with fail
          refine region_mix (fun W => W.cell? ⟨z, 0, none⟩ = some (.pointer (some ⟨g, 0, none⟩)) ∧ W.cell? ⟨g, 0, none⟩ = some (.slice A3 n c3)) 9 [0, 1, 2, 3, 4, 5, 6, 7] [8, 9, 10, 11] (by kernel_rfl) (by kernel_rfl) (fun d => by cases d <;> exact fun _ _ _ _ h => h) (fun W8 hW => ?_)
          have H13 := hide (H12.out.drew)
          rw [← hW] at H13
          clear hW H12
          refine ⟨⟨(H13.out.blk 1 rfl).cell 0, (H13.out.blk 2 rfl).cell 0⟩, ?_⟩
          iterate 7 (refine take_run rfl rfl (fun W hW => by (obtain ⟨z0, x0⟩ := hW; go_simp; try rfl)) ?_; (simp only [Act.put, List.setIfInBounds_toArray, List.set_cons_succ, List.set_cons_zero]))
          refine take_run (v := .int .i64 j) rfl rfl (fun W hW => by (obtain ⟨z0, x0⟩ := hW; go_simp; first | done | (rw [jw]; try rfl))) ?_; (simp only [Act.put, List.setIfInBounds_toArray, List.set_cons_succ, List.set_cons_zero])
          refine take_nil ?_
          refine seq_call (f := 135) (args := #[.slice A3 n c3, .int .i64 k, .int .i64 j]) rfl rfl (by go_simp; try rfl) ?_
          refine (del_st bl A3 n c3 k j W8 HJ.out HKN.out H13.out).mono ?_
          rintro e w9 ⟨q, hq, rfl, h14⟩
          refine ⟨_, rfl, fun _ => ⟨(h14.blk 1 rfl).cell 0, (h14.blk 2 rfl).cell 0⟩, ?_⟩
          (simp only [Act.put, List.setIfInBounds_toArray, List.set_cons_succ, List.set_cons_zero])
          have x0 := (h14.blk 2 rfl).cell 0
          have f := (h14.blk 2 rfl).frozen
          have hql : q ≤ 1000000 := by omega
          have HQ := hide hq
          have h15 := (h14.pick (L' := blkR g 43 #[.slice A3 n c3, .slice B3 wr.length d3] :: growR 153 3 PutR (.slice A3 q c3) (bl.eraseIdx k) :: blkR z 40 #[.pointer (some ⟨g, 0, none⟩)] :: growR 153 3 PutR (.slice B3 wr.length d3) wr :: blkR p 153 #[.int .i64 r, .int .i64 i, .slice A2 n0 c2] :: intsR .u8 (.slice A2 n0 c2) data :: L) 6 [2, 0, 1, 3, 4, 5]).set_ 0 (.slice A3 q c3)
          have H21 : Hid (St M0 (w9.setCell ⟨g, 0, none⟩ (.slice A3 q c3)) (growR 153 3 PutR (.slice A3 q c3) (bl.eraseIdx k) :: blkR z 40 #[.pointer (some ⟨g, 0, none⟩)] :: blkR g 43 #[.slice A3 q c3, .slice B3 wr.length d3] :: growR 153 3 PutR (.slice B3 wr.length d3) wr :: blkR p 153 #[.int .i64 r, .int .i64 i, .slice A2 n0 c2] :: intsR .u8 (.slice A2 n0 c2) data :: L)) := hide (h15.pick 6 [1, 2, 0, 3, 4, 5])
          clear h14 h15 hq H13
          refine seq_read rfl rfl (by (go_simp; try rfl)) (fun h => absurd h (by decide)) ?_
          (simp only [Act.put, List.setIfInBounds_toArray, List.set_cons_succ, List.set_cons_zero])
          refine seq_read rfl rfl (by (go_simp; try rfl)) (fun h => absurd h (by decide)) ?_
          (simp only [Act.put, List.setIfInBounds_toArray, List.set_cons_succ, List.set_cons_zero])
          refine seq_store rfl rfl 41 _ _ (.pointer (some ⟨g, 0, none⟩)) (.slice A3 q c3) rfl rfl rfl (by go_simp; try rfl) (fun h => absurd h (by decide)) ?_
          simp only [Act.put]
          refine seq_nil ?_
          clear x0 f
          generalize World.setCell _ _ _ = w10 at H21 ⊢
          go_wp2_with fail
          refine region_mix (fun W => W.cell? ⟨z, 0, none⟩ = some (.pointer (some ⟨g, 0, none⟩)) ∧ useS g p (.slice A3 q c3) (.int .i64 r) (.int .i64 i) (.slice A2 n0 c2) W) 8 [0, 1, 2, 3, 4, 5] [6, 7, 8, 9, 10] (by kernel_rfl) (by kernel_rfl) (fun d => by cases d <;> exact fun _ _ _ _ h => h) (fun W9 hW => ?_)
          have H13 := hide (H21.out.drew)
          rw [← hW] at H13
          clear hW H21
          refine ⟨⟨(H13.out.blk 1 rfl).cell 0, useS_of H13.out 2 4 rfl rfl⟩, ?_⟩
          iterate 6 (refine take_run rfl rfl (fun W hW => by (obtain ⟨z0, x0, y0, y1, y2⟩ := hW; go_simp; try rfl)) ?_; (simp only [Act.put, List.setIfInBounds_toArray, List.set_cons_succ, List.set_cons_zero]))
          refine take_nil ?_
          obtain ⟨vs, hq2, hxl, h14⟩ := H13.out.openGrowS
          have h15 := h14.alloc 153 #[.int .i64 r, .int .i64 i, .slice A2 n0 c2]
          have h16 := h15.pick (L' := rowR 153 3 (.slice A3 q c3) q vs :: blkR W9.heap.size 153 #[.int .i64 r, .int .i64 i, .slice A2 n0 c2] :: persR (fun w => ∀ (j : Nat) p, (bl.eraseIdx k)[j]? = some p → PutR w ((vs.drop (j * 3)).take 3) p) :: blkR z 40 #[.pointer (some ⟨g, 0, none⟩)] :: blkR g 43 #[.slice A3 q c3, .slice B3 wr.length d3] :: growR 153 3 PutR (.slice B3 wr.length d3) wr :: blkR p 153 #[.int .i64 r, .int .i64 i, .slice A2 n0 c2] :: intsR .u8 (.slice A2 n0 c2) data :: L) 8 [1, 0, 2, 3, 4, 5, 6, 7]
          refine seq_buildSlice1 rfl rfl 41 1 0 _ (.agg #[.int .i64 r, .int .i64 i, .slice A2 n0 c2]) rfl rfl (put_build _ _ _ _ _ _) (fun _ => ⟨(h16.blk 3 rfl).cell 0, useS_of h16 4 6 rfl rfl⟩) ?_
          (simp only [Act.put, List.setIfInBounds_toArray, List.set_cons_succ, List.set_cons_zero])
          refine seq_app put_elem h16 rfl rfl _ _ rfl rfl (some ⟨W9.heap.size, 0, none⟩) 1 1 rfl [.int .i64 r, .int .i64 i, .slice A2 n0 c2] (sl_blkN (cs := [.int .i64 r, .int .i64 i, .slice A2 n0 c2]) (h16.blk 1 rfl)) (put_one _ _ _ _ _) (by omega) (by omega) (fun A4 c4 w9 h17 => ⟨fun _ => ⟨(h17.blk 3 rfl).cell 0, useS_of h17 4 6 rfl rfl⟩, ?_⟩)
          (simp only [Act.put, List.setIfInBounds_toArray, List.set_cons_succ, List.set_cons_zero])
          have h18 := h17.pick (L' := rowR 153 3 (.slice A4 (q + 1) c4) (q + 1) (vs ++ [.int .i64 r, .int .i64 i, .slice A2 n0 c2]) :: persR (fun w => ∀ (j : Nat) p, (bl.eraseIdx k)[j]? = some p → PutR w ((vs.drop (j * 3)).take 3) p) :: intsR .u8 (.slice A2 n0 c2) data :: blkR g 43 #[.slice A3 q c3, .slice B3 wr.length d3] :: growR 153 3 PutR (.slice B3 wr.length d3) wr :: L) 8 [0, 2, 7, 4, 5]
          have h19 := ((h18.up2.pers1 (R' := fun w' => PutR w' [.int .i64 r, .int .i64 i, .slice A2 n0 c2] ⟨r, i, data⟩) (fun w' hi => ⟨_, rfl, hi⟩)).dn2).snocGrow hq2 rfl hxl
          have x0 := (h19.blk 1 rfl).cell 0
          have f := (h19.blk 1 rfl).frozen
          have H20 := hide (h19.swap.set_ 0 (.slice A4 (q + 1) c4))
          clear h14 h15 h16 h17 h18 h19 hq2 hxl H13
          refine seq_read rfl rfl (by (go_simp; try rfl)) (fun h => absurd h (by decide)) ?_
          (simp only [Act.put, List.setIfInBounds_toArray, List.set_cons_succ, List.set_cons_zero])
          refine seq_read rfl rfl (by (go_simp; try rfl)) (fun h => absurd h (by decide)) ?_
          (simp only [Act.put, List.setIfInBounds_toArray, List.set_cons_succ, List.set_cons_zero])
          refine seq_store rfl rfl 41 _ _ (.pointer (some ⟨g, 0, none⟩)) (.slice A4 (q + 1) c4) rfl rfl rfl (by go_simp; try rfl) (fun h => absurd h (by decide)) ?_
          simp only [Act.put]
          refine seq_nil ?_
          clear x0 f
          go_wp2_with fail
          go_ret
          exact ⟨by rw [EE.out]; try rfl, by rw [EB.out]; exact H20.out.cacheC⟩
      · have s0 : decide ((n : Int) ≥ 6) = false := decide_eq_false (by omega)
        have s1 : decide ((6 : Int) ≤ (n : Int)) = false := decide_eq_false (by omega)
        have s2 : ¬ (6 : Int) ≤ (n : Int) := by omega
        have EE := hide (show layE bl wr r i = 0 by unfold layE; rw [HK.out, if_neg (by omega), if_neg (by rw [← HN.out]; exact hs)])
        have EB := hide (show layB bl wr ⟨r, i, data⟩ = bl ++ [⟨r, i, data⟩] by unfold layB; simp only [HK.out]; rw [if_neg (by omega), if_neg (by rw [← HN.out]; exact hs)])
        go_wp2_with fail
        refine region_mix (fun W => W.cell? ⟨z, 0, none⟩ = some (.pointer (some ⟨g, 0, none⟩)) ∧ useS g p (.slice A3 n c3) (.int .i64 r) (.int .i64 i) (.slice A2 n0 c2) W) 8 [0, 1, 2, 3, 4, 5] [6, 7, 8, 9, 10] (by kernel_rfl) (by kernel_rfl) (fun d => by cases d <;> exact fun _ _ _ _ h => h) (fun W8 hW => ?_)
        have H13 := hide (H11.out.drew)
        rw [← hW] at H13
        clear hW H11 z0 g0 p0 p1 p2
        refine ⟨⟨(H13.out.blk 1 rfl).cell 0, useS_of H13.out 2 4 rfl rfl⟩, ?_⟩
        iterate 6 (refine take_run rfl rfl (fun W hW => by (obtain ⟨z0, x0, y0, y1, y2⟩ := hW; go_simp; try rfl)) ?_; (simp only [Act.put, List.setIfInBounds_toArray, List.set_cons_succ, List.set_cons_zero]))
        refine take_nil ?_
        obtain ⟨vs, hq2, hxl, h14⟩ := H13.out.openGrowS
        have h15 := h14.alloc 153 #[.int .i64 r, .int .i64 i, .slice A2 n0 c2]
        have h16 := h15.pick (L' := rowR 153 3 (.slice A3 n c3) n vs :: blkR W8.heap.size 153 #[.int .i64 r, .int .i64 i, .slice A2 n0 c2] :: persR (fun w => ∀ (k : Nat) p, bl[k]? = some p → PutR w ((vs.drop (k * 3)).take 3) p) :: blkR z 40 #[.pointer (some ⟨g, 0, none⟩)] :: blkR g 43 #[.slice A3 n c3, .slice B3 wr.length d3] :: growR 153 3 PutR (.slice B3 wr.length d3) wr :: blkR p 153 #[.int .i64 r, .int .i64 i, .slice A2 n0 c2] :: intsR .u8 (.slice A2 n0 c2) data :: L) 8 [1, 0, 2, 3, 4, 5, 6, 7]
        refine seq_buildSlice1 rfl rfl 41 1 0 _ (.agg #[.int .i64 r, .int .i64 i, .slice A2 n0 c2]) rfl rfl (put_build _ _ _ _ _ _) (fun _ => ⟨(h16.blk 3 rfl).cell 0, useS_of h16 4 6 rfl rfl⟩) ?_
        (simp only [Act.put, List.setIfInBounds_toArray, List.set_cons_succ, List.set_cons_zero])
        refine seq_app put_elem h16 rfl rfl _ _ rfl rfl (some ⟨W8.heap.size, 0, none⟩) 1 1 rfl [.int .i64 r, .int .i64 i, .slice A2 n0 c2] (sl_blkN (cs := [.int .i64 r, .int .i64 i, .slice A2 n0 c2]) (h16.blk 1 rfl)) (put_one _ _ _ _ _) (by omega) (by omega) (fun A4 c4 w9 h17 => ⟨fun _ => ⟨(h17.blk 3 rfl).cell 0, useS_of h17 4 6 rfl rfl⟩, ?_⟩)
        (simp only [Act.put, List.setIfInBounds_toArray, List.set_cons_succ, List.set_cons_zero])
        have h18 := h17.pick (L' := rowR 153 3 (.slice A4 (n + 1) c4) (n + 1) (vs ++ [.int .i64 r, .int .i64 i, .slice A2 n0 c2]) :: persR (fun w => ∀ (k : Nat) p, bl[k]? = some p → PutR w ((vs.drop (k * 3)).take 3) p) :: intsR .u8 (.slice A2 n0 c2) data :: blkR g 43 #[.slice A3 n c3, .slice B3 wr.length d3] :: growR 153 3 PutR (.slice B3 wr.length d3) wr :: L) 8 [0, 2, 7, 4, 5]
        have h19 := ((h18.up2.pers1 (R' := fun w' => PutR w' [.int .i64 r, .int .i64 i, .slice A2 n0 c2] ⟨r, i, data⟩) (fun w' hi => ⟨_, rfl, hi⟩)).dn2).snocGrow hq2 rfl hxl
        have x0 := (h19.blk 1 rfl).cell 0
        have f := (h19.blk 1 rfl).frozen
        have H20 := hide (h19.swap.set_ 0 (.slice A4 (n + 1) c4))
        clear h14 h15 h16 h17 h18 h19 hq2 hxl H13
        refine seq_read rfl rfl (by (go_simp; try rfl)) (fun h => absurd h (by decide)) ?_
        (simp only [Act.put, List.setIfInBounds_toArray, List.set_cons_succ, List.set_cons_zero])
        refine seq_read rfl rfl (by (go_simp; try rfl)) (fun h => absurd h (by decide)) ?_
        (simp only [Act.put, List.setIfInBounds_toArray, List.set_cons_succ, List.set_cons_zero])
        refine seq_store rfl rfl 41 _ _ (.pointer (some ⟨g, 0, none⟩)) (.slice A4 (n + 1) c4) rfl rfl rfl (by go_simp; try rfl) (fun h => absurd h (by decide)) ?_
        simp only [Act.put]
        refine seq_nil ?_
        clear x0 f
        go_wp2_with fail
        go_ret
        exact ⟨by rw [EE.out]; try rfl, by rw [EB.out]; exact H20.out.cacheC⟩
end Go.Proofs.Ytbgknfdaaffeaaa
