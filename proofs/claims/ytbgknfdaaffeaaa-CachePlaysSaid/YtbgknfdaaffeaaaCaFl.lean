/- Cache: Flushed, Drop. -/
import Derived.Test.YtbgknfdaaffeaaaCaDf
import Derived.Test.YtbgknfdaaffeaaaDet
namespace Go.Proofs.Ytbgknfdaaffeaaa
open Go.RowKit Go.Shelf

def goneP (r : Int) (n : Nat) (y : PU) : Bool × Nat := if (y.region == r && decide (0 < n)) = true then (true, n - 1) else (false, n)
set_option maxHeartbeats 1000000 in
theorem flclo_st {M0 : Imm} {X : Res} {L : List Res} (b1 b2 : Nat) (r : Int) (n : Nat) (y : PU) (v : Value) (w : World) (h : St M0 w (X :: pureR (n ≤ 1000000) :: blkR b1 3 #[.int .i64 r] :: blkR b2 3 #[.int .i64 n] :: L)) :
    Calls Try.prog 83 #[putV y v, .pointer (some ⟨b1, 0, none⟩), .pointer (some ⟨b2, 0, none⟩)] w fun e w' => e = .returned (.bool (goneP r n y).1) ∧ St M0 w' (X :: pureR ((goneP r n y).2 ≤ 1000000) :: blkR b1 3 #[.int .i64 r] :: blkR b2 3 #[.int .i64 (goneP r n y).2] :: L) := by
  obtain ⟨yr, yi, dt⟩ := y
  have hn := h.swap.pure_.1
  have h1 := h.alloc 153 #[.int .i64 yr, .int .i64 yi, v]
  have y0 := (h1.blk 0 rfl).cell 0
  have x1 := (h1.blk 3 rfl).cell 0
  have x2 := (h1.blk 4 rfl).cell 0
  have f := (h1.blk 4 rfl).frozen
  by_cases e1 : yr = r
  · by_cases e2 : 0 < n
    · have g0 : goneP r n ⟨yr, yi, dt⟩ = (true, n - 1) := by simp [goneP, e1, e2]
      rw [g0]
      have c1 : (yr == r) = true := isT e1
      have c2 : decide ((0 : Int) < (n : Int)) = true := decide_eq_true (by omega)
      have c3 : decide ((n : Int) > 0) = true := c2
      have hw : IntKind.i64.wrap ((n : Int) - 1) = ((n - 1 : Nat) : Int) := by rw [IntWalk.i64_in _ (by omega)]; omega
      have H := hide (((h1.pick (L' := blkR b2 3 #[.int .i64 n] :: X :: pureR (n ≤ 1000000) :: blkR b1 3 #[.int .i64 r] :: L) 5 [4, 1, 2, 3]).set_ 0 (.int .i64 (n - 1 : Nat))).pick (L' := X :: blkR b1 3 #[.int .i64 r] :: blkR b2 3 #[.int .i64 (n - 1 : Nat)] :: L) 4 [1, 3, 0])
      have HN := hide (show n - 1 ≤ 1000000 by omega)
      clear h h1 e1 g0
      go_enter Try.func83, Try.ntmps83
      go_wp2_with fail
      go_ret
      exact ⟨rfl, (H.out.addP HN.out).swap⟩
    · have g0 : goneP r n ⟨yr, yi, dt⟩ = (false, n) := by simp [goneP, e2]
      rw [g0]
      have c1 : (yr == r) = true := isT e1
      have c2 : decide ((0 : Int) < (n : Int)) = false := decide_eq_false (by omega)
      have c3 : decide ((n : Int) > 0) = false := c2
      have H := hide h1.tail
      clear h h1 e1 g0
      go_enter Try.func83, Try.ntmps83
      go_wp2_with fail
      go_ret
      exact ⟨rfl, H.out⟩
  · have g0 : goneP r n ⟨yr, yi, dt⟩ = (false, n) := by simp [goneP, e1]
    rw [g0]
    have c1 : (yr == r) = false := isF e1
    have H := hide h1.tail
    clear h h1 e1 g0
    go_enter Try.func83, Try.ntmps83
    go_wp2_with fail
    go_ret
    exact ⟨rfl, H.out⟩
set_option maxHeartbeats 1000000 in
theorem drclo_st {M0 : Imm} {X : Res} {L : List Res} (b : Nat) (r : Int) (y : PU) (v : Value) (w : World) (h : St M0 w (X :: blkR b 3 #[.int .i64 r] :: L)) :
    Calls Try.prog 85 #[putV y v, .pointer (some ⟨b, 0, none⟩)] w fun e w' => e = .returned (.bool (inReg r y)) ∧ St M0 w' (X :: blkR b 3 #[.int .i64 r] :: L) := by
  obtain ⟨yr, yi, dt⟩ := y
  have h1 := h.alloc 153 #[.int .i64 yr, .int .i64 yi, v]
  have y0 := (h1.blk 0 rfl).cell 0
  have x1 := (h1.blk 2 rfl).cell 0
  have H := hide h1.tail
  clear h h1
  by_cases e1 : yr = r
  · have c1 : (yr == r) = true := isT e1
    have g0 : inReg r ⟨yr, yi, dt⟩ = true := c1
    rw [g0]
    clear e1 g0
    go_enter Try.func85, Try.ntmps85
    go_wp2_with fail
    go_ret
    exact ⟨rfl, H.out⟩
  · have c1 : (yr == r) = false := isF e1
    have g0 : inReg r ⟨yr, yi, dt⟩ = false := c1
    rw [g0]
    clear e1 g0
    go_enter Try.func85, Try.ntmps85
    go_wp2_with fail
    go_ret
    exact ⟨rfl, H.out⟩
theorem seq_skip {P : Program} {l : List Oper} {Q : Exit → Act → World → Prop} {S : World → Prop} {L : Nat} {i : Nat} {r : List Nat} {a : Act} {w : World} {o : Oper} (ho : l[i]? = some o) (hw : Region.wanted o (yielded l.toArray a.tmps) = false)
    (hS : i < L → S w) (h : wpSeq P l.toArray Q S L r (a.put o.dst undef) w) : wpSeq P l.toArray Q S L (i :: r) a w :=
  ⟨o, by simpa using ho, by rw [if_neg (by rw [hw]; exact Bool.false_ne_true)]; exact ⟨hS, h⟩⟩
def flX (ws : List PU) (r n : Int) : Prop := n < 0 ∨ n > ((ws.filter (inReg r)).length : Nat)
instance (ws : List PU) (r n : Int) : Decidable (flX ws r n) := inferInstanceAs (Decidable (_ ∨ _))
def flE (ws : List PU) (r n : Int) : Int := if flX ws r n then 1 else 0
def flW (ws : List PU) (r n : Int) : List PU := if flX ws r n then ws else keepS (goneP r) n.toNat ws
def flS (b1 b2 : Nat) (r n : Int) (W : World) : Prop := W.cell? ⟨b1, 0, none⟩ = some (.int .i64 r) ∧ W.cell? ⟨b2, 0, none⟩ = some (.int .i64 n)
theorem flS_of {M0 : Imm} {W : World} {Ls : List Res} {b1 b2 : Nat} {r n : Int} (h : St M0 W Ls) (i j : Nat) (hi : Ls[i]? = some (blkR b1 3 #[.int .i64 r])) (hj : Ls[j]? = some (blkR b2 3 #[.int .i64 n])) : flS b1 b2 r n W :=
  ⟨(h.blk i hi).cell 0, (h.blk j hj).cell 0⟩
set_option maxHeartbeats 2000000 in
set_option maxRecDepth 100000 in
theorem flushed_st {M0 : Imm} {L : List Res} (g : Nat) (bl ws : List PU) (r n : Int) (w : World) (hl : ws.length ≤ 1000000) (hd : ∀ x ∈ ws, x.data.length ≤ 1000000) (h : St M0 w (cacheR g bl ws :: L)) :
    Calls Try.prog 30 #[.pointer (some ⟨g, 0, none⟩), .int .i64 r, .int .i64 n] w fun e w' => e = .returned (.int .i64 (flE ws r n)) ∧ St M0 w' (cacheR g bl (flW ws r n) :: L) := by
  have h1 := (h.alloc 3 #[.int .i64 r]).alloc 3 #[.int .i64 n]
  rw [World.size_alloc] at h1
  have HL := hide hl
  have HD := hide hd
  clear h hl hd
  go_enter Try.func30, Try.ntmps30
  go_wp2_with fail
  have H := hide h1
  clear h1
  generalize World.alloc _ _ = w1 at H ⊢
  generalize w.heap.size + 1 = b2 at *
  generalize w.heap.size = b1 at *
  by_cases hn : n < 0
  · have EE := hide (show flE ws r n = 1 from if_pos (.inl hn))
    have EW := hide (show flW ws r n = ws from if_pos (.inl hn))
    have c1 : decide (n < 0) = true := decide_eq_true hn
    refine region_det (fun W => St M0 W (blkR b2 3 #[.int .i64 n] :: blkR b1 3 #[.int .i64 r] :: cacheR g bl ws :: L)) [0, 1, 2, 3, 4, 5, 6, 7, 8, 9] rfl (by kernel_rfl) (by kernel_rfl) H.out.drew ?_
    iterate 3 (refine det_run rfl rfl (fun W hW => by (have y1 := (hW.blk 0 rfl).cell 0; have y2 := (hW.blk 1 rfl).cell 0; clear hW; go_simp; try rfl)) ?_; (simp only [Act.put, List.setIfInBounds_toArray, List.set_cons_succ, List.set_cons_zero]))
    iterate 6 (refine det_skip rfl (by go_simp; try rfl) ?_; (simp only [Act.put, List.setIfInBounds_toArray, List.set_cons_succ, List.set_cons_zero]))
    refine det_run (v := .bool true) rfl rfl (fun W hW => by (clear hW; go_simp; try rfl)) ?_; (simp only [Act.put, List.setIfInBounds_toArray, List.set_cons_succ, List.set_cons_zero])
    refine det_nil (fun W hW => ?_)
    have H2 := hide hW
    clear hW H
    go_wp2_with fail
    go_ret
    exact ⟨by rw [EE.out]; try rfl, by rw [EW.out]; exact H2.out.tail.tail⟩
  · obtain ⟨m, rfl⟩ : ∃ m : Nat, n = (m : Int) := ⟨n.toNat, by omega⟩
    have m0 : (0 : Int) ≤ (m : Int) := by omega
    have c1 : decide ((m : Int) < 0) = false := decide_eq_false hn
    obtain ⟨k, hk⟩ : ∃ k, k = (ws.filter (inReg r)).length := ⟨_, rfl⟩
    have EE := hide (show flE ws r m = if k < m then 1 else 0 by
      by_cases hkm : k < m
      · rw [if_pos hkm]; exact if_pos (.inr (by omega))
      · rw [if_neg hkm]; exact if_neg (fun e => by rcases e with e | e <;> omega))
    have EW := hide (show flW ws r m = if k < m then ws else keepS (goneP r) m ws by
      by_cases hkm : k < m
      · rw [if_pos hkm]; exact if_pos (.inr (by omega))
      · rw [if_neg hkm]; exact if_neg (fun e => by rcases e with e | e <;> omega))
    have hkl : k ≤ 1000000 := by
      have := List.length_filter_le (inReg r) ws
      have := HL.out
      omega
    have HKK := hide hk
    clear hk hn
    refine region_mix (flS b1 b2 r m) 10 [0, 1, 2, 3, 4, 5] [6, 7, 8, 9] (by kernel_rfl) (by kernel_rfl) (fun d => by cases d <;> exact fun _ _ _ _ h => h) (fun W hW => ?_)
    have HW := hide (H.out.drew)
    rw [← hW] at HW
    clear hW H
    refine ⟨flS_of HW.out 1 0 rfl rfl, ?_⟩
    iterate 3 (refine take_run rfl rfl (fun W hW => by (obtain ⟨y1, y2⟩ := hW; go_simp; try rfl)) ?_; (simp only [Act.put, List.setIfInBounds_toArray, List.set_cons_succ, List.set_cons_zero]))
    iterate 3 (refine take_on rfl (by go_simp; try rfl) (fun W hW => by (obtain ⟨y1, y2⟩ := hW; go_simp; try rfl)) ?_; (simp only [Act.put, List.setIfInBounds_toArray, List.set_cons_succ, List.set_cons_zero]))
    refine take_nil ?_
    have h2 := HW.out.pick (L' := cacheR g bl ws :: blkR b2 3 #[.int .i64 m] :: blkR b1 3 #[.int .i64 r] :: L) 3 [2, 0, 1]
    refine seq_call_on (f := 37) (args := #[.pointer (some ⟨g, 0, none⟩), .int .i64 r]) rfl (by go_simp; try rfl) (by go_simp; try rfl) ?_
    refine (dirtyL_st g bl ws r W HL.out HD.out h2).mono ?_
    rintro e w4 ⟨v, rfl, h3⟩
    obtain ⟨A3, c3, rfl, hc3, hm3⟩ := h3.growLen
    rw [← HKK.out] at hc3
    rw [← HKK.out]
    refine ⟨_, rfl, fun _ => flS_of h3 3 2 rfl rfl, ?_⟩
    (simp only [Act.put, List.setIfInBounds_toArray, List.set_cons_succ, List.set_cons_zero])
    have H3 := hide h3
    clear h2 h3 HW
    refine seq_read_on rfl (by go_simp; try rfl) (by (go_simp; try rfl)) (fun _ => flS_of H3.out 3 2 rfl rfl) ?_
    (simp only [Act.put, List.setIfInBounds_toArray, List.set_cons_succ, List.set_cons_zero])
    by_cases hkm : k < m
    · have c2 : decide ((m : Int) > (k : Int)) = true := decide_eq_true (by omega)
      have c3 : decide ((k : Int) < (m : Int)) = true := c2
      rw [if_pos hkm] at EE EW
      refine seq_read_on (v := .bool true) rfl (by go_simp; try rfl) (by (go_simp; try rfl)) (fun _ => flS_of H3.out 3 2 rfl rfl) ?_
      (simp only [Act.put, List.setIfInBounds_toArray, List.set_cons_succ, List.set_cons_zero])
      refine seq_read (v := .bool true) rfl rfl (by (go_simp; try rfl)) (fun _ => flS_of H3.out 3 2 rfl rfl) ?_
      (simp only [Act.put, List.setIfInBounds_toArray, List.set_cons_succ, List.set_cons_zero])
      refine seq_nil ?_
      go_wp2_with fail
      go_ret
      exact ⟨by rw [EE.out]; try rfl, by rw [EW.out]; exact H3.out.tail.pick 3 [0]⟩
    · have c2 : decide ((m : Int) > (k : Int)) = false := decide_eq_false (by omega)
      have c3 : decide ((k : Int) < (m : Int)) = false := c2
      rw [if_neg hkm] at EE EW
      refine seq_read_on (v := .bool false) rfl (by go_simp; try rfl) (by (go_simp; try rfl)) (fun _ => flS_of H3.out 3 2 rfl rfl) ?_
      (simp only [Act.put, List.setIfInBounds_toArray, List.set_cons_succ, List.set_cons_zero])
      refine seq_read (v := .bool false) rfl rfl (by (go_simp; try rfl)) (fun _ => flS_of H3.out 3 2 rfl rfl) ?_
      (simp only [Act.put, List.setIfInBounds_toArray, List.set_cons_succ, List.set_cons_zero])
      refine seq_nil ?_
      obtain ⟨A, c, B, d, _, _, _, _, h4⟩ := H3.out.tail.cacheO
      have x0 := (h4.blk 0 rfl).cell 1
      have H4 := hide ((h4.pick (L' := growR 153 3 PutR (.slice B ws.length d) ws :: blkR b1 3 #[.int .i64 r] :: blkR b2 3 #[.int .i64 m] :: blkR g 43 #[.slice A bl.length c, .slice B ws.length d] :: growR 153 3 PutR (.slice A bl.length c) bl :: L) 5 [2, 4, 3, 0, 1]))
      have H5 := hide ((H4.out.addP (show m ≤ 1000000 by omega)).swap)
      clear h4 H4 H3
      go_wp2_with fail
      refine (delF_st (fun n : Nat => pureR (n ≤ 1000000) :: blkR b1 3 #[.int .i64 r] :: blkR b2 3 #[.int .i64 n] :: blkR g 43 #[.slice A bl.length c, .slice B ws.length d] :: growR 153 3 PutR (.slice A bl.length c) bl :: L) 83 #[.pointer (some ⟨b1, 0, none⟩), .pointer (some ⟨b2, 0, none⟩)] (goneP r) m ws B ws.length d _ (enters_of Try.func83 (by kernel_rfl) rfl) (fun X s x v W _ hW => flclo_st b1 b2 r s x v W hW) H5.out).mono ?_
      rintro e w5 ⟨v5, rfl, h5⟩
      obtain ⟨A5, c5, rfl, _, _⟩ := h5.growLen
      generalize (keepS (goneP r) m ws).length = q5 at *
      have h6 := h5.swap.pure_.2.pick (L' := blkR g 43 #[.slice A bl.length c, .slice B ws.length d] :: growR 153 3 PutR (.slice A5 q5 c5) (keepS (goneP r) m ws) :: growR 153 3 PutR (.slice A bl.length c) bl :: L) 5 [3, 0, 4]
      clear h5 H5 x0
      have x0 := (h6.blk 0 rfl).cell 1
      have f := (h6.blk 0 rfl).frozen
      have H7 := hide ((h6.set_ 1 (.slice A5 q5 c5)).pick (L' := blkR g 43 #[.slice A bl.length c, .slice A5 q5 c5] :: growR 153 3 PutR (.slice A bl.length c) bl :: growR 153 3 PutR (.slice A5 q5 c5) (keepS (goneP r) m ws) :: L) 3 [0, 2, 1])
      clear h6
      go_wp2_with fail
      go_ret
      exact ⟨by rw [EE.out]; try rfl, by rw [EW.out]; exact H7.out.cacheC⟩
theorem keepS_pure (p : PU → Bool) (l : List PU) : keepS (fun (_ : Unit) x => (p x, ())) () l = l.filter (fun x => !p x) := by
  induction l with
  | nil => rfl
  | cons x r ih => cases hp : p x <;> simp [keepS, hp, ih]
set_option maxHeartbeats 2000000 in
set_option maxRecDepth 100000 in
theorem drop_st {M0 : Imm} {L : List Res} (g : Nat) (bl ws : List PU) (r : Int) (w : World) (hl : ws.length ≤ 1000000) (hd : ∀ x ∈ ws, x.data.length ≤ 1000000) (h : St M0 w (cacheR g bl ws :: L)) :
    Calls Try.prog 33 #[.pointer (some ⟨g, 0, none⟩), .int .i64 r] w fun e w' => ∃ v, e = .returned v ∧ St M0 w' (growR 153 3 PutR v (ws.filter (inReg r)) :: cacheR g (bl.filter (fun x => !inReg r x)) (ws.filter (fun x => !inReg r x)) :: L) := by
  have h1 := h.alloc 3 #[.int .i64 r]
  have y0 := (h1.blk 0 rfl).cell 0
  have HL := hide hl
  have HD := hide hd
  have H := hide h1.swap
  clear h hl hd h1
  go_enter Try.func33, Try.ntmps33
  go_wp2_with fail
  refine (dirtyL_st g bl ws r _ HL.out HD.out H.out).mono ?_
  rintro e w2 ⟨v, rfl, h2⟩
  clear y0 H
  obtain ⟨A2, c2, rfl, _, _⟩ := h2.growLen
  generalize (ws.filter (inReg r)).length = q2 at *
  obtain ⟨A, c, B, d, _, _, _, _, h3⟩ := h2.swap.cacheO
  generalize w.heap.size = y at *
  have h4 := h3.pick (L' := growR 153 3 PutR (.slice B ws.length d) ws :: blkR y 3 #[.int .i64 r] :: blkR g 43 #[.slice A bl.length c, .slice B ws.length d] :: growR 153 3 PutR (.slice A bl.length c) bl :: growR 153 3 PutR (.slice A2 q2 c2) (ws.filter (inReg r)) :: L) 5 [2, 4, 0, 1, 3]
  have y0 := (h4.blk 1 rfl).cell 0
  have x0 := (h4.blk 2 rfl).cell 1
  have H4 := hide h4
  clear h2 h3 h4
  go_wp2_with fail
  have hd1 := fun M W h => delF_st (M0 := M) (fun _ : Unit => blkR y 3 #[.int .i64 r] :: blkR g 43 #[.slice A bl.length c, .slice B ws.length d] :: growR 153 3 PutR (.slice A bl.length c) bl :: growR 153 3 PutR (.slice A2 q2 c2) (ws.filter (inReg r)) :: L) 85 #[.pointer (some ⟨y, 0, none⟩)] (fun _ x => (inReg r x, ())) () ws B ws.length d W (enters_of Try.func85 (by kernel_rfl) rfl) (fun X _ x v W _ hW => drclo_st y r x v W hW) h
  refine (hd1 _ _ H4.out).mono ?_
  clear hd1
  rintro e w3 ⟨v3, rfl, h5⟩
  rw [keepS_pure] at h5
  obtain ⟨A3, c3, rfl, _, _⟩ := h5.growLen
  generalize (ws.filter (fun x => !inReg r x)).length = q3 at *
  clear H4 x0 y0
  have h6 := h5.pick (L' := blkR g 43 #[.slice A bl.length c, .slice B ws.length d] :: growR 153 3 PutR (.slice A3 q3 c3) (ws.filter (fun x => !inReg r x)) :: growR 153 3 PutR (.slice A bl.length c) bl :: blkR y 3 #[.int .i64 r] :: growR 153 3 PutR (.slice A2 q2 c2) (ws.filter (inReg r)) :: L) 5 [2, 0, 3, 1, 4]
  have x0 := (h6.blk 0 rfl).cell 1
  have x1 := (h6.blk 0 rfl).cell 0
  have f := (h6.blk 0 rfl).frozen
  have H7 := hide ((h6.set_ 1 (.slice A3 q3 c3)).pick (L' := growR 153 3 PutR (.slice A bl.length c) bl :: blkR y 3 #[.int .i64 r] :: blkR g 43 #[.slice A bl.length c, .slice A3 q3 c3] :: growR 153 3 PutR (.slice A3 q3 c3) (ws.filter (fun x => !inReg r x)) :: growR 153 3 PutR (.slice A2 q2 c2) (ws.filter (inReg r)) :: L) 5 [2, 3, 0, 1, 4])
  clear h5 h6
  go_wp2_with fail
  clear x0 x1 f
  generalize World.setCell _ _ _ = w4 at H7 ⊢
  have hd2 := fun M W h => delF_st (M0 := M) (fun _ : Unit => blkR y 3 #[.int .i64 r] :: blkR g 43 #[.slice A bl.length c, .slice A3 q3 c3] :: growR 153 3 PutR (.slice A3 q3 c3) (ws.filter (fun x => !inReg r x)) :: growR 153 3 PutR (.slice A2 q2 c2) (ws.filter (inReg r)) :: L) 85 #[.pointer (some ⟨y, 0, none⟩)] (fun _ x => (inReg r x, ())) () bl A bl.length c W (enters_of Try.func85 (by kernel_rfl) rfl) (fun X _ x v W _ hW => drclo_st y r x v W hW) h
  refine (hd2 _ _ H7.out).mono ?_
  clear hd2
  rintro e w5 ⟨v5, rfl, h8⟩
  rw [keepS_pure] at h8
  obtain ⟨A5, c5, rfl, _, _⟩ := h8.growLen
  generalize (bl.filter (fun x => !inReg r x)).length = q5 at *
  clear H7
  have h9 := h8.pick (L' := blkR g 43 #[.slice A bl.length c, .slice A3 q3 c3] :: growR 153 3 PutR (.slice A5 q5 c5) (bl.filter (fun x => !inReg r x)) :: growR 153 3 PutR (.slice A3 q3 c3) (ws.filter (fun x => !inReg r x)) :: growR 153 3 PutR (.slice A2 q2 c2) (ws.filter (inReg r)) :: L) 5 [2, 0, 3, 4]
  have x0 := (h9.blk 0 rfl).cell 0
  have f := (h9.blk 0 rfl).frozen
  have H9 := hide (h9.set_ 0 (.slice A5 q5 c5))
  clear h8 h9
  go_wp2_with fail
  go_ret
  exact ⟨_, rfl, H9.out.cacheC.swap⟩
end Go.Proofs.Ytbgknfdaaffeaaa
