/- CacheWaits: the law's walk. Printed by gen_cawa.py. -/
import Derived.Test.YtbnjeekhoaapiaaCaRo
import Derived.Test.YtbnjeekhoaapiaaCaT
namespace Go.Proofs.Ytbnjeekhoaapiaa
open Go.RowKit Go.Shelf

theorem keep_in (r : Int) (ws : List PU) : ∀ n, (keepS (goneP r) n ws).filter (inReg r) = (ws.filter (inReg r)).drop n := by
  induction ws with
  | nil => intro n; simp [keepS]
  | cons x q ih =>
    intro n
    cases hr : inReg r x with
    | false =>
      have h1 : goneP r n x = (false, n) := by unfold goneP; rw [show (x.region == r) = false from hr]; rfl
      unfold keepS
      rw [h1, if_neg Bool.false_ne_true, List.filter_cons, List.filter_cons, hr, if_neg Bool.false_ne_true, if_neg Bool.false_ne_true]
      exact ih n
    | true =>
      cases n with
      | zero =>
        have h1 : goneP r 0 x = (false, 0) := by simp [goneP]
        unfold keepS
        rw [h1, if_neg Bool.false_ne_true, List.filter_cons, List.filter_cons, hr, if_pos rfl, if_pos rfl, List.drop_zero]
        rw [ih 0, List.drop_zero]
      | succ n =>
        have h1 : goneP r (n + 1) x = (true, n) := by unfold goneP; rw [show (x.region == r) = true from hr]; rfl
        unfold keepS
        rw [h1, if_pos rfl, List.filter_cons, hr, if_pos rfl, List.drop_succ_cons]
        exact ih n
theorem keep_other {r s : Int} (hne : r ≠ s) (ws : List PU) : ∀ n, (keepS (goneP r) n ws).filter (inReg s) = ws.filter (inReg s) := by
  induction ws with
  | nil => intro n; rfl
  | cons x q ih =>
    intro n
    unfold keepS
    split
    · rename_i h
      have hx : x.region = r := by
        unfold goneP at h
        split at h
        · rename_i h2
          simp at h2
          exact h2.1
        · cases h
      rw [List.filter_cons, if_neg (by simp [inReg, hx, hne])]
      exact ih _
    · rename_i h
      have h2 : (goneP r n x).2 = n := by
        unfold goneP at h ⊢
        split
        · rename_i h3
          rw [if_pos h3] at h
          exact absurd rfl h
        · rfl
      rw [List.filter_cons, List.filter_cons, h2, ih n]
structure InvW (r : Int) (n : Nat) (s : (List PU × List PU) × List PU) : Prop where
  c : InvC n s.1.1 s.1.2
  w : s.1.2.filter (inReg r) = s.2
def stepB (r : Int) (s : List PU × List PU) (o : OpC) : List PU × List PU :=
  if o.d = 2 then (fillB s.1 s.2 o.put, s.2) else if o.d = 3 then (wrB s.1 s.2 o.put, wrW s.1 s.2 o.put) else if o.d = 4 then (s.1, flW s.2 o.r o.n) else
  if o.d = 5 then (if o.r = r then s else (s.1.filter (fun x => !inReg o.r x), s.2.filter (fun x => !inReg o.r x))) else s
def wantB (r : Int) (s : List PU × List PU) (t : List PU) (o : OpC) : List PU :=
  if o.d = 3 ∧ wrE s.1 s.2 o.put = 0 ∧ o.r = r then t ++ [o.put] else if o.d = 4 ∧ flE s.2 o.r o.n = 0 ∧ o.r = r then t.drop o.n.toNat else t
def stepW (r : Int) (s : (List PU × List PU) × List PU) (o : OpC) : (List PU × List PU) × List PU := (stepB r s.1 o, wantB r s.1 s.2 o)
def runW (r : Int) (l : List OpC) : (List PU × List PU) × List PU := l.foldl (stepW r) (([], []), [])
theorem flE_zero {ws : List PU} {r n : Int} (h : flE ws r n = 0) : ¬ flX ws r n := fun hx => by
  unfold flE at h
  rw [if_pos hx] at h
  cases h
theorem InvW.step {r : Int} {n : Nat} {s : (List PU × List PU) × List PU} {x : OpC} (h : InvW r n s) (hx : x.b.length ≤ 140737488355328) : InvW r (n + 1) (stepW r s x) := by
  obtain ⟨h, hw⟩ := h
  obtain ⟨⟨bl, ws⟩, t⟩ := s
  simp only at h hw
  subst hw
  unfold stepW stepB wantB
  dsimp only
  by_cases c2 : x.d = 2
  · rw [if_pos c2, if_neg (fun e => by omega), if_neg (fun e => by omega)]
    exact ⟨(h.fill hx).le (by omega), rfl⟩
  rw [if_neg c2]
  by_cases c3 : x.d = 3
  · rw [if_pos c3]
    refine ⟨h.write, ?_⟩
    dsimp only
    by_cases he : wrE bl ws x.put = 0
    · unfold wrW
      rw [if_pos he, List.filter_append]
      by_cases hr : x.r = r
      · rw [if_pos ⟨c3, he, hr⟩]
        simp [inReg, OpC.put, hr]
      · rw [if_neg (fun e => hr e.2.2), if_neg (fun e => by omega)]
        simp [inReg, OpC.put, hr]
    · rw [wrW_sub he, if_neg (fun e => he e.2.1), if_neg (fun e => by omega)]
  rw [if_neg c3, if_neg (fun e : x.d = 3 ∧ _ => c3 e.1)]
  by_cases c4 : x.d = 4
  · rw [if_pos c4]
    refine ⟨(h.flush _).le (by omega), ?_⟩
    dsimp only
    by_cases he : flE ws x.r x.n = 0
    · have hX := flE_zero he
      unfold flW
      rw [if_neg hX]
      by_cases hr : x.r = r
      · rw [if_pos ⟨c4, he, hr⟩, hr, keep_in]
      · rw [if_neg (fun e => hr e.2.2), keep_other hr]
    · rw [if_neg (fun e => he e.2.1)]
      have hX : flX ws x.r x.n := Classical.byContradiction (fun hn => he (if_neg hn))
      unfold flW
      rw [if_pos hX]
  rw [if_neg c4, if_neg (fun e : x.d = 4 ∧ _ => c4 e.1)]
  by_cases c5 : x.d = 5
  · rw [if_pos c5]
    by_cases hr : x.r = r
    · rw [if_pos hr]
      exact ⟨h.le (by omega), rfl⟩
    · rw [if_neg hr]
      refine ⟨h.drop.le (by omega), ?_⟩
      dsimp only
      rw [List.filter_filter]
      refine List.filter_congr (fun y _ => ?_)
      unfold inReg
      by_cases hy : y.region = r
      · have : ¬ y.region = x.r := fun e => hr (e.symm.trans hy)
        simp [hy]
        exact fun e => hr e.symm
      · simp [hy]
  · rw [if_neg c5]
    exact ⟨h.le (by omega), rfl⟩
theorem runW_inv (r : Int) (l : List OpC) (hl : ∀ x ∈ l, x.b.length ≤ 140737488355328) : InvW r l.length (runW r l) := by
  suffices ∀ (n : Nat) (s : (List PU × List PU) × List PU), InvW r n s → InvW r (n + l.length) (l.foldl (stepW r) s) by
    have := this 0 (([], []), []) ⟨InvC.init, rfl⟩
    rwa [Nat.zero_add] at this
  induction l with
  | nil => exact fun n s h => h
  | cons x q ih =>
    intro n s h
    have := ih (fun y hy => hl y (by simp [hy])) (n + 1) _ (h.step (hl x (by simp)))
    rw [List.foldl_cons, List.length_cons]
    rwa [show n + (q.length + 1) = n + 1 + q.length by omega]
theorem runW_snoc {r : Int} {l : List OpC} {k : Nat} {x : OpC} (hx : l[k]? = some x) : runW r (l.take (k + 1)) = stepW r (runW r (l.take k)) x := by
  unfold runW
  rw [List.take_add_one, hx, List.foldl_append]
  rfl
theorem gone_in (r : Int) (ws : List PU) : (ws.filter (fun x => !inReg r x)).filter (inReg r) = [] := by
  rw [List.filter_filter, List.filter_eq_nil_iff]
  intro y _ h
  cases hy : inReg r y <;> simp [hy] at h
theorem blk_cells {w : World} {b : Nat} {t : TypeId} {cs : List Value} (h : Blk w b t cs.toArray) : ∀ j u, cs[j]? = some u → w.cell? ((⟨b, 0, none⟩ : Addr).add j) = some u := by
  obtain ⟨_, _, _, _, hc⟩ := (sl_blkN h).2 (by omega)
  injection ‹some _ = some _› with e
  subst e
  exact hc
set_option maxHeartbeats 8000000 in
set_option maxRecDepth 100000 in
theorem waits_st {M0 : Imm} {L : List Res} (v : Value) (l : List OpC) (r : Int) (w : World) (hb : ∀ x ∈ l, x.b.length ≤ 140737488355328) (h : St M0 w (rowsR 5 OpR v l :: L)) :
    Calls Try.prog 10 #[v, .int .i64 r] w fun e w' => e = .returned (.bool true) ∧ St M0 w' L := by
  obtain ⟨A, c, rfl, hc, hm⟩ := (h.getRows 0 rfl).slice
  generalize hn : l.length = n at *
  have HN := hide hn
  have HB := hide hb
  have H := hide h
  clear hn h hb
  by_cases t0 : 100 < n
  · have dt0 : decide ((100 : Int) < (n : Int)) = true := decide_eq_true (by omega)
    go_enter Try.func10, Try.ntmps10
    go_wp2_with fail
    refine (awakeC_st _ H.out).mono ?_
    rintro e w1 ⟨rfl, h⟩
    have H1 := hide h
    clear H h
    go_wp2_with fail
    go_ret
    exact ⟨rfl, H1.out.tail.grow ((Fr.refl _ _).alloc _)⟩
  have dt0 : decide ((100 : Int) < (n : Int)) = false := decide_eq_false (by omega)
  go_enter Try.func10, Try.ntmps10
  go_wp2_with fail
  refine (awakeC_st _ H.out).mono ?_
  rintro e w1 ⟨rfl, h⟩
  have H1 := hide (h.newCache.nilT 62 3 PutR)
  clear H h
  go_wp2_with fail
  generalize w1.heap.size = g at *
  clear dt0
  go_loopg [7, 8] n (fun gh wv iv wr => ∃ (k : Nat) (C : Option Addr) (q d : Nat), gh = n - k ∧ k ≤ n ∧ wv = .slice C q d ∧ iv = .int .i64 (k : Nat) ∧ St M0 wr (growT 62 3 PutR (.slice C q d) (runW r (l.take k)).2 :: cacheR g (runW r (l.take k)).1.1 (runW r (l.take k)).1.2 :: rowsR 5 OpR (.slice A n c) l :: L))
  case atStart => exact ⟨0, none, 0, 0, rfl, by omega, rfl, rfl, H1.out⟩
  case round =>
    clear H1
    obtain ⟨k, C, q, d, hg, hk, rfl, rfl, h⟩ := hrel
    have HG := hide hg
    clear hg
    by_cases hlt : k < n
    · have hx := List.getElem?_eq_getElem (l := l) (i := k) (by rw [HN.out]; exact hlt)
      generalize l[k]'(by rw [HN.out]; exact hlt) = x at hx
      have hbx := HB.out x (List.mem_of_getElem? hx)
      have hinv := runW_inv r (l.take k) (fun y hy => HB.out y (List.mem_of_mem_take hy))
      rw [List.length_take] at hinv
      have HWF := hide hinv.w
      have HI := hide (hinv.c.le (Nat.min_le_left k l.length))
      have HS := hide (runW_snoc (r := r) hx)
      have HQT := hide (show q = (runW r (l.take k)).2.length by
        obtain ⟨C0, q0, d0, vs, e9, hq0, _⟩ := h.openT
        injection e9 with _ e10 _
        exact e10.trans hq0)
      have HQD := hide (show q ≤ d ∧ d ≤ 9223372036854775807 ∧ (C = none → d = 0) by
        obtain ⟨C0, q0, d0, vs, e9, hq0, h1, h2, h3, _⟩ := h.openT
        injection e9 with e9 e10 e11
        subst e9; subst e10; subst e11
        exact ⟨h1, h2, h3⟩)
      obtain ⟨ad, B1, d1, rfl, h1⟩ := h.opE 2 rfl hx
      generalize runW r (l.take k) = m at *
      have HIW := hide (show m.2.length ≤ 100 by
        rw [← HWF.out]
        have h8 := List.length_filter_le (inReg r) m.1.2
        have h9 := HI.out.wl
        omega)
      have HBX := hide hbx
      obtain ⟨e0, e1, e2, e3, e4⟩ := (h1.get 0 rfl).1
      have h2 := (h1.pers1 (R' := fun w' => Ints w' .u8 (.slice B1 x.b.length d1) x.b) (fun w' hw => hw.2)).alloc 99 #[.int .i64 x.d, .int .i64 x.r, .int .i64 x.i, .int .i64 x.n, .slice B1 x.b.length d1]
      have h3 := h2.alloc 59 #[.int .i64 x.r, .int .i64 x.i]
      rw [World.size_alloc] at h3
      generalize hz : wr.heap.size = z at h3
      generalize hy : z + 1 = y at h3
      have x0 := (h3.blk 1 rfl).cell 0
      have x1 := (h3.blk 1 rfl).cell 1
      have x2 := (h3.blk 1 rfl).cell 2
      have x3 := (h3.blk 1 rfl).cell 3
      have x4 := (h3.blk 1 rfl).cell 4
      have y0 := (h3.blk 0 rfl).cell 0
      have y1 := (h3.blk 0 rfl).cell 1
      have H1 := hide h3
      clear hx hbx hinv h h1 h2 h3
      have i0 : (0 : Int) ≤ (k : Int) := by omega
      have i1 : (k : Int) < (n : Int) := by omega
      have i2 : (n : Int) ≤ (c : Int) := by omega
      by_cases c2 : x.d = 2
      · have b2 : (x.d == 2) = true := isT c2
        obtain ⟨s2, hs2⟩ : ∃ s2, s2 = (fillB m.1.1 m.1.2 x.put, m.1.2) := ⟨_, rfl⟩
        have ES := hide (show stepB r m.1 x = s2 by rw [hs2]; unfold stepB; simp [c2])
        have EL := hide (show wantB r m.1 m.2 x = m.2 by unfold wantB; rw [if_neg (fun e => by omega), if_neg (fun e => by omega)])
        clear c2
        have HIN := hide ((H1.out.copy 2 rfl).pick (L' := intsR .u8 (.slice B1 x.b.length d1) x.b :: cacheR g m.1.1 m.1.2 :: blkR y 59 #[.int .i64 x.r, .int .i64 x.i] :: blkR z 99 #[.int .i64 x.d, .int .i64 x.r, .int .i64 x.i, .int .i64 x.n, .slice B1 x.b.length d1] :: intsR .u8 (.slice B1 x.b.length d1) x.b :: growT 62 3 PutR (.slice C q d) m.2 :: rowsR 5 OpR (.slice (some ad) n c) l :: L) 7 [0, 5, 1, 2, 3, 4, 6])
        go_wp2_with fail
        refine (fill_st g m.1.1 m.1.2 x.r x.i B1 x.b.length d1 x.b _ HI.out.bl' HBX.out HIN.out).mono ?_
        rintro e w5 ⟨rfl, h4⟩
        have H4 := h4.pick (L' := blkR y 59 #[.int .i64 x.r, .int .i64 x.i] :: blkR z 99 #[.int .i64 x.d, .int .i64 x.r, .int .i64 x.i, .int .i64 x.n, .slice B1 x.b.length d1] :: intsR .u8 (.slice B1 x.b.length d1) x.b :: growT 62 3 PutR (.slice C q d) m.2 :: cacheR g (fillB m.1.1 m.1.2 x.put) m.1.2 :: rowsR 5 OpR (.slice (some ad) n c) l :: L) 6 [1, 2, 3, 4, 0, 5]
        have H4 : St M0 w5 (blkR y 59 #[.int .i64 x.r, .int .i64 x.i] :: blkR z 99 #[.int .i64 x.d, .int .i64 x.r, .int .i64 x.i, .int .i64 x.n, .slice B1 x.b.length d1] :: intsR .u8 (.slice B1 x.b.length d1) x.b :: growT 62 3 PutR (.slice C q d) m.2 :: cacheR g s2.1 s2.2 :: rowsR 5 OpR (.slice (some ad) n c) l :: L) := by rw [hs2]; exact H4
        clear HIN hs2
        have H5 : Hid (St M0 w5 (blkR y 59 #[.int .i64 x.r, .int .i64 x.i] :: blkR z 99 #[.int .i64 x.d, .int .i64 x.r, .int .i64 x.i, .int .i64 x.n, .slice B1 x.b.length d1] :: intsR .u8 (.slice B1 x.b.length d1) x.b :: growT 62 3 PutR (.slice C q d) m.2 :: cacheR g s2.1 s2.2 :: rowsR 5 OpR (.slice (some ad) n c) l :: L)) := hide H4
        clear H4 H1 x0 x1 x2 x3 x4 y0 y1
        have x0 := (H5.out.blk 1 rfl).cell 0
        have x1 := (H5.out.blk 1 rfl).cell 1
        have x3 := (H5.out.blk 1 rfl).cell 3
        have x4 := (H5.out.blk 1 rfl).cell 4
        have y0 := (H5.out.blk 0 rfl).cell 0
        have y1 := (H5.out.blk 0 rfl).cell 1
        have H7 := hide (H5.out.pick (L' := growT 62 3 PutR (.slice C q d) m.2 :: cacheR g s2.1 s2.2 :: rowsR 5 OpR (.slice (some ad) n c) l :: L) 6 [3, 4, 5])
        clear H5
        go_wp2_with fail
        go_roundg (n - (k + 1))
        case measure => have := HG.out; omega
        case rel => exact ⟨k + 1, C, q, d, rfl, by omega, rfl, by go_num, by
          rw [HS.out]
          show St M0 _ (growT 62 3 PutR _ (wantB r m.1 m.2 x) :: cacheR g (stepB r m.1 x).1 (stepB r m.1 x).2 :: _)
          rw [EL.out, ES.out]
          exact H7.out⟩
      have b2 : (x.d == 2) = false := isF c2
      by_cases c3 : x.d = 3
      · have b3 : (x.d == 3) = true := isT c3
        obtain ⟨s2, hs2⟩ : ∃ s2, s2 = (wrB m.1.1 m.1.2 x.put, wrW m.1.1 m.1.2 x.put) := ⟨_, rfl⟩
        have ES := hide (show stepB r m.1 x = s2 by rw [hs2]; unfold stepB; simp [c3])
        have ELY := hide (show wrE m.1.1 m.1.2 ⟨x.r, x.i, x.b⟩ = 0 → x.r = r → wantB r m.1 m.2 x = m.2 ++ [x.put] from fun h1 h2 => if_pos ⟨c3, h1, h2⟩)
        have ELN := hide (show ¬ (wrE m.1.1 m.1.2 ⟨x.r, x.i, x.b⟩ = 0 ∧ x.r = r) → wantB r m.1 m.2 x = m.2 from fun hn => by unfold wantB; rw [if_neg (fun e => hn e.2), if_neg (fun e => by omega)])
        clear c2 c3
        have HIN := hide ((H1.out.copy 2 rfl).pick (L' := intsR .u8 (.slice B1 x.b.length d1) x.b :: cacheR g m.1.1 m.1.2 :: blkR y 59 #[.int .i64 x.r, .int .i64 x.i] :: blkR z 99 #[.int .i64 x.d, .int .i64 x.r, .int .i64 x.i, .int .i64 x.n, .slice B1 x.b.length d1] :: intsR .u8 (.slice B1 x.b.length d1) x.b :: growT 62 3 PutR (.slice C q d) m.2 :: rowsR 5 OpR (.slice (some ad) n c) l :: L) 7 [0, 5, 1, 2, 3, 4, 6])
        go_wp2_with fail
        refine (write_st g m.1.1 m.1.2 x.r x.i B1 x.b.length d1 x.b _ HI.out.bl' (HI.out.wl' (by omega)) HI.out.wd' HIN.out).mono ?_
        rintro e w5 ⟨rfl, h4⟩
        have H4 := h4.pick (L' := blkR y 59 #[.int .i64 x.r, .int .i64 x.i] :: blkR z 99 #[.int .i64 x.d, .int .i64 x.r, .int .i64 x.i, .int .i64 x.n, .slice B1 x.b.length d1] :: intsR .u8 (.slice B1 x.b.length d1) x.b :: growT 62 3 PutR (.slice C q d) m.2 :: cacheR g (wrB m.1.1 m.1.2 x.put) (wrW m.1.1 m.1.2 x.put) :: rowsR 5 OpR (.slice (some ad) n c) l :: L) 6 [1, 2, 3, 4, 0, 5]
        have H4 : St M0 w5 (blkR y 59 #[.int .i64 x.r, .int .i64 x.i] :: blkR z 99 #[.int .i64 x.d, .int .i64 x.r, .int .i64 x.i, .int .i64 x.n, .slice B1 x.b.length d1] :: intsR .u8 (.slice B1 x.b.length d1) x.b :: growT 62 3 PutR (.slice C q d) m.2 :: cacheR g s2.1 s2.2 :: rowsR 5 OpR (.slice (some ad) n c) l :: L) := by rw [hs2]; exact H4
        clear HIN hs2
        have H5 : Hid (St M0 w5 (blkR y 59 #[.int .i64 x.r, .int .i64 x.i] :: blkR z 99 #[.int .i64 x.d, .int .i64 x.r, .int .i64 x.i, .int .i64 x.n, .slice B1 x.b.length d1] :: intsR .u8 (.slice B1 x.b.length d1) x.b :: growT 62 3 PutR (.slice C q d) m.2 :: cacheR g s2.1 s2.2 :: rowsR 5 OpR (.slice (some ad) n c) l :: L)) := hide H4
        clear H4 H1 x0 x1 x2 x3 x4 y0 y1
        have x0 := (H5.out.blk 1 rfl).cell 0
        have x1 := (H5.out.blk 1 rfl).cell 1
        have x3 := (H5.out.blk 1 rfl).cell 3
        have x4 := (H5.out.blk 1 rfl).cell 4
        have y0 := (H5.out.blk 0 rfl).cell 0
        have y1 := (H5.out.blk 0 rfl).cell 1
        generalize wrE m.1.1 m.1.2 ⟨x.r, x.i, x.b⟩ = ee at ELY ELN ⊢
        by_cases ce : ee = 0
        · subst ce
          by_cases cr : x.r = r
          · have br : (x.r == r) = true := isT cr
            have EL := hide (ELY.out rfl cr)
            clear cr ELY ELN
            have h6 := (H5.out.alloc 62 #[.int .i64 x.r, .int .i64 x.i, .slice B1 x.b.length d1]).pick (L' := growT 62 3 PutR (.slice C q d) m.2 :: blkR w5.heap.size 62 #[.int .i64 x.r, .int .i64 x.i, .slice B1 x.b.length d1] :: intsR .u8 (.slice B1 x.b.length d1) x.b :: cacheR g s2.1 s2.2 :: rowsR 5 OpR (.slice (some ad) n c) l :: L) 7 [4, 0, 3, 5, 6]
            obtain ⟨C0, q0, d0, vs, e9, hq0, _, _, _, hvl, h7⟩ := h6.openT
            injection e9 with e9 e10 e11
            subst e9; subst e10; subst e11
            have H7 := hide h7
            have HVL := hide hvl
            have HQ0 := hide hq0
            have hq100 : q ≤ 100 := by
              have := HIW.out
              rw [hq0]
              exact this
            clear h6 h7 hvl hq0 H5
            go_wp2_with (at_builtin; refine St.tail_step put_elem H7.out HVL.out rfl _ _ rfl rfl ⟨w5.heap.size, 0, none⟩ 1 1 rfl [.int .i64 x.r, .int .i64 x.i, .slice B1 x.b.length d1] rfl (by omega) (blk_cells (cs := [.int .i64 x.r, .int .i64 x.i, .slice B1 x.b.length d1]) (H7.out.blk 2 rfl)) (put_one _ _ _ _ _) (by omega) (by omega) ?_; intro C9 d9 w9 h9)
            have h10 := h9.pick (L' := tailR 62 3 (.slice C9 (q + 1) d9) (q + 1) (vs ++ [.int .i64 x.r, .int .i64 x.i, .slice B1 x.b.length d1]) :: persR (fun w => ∀ (i : Nat) p, m.2[i]? = some p → PutR w ((vs.drop (i * 3)).take 3) p) :: intsR .u8 (.slice B1 x.b.length d1) x.b :: cacheR g s2.1 s2.2 :: rowsR 5 OpR (.slice (some ad) n c) l :: L) 6 [0, 1, 3, 4, 5]
            have h11 := ((h10.up2.pers1 (R' := fun w' => PutR w' [.int .i64 x.r, .int .i64 x.i, .slice B1 x.b.length d1] x.put) (fun w' hi => ⟨_, rfl, hi⟩)).dn2).snocT HQ0.out rfl HVL.out
            have H11 := hide h11
            clear h9 h10 h11 H7
            go_roundg (n - (k + 1))
            case measure => have := HG.out; omega
            case rel => exact ⟨k + 1, C9, q + 1, d9, rfl, by omega, rfl, by go_num, by
              rw [HS.out]
              show St M0 _ (growT 62 3 PutR _ (wantB r m.1 m.2 x) :: cacheR g (stepB r m.1 x).1 (stepB r m.1 x).2 :: _)
              rw [EL.out, ES.out]
              exact H11.out⟩
          · have br : (x.r == r) = false := isF cr
            have EL := hide (ELN.out (fun h => cr h.2))
            clear cr ELY ELN
            have H7 := hide (H5.out.pick (L' := growT 62 3 PutR (.slice C q d) m.2 :: cacheR g s2.1 s2.2 :: rowsR 5 OpR (.slice (some ad) n c) l :: L) 6 [3, 4, 5])
            clear H5
            go_wp2_with fail
            go_roundg (n - (k + 1))
            case measure => have := HG.out; omega
            case rel => exact ⟨k + 1, C, q, d, rfl, by omega, rfl, by go_num, by
              rw [HS.out]
              show St M0 _ (growT 62 3 PutR _ (wantB r m.1 m.2 x) :: cacheR g (stepB r m.1 x).1 (stepB r m.1 x).2 :: _)
              rw [EL.out, ES.out]
              exact H7.out⟩
        · have be : (ee == 0) = false := isF ce
          have EL := hide (ELN.out (fun h => ce h.1))
          clear ce ELY ELN
          have H7 := hide (H5.out.pick (L' := growT 62 3 PutR (.slice C q d) m.2 :: cacheR g s2.1 s2.2 :: rowsR 5 OpR (.slice (some ad) n c) l :: L) 6 [3, 4, 5])
          clear H5
          go_wp2_with fail
          go_roundg (n - (k + 1))
          case measure => have := HG.out; omega
          case rel => exact ⟨k + 1, C, q, d, rfl, by omega, rfl, by go_num, by
            rw [HS.out]
            show St M0 _ (growT 62 3 PutR _ (wantB r m.1 m.2 x) :: cacheR g (stepB r m.1 x).1 (stepB r m.1 x).2 :: _)
            rw [EL.out, ES.out]
            exact H7.out⟩
      have b3 : (x.d == 3) = false := isF c3
      by_cases c4 : x.d = 4
      · have b4 : (x.d == 4) = true := isT c4
        obtain ⟨s2, hs2⟩ : ∃ s2, s2 = (m.1.1, flW m.1.2 x.r x.n) := ⟨_, rfl⟩
        have ES := hide (show stepB r m.1 x = s2 by rw [hs2]; unfold stepB; simp [c4])
        have ELY := hide (show flE m.1.2 x.r x.n = 0 → x.r = r → wantB r m.1 m.2 x = m.2.drop x.n.toNat from fun h1 h2 => by unfold wantB; rw [if_neg (fun e => by omega), if_pos ⟨c4, h1, h2⟩])
        have ELN := hide (show ¬ (flE m.1.2 x.r x.n = 0 ∧ x.r = r) → wantB r m.1 m.2 x = m.2 from fun hn => by unfold wantB; rw [if_neg (fun e => by omega), if_neg (fun e => hn e.2)])
        clear c2 c3 c4
        have HIN := hide (H1.out.pick (L' := cacheR g m.1.1 m.1.2 :: blkR y 59 #[.int .i64 x.r, .int .i64 x.i] :: blkR z 99 #[.int .i64 x.d, .int .i64 x.r, .int .i64 x.i, .int .i64 x.n, .slice B1 x.b.length d1] :: intsR .u8 (.slice B1 x.b.length d1) x.b :: growT 62 3 PutR (.slice C q d) m.2 :: rowsR 5 OpR (.slice (some ad) n c) l :: L) 6 [4, 0, 1, 2, 3, 5])
        go_wp2_with fail
        refine (flushed_st g m.1.1 m.1.2 x.r x.n _ (HI.out.wl' (by omega)) HI.out.wd' HIN.out).mono ?_
        rintro e w5 ⟨rfl, h4⟩
        have H4 := h4.pick (L' := blkR y 59 #[.int .i64 x.r, .int .i64 x.i] :: blkR z 99 #[.int .i64 x.d, .int .i64 x.r, .int .i64 x.i, .int .i64 x.n, .slice B1 x.b.length d1] :: intsR .u8 (.slice B1 x.b.length d1) x.b :: growT 62 3 PutR (.slice C q d) m.2 :: cacheR g m.1.1 (flW m.1.2 x.r x.n) :: rowsR 5 OpR (.slice (some ad) n c) l :: L) 6 [1, 2, 3, 4, 0, 5]
        have H4 : St M0 w5 (blkR y 59 #[.int .i64 x.r, .int .i64 x.i] :: blkR z 99 #[.int .i64 x.d, .int .i64 x.r, .int .i64 x.i, .int .i64 x.n, .slice B1 x.b.length d1] :: intsR .u8 (.slice B1 x.b.length d1) x.b :: growT 62 3 PutR (.slice C q d) m.2 :: cacheR g s2.1 s2.2 :: rowsR 5 OpR (.slice (some ad) n c) l :: L) := by rw [hs2]; exact H4
        clear HIN hs2
        have H5 : Hid (St M0 w5 (blkR y 59 #[.int .i64 x.r, .int .i64 x.i] :: blkR z 99 #[.int .i64 x.d, .int .i64 x.r, .int .i64 x.i, .int .i64 x.n, .slice B1 x.b.length d1] :: intsR .u8 (.slice B1 x.b.length d1) x.b :: growT 62 3 PutR (.slice C q d) m.2 :: cacheR g s2.1 s2.2 :: rowsR 5 OpR (.slice (some ad) n c) l :: L)) := hide H4
        clear H4 H1 x0 x1 x2 x3 x4 y0 y1
        have x0 := (H5.out.blk 1 rfl).cell 0
        have x1 := (H5.out.blk 1 rfl).cell 1
        have x3 := (H5.out.blk 1 rfl).cell 3
        have x4 := (H5.out.blk 1 rfl).cell 4
        have y0 := (H5.out.blk 0 rfl).cell 0
        have y1 := (H5.out.blk 0 rfl).cell 1
        by_cases hflE : flE m.1.2 x.r x.n = 0
        · by_cases cr : x.r = r
          · have br : (x.r == r) = true := isT cr
            have EL := hide (ELY.out hflE cr)
            have hXn := hide (flE_zero hflE)
            have hn0 : (0 : Int) ≤ x.n := by have := hXn.out; unfold flX at this; omega
            have hnq : x.n ≤ (q : Int) := by
              have h1 := hXn.out
              unfold flX at h1
              rw [cr, HWF.out] at h1
              have h2 := HQT.out
              omega
            obtain ⟨nn, hnn⟩ : ∃ nn : Nat, x.n = (nn : Int) := ⟨x.n.toNat, by omega⟩
            rw [hflE]
            clear cr hflE ELY ELN
            rw [hnn] at x3 hn0 hnq EL
            have HNN := hide hnn
            clear hnn
            have bn0 : decide ((nn : Int) ≥ 0) = true := decide_eq_true (by omega)
            have bn1 : decide ((0 : Int) ≤ (nn : Int)) = true := bn0
            have bn2 : decide ((nn : Int) ≤ (q : Int)) = true := decide_eq_true hnq
            have hqd : (q : Int) ≤ (d : Int) := by have := HQD.out; omega
            have hnd : (nn : Int) ≤ (d : Int) := by omega
            have hd63 : (d : Int) ≤ 9223372036854775807 := by have := HQD.out; omega
            rcases C with _ | cd
            · have hd0 : d = 0 := HQD.out.2.2 rfl
              subst hd0
              obtain rfl : q = 0 := by have := HQD.out.1; omega
              obtain rfl : nn = 0 := by omega
              have H6 := hide (H5.out.pick (L' := growT 62 3 PutR (.slice none 0 0) m.2 :: cacheR g s2.1 s2.2 :: rowsR 5 OpR (.slice (some ad) n c) l :: L) 6 [3, 4, 5])
              clear H5
              go_wp2_with fail
              go_roundg (n - (k + 1))
              case measure => have := HG.out; omega
              case rel => exact ⟨k + 1, none, 0, 0, rfl, by omega, rfl, by go_num, by
                rw [HS.out]
                show St M0 _ (growT 62 3 PutR _ (wantB r m.1 m.2 x) :: cacheR g (stepB r m.1 x).1 (stepB r m.1 x).2 :: _)
                rw [EL.out, ES.out]
                exact H6.out⟩
            · by_cases hdn : d = nn
              · subst hdn
                have h6 := (H5.out.pick (L' := growT 62 3 PutR (.slice (some cd) q d) m.2 :: cacheR g s2.1 s2.2 :: rowsR 5 OpR (.slice (some ad) n c) l :: L) 6 [3, 4, 5]).cutT (k := d) (by omega) (some cd) (fun g o _ => by rw [if_pos rfl])
                rw [Nat.sub_self] at h6
                have H6 := hide h6
                clear H5 h6
                go_wp2_with fail
                go_roundg (n - (k + 1))
                case measure => have := HG.out; omega
                case rel => exact ⟨k + 1, some cd, q - d, 0, rfl, by omega, rfl, by go_num, by
                  rw [HS.out]
                  show St M0 _ (growT 62 3 PutR _ (wantB r m.1 m.2 x) :: cacheR g (stepB r m.1 x).1 (stepB r m.1 x).2 :: _)
                  rw [EL.out, ES.out]
                  exact H6.out⟩
              · have h6 := (H5.out.pick (L' := growT 62 3 PutR (.slice (some cd) q d) m.2 :: cacheR g s2.1 s2.2 :: rowsR 5 OpR (.slice (some ad) n c) l :: L) 6 [3, 4, 5]).cutT (k := nn) (by omega) (some (cd.add (nn * 3))) (fun g o e => by
                  rw [if_neg hdn]
                  injection e with e
                  rw [e]
                  simp [Addr.add])
                have H6 := hide h6
                clear H5 h6
                go_wp2_with fail
                go_roundg (n - (k + 1))
                case measure => have := HG.out; omega
                case rel => exact ⟨k + 1, some (cd.add (nn * 3)), q - nn, d - nn, rfl, by omega, rfl, by go_num, by
                  rw [HS.out]
                  show St M0 _ (growT 62 3 PutR _ (wantB r m.1 m.2 x) :: cacheR g (stepB r m.1 x).1 (stepB r m.1 x).2 :: _)
                  rw [EL.out, ES.out]
                  exact H6.out⟩
          · have br : (x.r == r) = false := isF cr
            have EL := hide (ELN.out (fun h => cr h.2))
            rw [hflE]
            clear cr hflE ELY ELN
            have H7 := hide (H5.out.pick (L' := growT 62 3 PutR (.slice C q d) m.2 :: cacheR g s2.1 s2.2 :: rowsR 5 OpR (.slice (some ad) n c) l :: L) 6 [3, 4, 5])
            clear H5
            go_wp2_with fail
            go_roundg (n - (k + 1))
            case measure => have := HG.out; omega
            case rel => exact ⟨k + 1, C, q, d, rfl, by omega, rfl, by go_num, by
              rw [HS.out]
              show St M0 _ (growT 62 3 PutR _ (wantB r m.1 m.2 x) :: cacheR g (stepB r m.1 x).1 (stepB r m.1 x).2 :: _)
              rw [EL.out, ES.out]
              exact H7.out⟩
        · have EL := hide (ELN.out (fun h => hflE h.1))
          generalize flE m.1.2 x.r x.n = ee at hflE ⊢
          have be : (ee == 0) = false := isF hflE
          clear hflE ELY ELN
          have H7 := hide (H5.out.pick (L' := growT 62 3 PutR (.slice C q d) m.2 :: cacheR g s2.1 s2.2 :: rowsR 5 OpR (.slice (some ad) n c) l :: L) 6 [3, 4, 5])
          clear H5
          go_wp2_with fail
          go_roundg (n - (k + 1))
          case measure => have := HG.out; omega
          case rel => exact ⟨k + 1, C, q, d, rfl, by omega, rfl, by go_num, by
            rw [HS.out]
            show St M0 _ (growT 62 3 PutR _ (wantB r m.1 m.2 x) :: cacheR g (stepB r m.1 x).1 (stepB r m.1 x).2 :: _)
            rw [EL.out, ES.out]
            exact H7.out⟩
      have b4 : (x.d == 4) = false := isF c4
      by_cases c5 : x.d = 5
      · by_cases cr5 : x.r = r
        · have b5 : (x.d == 5) = true := isT c5
          have br : (x.r != r) = false := by simp [cr5]
          have ES := hide (show stepB r m.1 x = m.1 by unfold stepB; simp [c5, cr5])
          have EL := hide (show wantB r m.1 m.2 x = m.2 by unfold wantB; rw [if_neg (fun e => by omega), if_neg (fun e => by omega)])
          clear cr5
          clear c2 c3 c4 c5
          have H7 := hide (H1.out.pick (L' := growT 62 3 PutR (.slice C q d) m.2 :: cacheR g m.1.1 m.1.2 :: rowsR 5 OpR (.slice (some ad) n c) l :: L) 6 [3, 4, 5])
          clear H1
          go_wp2_with fail
          go_roundg (n - (k + 1))
          case measure => have := HG.out; omega
          case rel => exact ⟨k + 1, C, q, d, rfl, by omega, rfl, by go_num, by
            rw [HS.out]
            show St M0 _ (growT 62 3 PutR _ (wantB r m.1 m.2 x) :: cacheR g (stepB r m.1 x).1 (stepB r m.1 x).2 :: _)
            rw [EL.out, ES.out]
            exact H7.out⟩
        · have br : (x.r != r) = true := by simp [cr5]
          have b5 : (x.d == 5) = true := isT c5
          obtain ⟨s2, hs2⟩ : ∃ s2, s2 = (m.1.1.filter (fun y => !inReg x.r y), m.1.2.filter (fun y => !inReg x.r y)) := ⟨_, rfl⟩
          have ES := hide (show stepB r m.1 x = s2 by rw [hs2]; unfold stepB; simp [c5, cr5])
          have EL := hide (show wantB r m.1 m.2 x = m.2 by unfold wantB; rw [if_neg (fun e => by omega), if_neg (fun e => by omega)])
          clear c2 c3 c4 c5 cr5
          have HIN := hide (H1.out.pick (L' := cacheR g m.1.1 m.1.2 :: blkR y 59 #[.int .i64 x.r, .int .i64 x.i] :: blkR z 99 #[.int .i64 x.d, .int .i64 x.r, .int .i64 x.i, .int .i64 x.n, .slice B1 x.b.length d1] :: intsR .u8 (.slice B1 x.b.length d1) x.b :: growT 62 3 PutR (.slice C q d) m.2 :: rowsR 5 OpR (.slice (some ad) n c) l :: L) 6 [4, 0, 1, 2, 3, 5])
          go_wp2_with fail
          refine (drop_st g m.1.1 m.1.2 x.r _ (HI.out.wl' (by omega)) HI.out.wd' HIN.out).mono ?_
          rintro e w5 ⟨v5, rfl, h4⟩
          have H4 := h4.pick (L' := blkR y 59 #[.int .i64 x.r, .int .i64 x.i] :: blkR z 99 #[.int .i64 x.d, .int .i64 x.r, .int .i64 x.i, .int .i64 x.n, .slice B1 x.b.length d1] :: intsR .u8 (.slice B1 x.b.length d1) x.b :: growT 62 3 PutR (.slice C q d) m.2 :: cacheR g (m.1.1.filter (fun y => !inReg x.r y)) (m.1.2.filter (fun y => !inReg x.r y)) :: rowsR 5 OpR (.slice (some ad) n c) l :: L) 7 [2, 3, 4, 5, 1, 6]
          have H4 : St M0 w5 (blkR y 59 #[.int .i64 x.r, .int .i64 x.i] :: blkR z 99 #[.int .i64 x.d, .int .i64 x.r, .int .i64 x.i, .int .i64 x.n, .slice B1 x.b.length d1] :: intsR .u8 (.slice B1 x.b.length d1) x.b :: growT 62 3 PutR (.slice C q d) m.2 :: cacheR g s2.1 s2.2 :: rowsR 5 OpR (.slice (some ad) n c) l :: L) := by rw [hs2]; exact H4
          clear HIN hs2
          have H5 : Hid (St M0 w5 (blkR y 59 #[.int .i64 x.r, .int .i64 x.i] :: blkR z 99 #[.int .i64 x.d, .int .i64 x.r, .int .i64 x.i, .int .i64 x.n, .slice B1 x.b.length d1] :: intsR .u8 (.slice B1 x.b.length d1) x.b :: growT 62 3 PutR (.slice C q d) m.2 :: cacheR g s2.1 s2.2 :: rowsR 5 OpR (.slice (some ad) n c) l :: L)) := hide H4
          clear H4 H1 x0 x1 x2 x3 x4 y0 y1
          have x0 := (H5.out.blk 1 rfl).cell 0
          have x1 := (H5.out.blk 1 rfl).cell 1
          have x3 := (H5.out.blk 1 rfl).cell 3
          have x4 := (H5.out.blk 1 rfl).cell 4
          have y0 := (H5.out.blk 0 rfl).cell 0
          have y1 := (H5.out.blk 0 rfl).cell 1
          have H7 := hide (H5.out.pick (L' := growT 62 3 PutR (.slice C q d) m.2 :: cacheR g s2.1 s2.2 :: rowsR 5 OpR (.slice (some ad) n c) l :: L) 6 [3, 4, 5])
          clear H5
          go_wp2_with fail
          go_roundg (n - (k + 1))
          case measure => have := HG.out; omega
          case rel => exact ⟨k + 1, C, q, d, rfl, by omega, rfl, by go_num, by
            rw [HS.out]
            show St M0 _ (growT 62 3 PutR _ (wantB r m.1 m.2 x) :: cacheR g (stepB r m.1 x).1 (stepB r m.1 x).2 :: _)
            rw [EL.out, ES.out]
            exact H7.out⟩
      have b5 : (x.d == 5) = false := isF c5
      have ES := hide (show stepB r m.1 x = m.1 by unfold stepB; simp [c2, c3, c4, c5])
      have EL := hide (show wantB r m.1 m.2 x = m.2 by unfold wantB; rw [if_neg (fun e => by omega), if_neg (fun e => by omega)])
      clear c2 c3 c4 c5
      have H7 := hide (H1.out.pick (L' := growT 62 3 PutR (.slice C q d) m.2 :: cacheR g m.1.1 m.1.2 :: rowsR 5 OpR (.slice (some ad) n c) l :: L) 6 [3, 4, 5])
      clear H1
      go_wp2_with fail
      go_roundg (n - (k + 1))
      case measure => have := HG.out; omega
      case rel => exact ⟨k + 1, C, q, d, rfl, by omega, rfl, by go_num, by
        rw [HS.out]
        show St M0 _ (growT 62 3 PutR _ (wantB r m.1 m.2 x) :: cacheR g (stepB r m.1 x).1 (stepB r m.1 x).2 :: _)
        rw [EL.out, ES.out]
        exact H7.out⟩
    · obtain rfl : k = n := by omega
      have hinv := runW_inv r l HB.out
      rw [List.take_of_length_le (by rw [HN.out]; exact Nat.le_refl _)] at h
      rw [HN.out] at hinv
      generalize runW r l = m at *
      have HI := hide hinv.c
      have HWF := hide hinv.w
      have hqm : q = m.2.length := by
        obtain ⟨C0, q0, d0, vs, e9, hq0, _⟩ := h.openT
        injection e9 with _ e10 _
        exact e10.trans hq0
      obtain ⟨hqd, hd63⟩ : q ≤ d ∧ d ≤ 9223372036854775807 := by
        obtain ⟨C0, q0, d0, vs, e9, hq0, h1, h2, _⟩ := h.openT
        injection e9 with e9 e10 e11
        subst e9; subst e10; subst e11
        exact ⟨h1, h2⟩
      have HQM := hide hqm
      have H := hide (h.rowsT.pick (L' := cacheR g m.1.1 m.1.2 :: rowsR 3 PutR (.slice C q d) m.2 :: rowsR 5 OpR (.slice A k c) l :: L) 3 [1, 0, 2])
      clear h hinv hqm
      go_wp2_with fail
      refine (dirtyL_st g m.1.1 m.1.2 r _ (HI.out.wl' (by omega)) HI.out.wd' H.out).mono ?_
      rintro e w2 ⟨v2, rfl, h2⟩
      rw [HWF.out] at h2
      obtain ⟨A7, c7, rfl, hc7, hm7⟩ := h2.growLen
      rw [← HQM.out] at hc7 h2 ⊢
      have hcm : c7 ≤ 9223372036854775807 := by unfold maxLen at hm7; omega
      have H2 := hide h2.rowsGrow
      clear h2 H hm7
      go_wp2_with fail
      go_loopg [14] q (fun gh iv wq => ∃ j, gh = q - j ∧ j ≤ q ∧ iv = .int .i64 (j : Nat) ∧ St M0 wq (rowsR 3 PutR (.slice A7 q c7) m.2 :: cacheR g m.1.1 m.1.2 :: rowsR 3 PutR (.slice C q d) m.2 :: rowsR 5 OpR (.slice A k c) l :: L))
      case atStart => exact ⟨0, rfl, by omega, rfl, H2.out⟩
      case round =>
        clear H2
        obtain ⟨j, hgj, hjq, rfl, hj⟩ := hrel
        have HGJ := hide hgj
        have HJ := hide hj
        clear hgj
        by_cases hlj : j < q
        · have hxj := List.getElem?_eq_getElem (l := m.2) (i := j) (by rw [← HQM.out]; exact hlj)
          generalize m.2[j]'(by rw [← HQM.out]; exact hlj) = x at hxj
          obtain ⟨ad7, cs7, rfl, _, hcs7, ⟨v7, rfl, hv7⟩, _⟩ := hj.elem 0 rfl hxj
          obtain ⟨ad8, cs8, rfl, _, hcs8, ⟨v8, rfl, hv8⟩, _⟩ := hj.elem 2 rfl hxj
          obtain ⟨f0, f1, f2⟩ := cells3 hcs7
          obtain ⟨g0, g1, g2⟩ := cells3 hcs8
          obtain ⟨B7, d7, rfl, _, _, _⟩ := id hv7
          obtain ⟨B8, d8, rfl, _, _, _⟩ := id hv8
          have HI1 := hide (fun n => hv7.non ((Fr.refl Non wr).drewN n))
          have HI2 := hide (fun n => hv8.non ((Fr.refl Non wr).drewN n))
          have j0 : (0 : Int) ≤ (j : Int) := by omega
          have j1 : (j : Int) < (q : Int) := by omega
          clear hxj hcs7 hcs8 hv7 hv8 hj
          go_wp2_with fail
          go_quiet ((go_at_call 31; exact Calls.quiet_of (same_eq _ _ x.data _ (HI1.out _) (HI2.out _))))
          go_wp2_with fail
          go_roundg (q - (j + 1))
          case measure => have := HGJ.out; omega
          case rel => exact ⟨j + 1, rfl, by omega, by go_num, HJ.out.drewN _⟩
        · obtain rfl : j = q := by omega
          have H3 := hide (hj.pick (L' := cacheR g m.1.1 m.1.2 :: L) 4 [1])
          clear hj HJ
          go_wp2_with fail
          refine (drop_st g m.1.1 m.1.2 r _ (HI.out.wl' (by omega)) HI.out.wd' H3.out).mono ?_
          rintro e w4 ⟨v4, rfl, h4⟩
          rw [HWF.out] at h4
          obtain ⟨A4, c4, rfl, _, _⟩ := h4.growLen
          rw [← HQM.out] at h4 ⊢
          have hI2 := hide (HI.out.drop (r := r))
          have H4 := hide h4.tail
          clear h4 H3
          go_wp2_with fail
          refine (dirtyL_st g _ _ r _ (hI2.out.wl' (by omega)) hI2.out.wd' H4.out).mono ?_
          rintro e w5 ⟨v5, rfl, h5⟩
          rw [gone_in] at h5
          obtain ⟨A5, c5, rfl, _, _⟩ := h5.growLen
          have H5 : Hid (St M0 w5 L) := hide h5.tail.tail
          clear h5 H4 hI2
          go_wp2_with fail
          go_ret
          exact ⟨rfl, H5.out⟩
end Go.Proofs.Ytbnjeekhoaapiaa
