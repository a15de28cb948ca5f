/- CacheRoom: the law's walk. -/
import Derived.Test.YtbnjeekhoaapiaaCaM
import Derived.Test.YtbnjeekhoaapiaaCaAw
namespace Go.Proofs.Ytbnjeekhoaapiaa
open Go.RowKit Go.Shelf

def opS (p : Addr) (x : OpC) (v : Value) (W : World) : Prop := W.cell? p = some (.int .i64 x.d) ∧ W.cell? ⟨p.block, p.off + 1, none⟩ = some (.int .i64 x.r) ∧ W.cell? ⟨p.block, p.off + 2, none⟩ = some (.int .i64 x.i) ∧ W.cell? ⟨p.block, p.off + 3, none⟩ = some (.int .i64 x.n) ∧ W.cell? ⟨p.block, p.off + 4, none⟩ = some v
theorem cells5 {w : World} {p : Addr} {a b c d e : Value} (h : ∀ j u, [a, b, c, d, e][j]? = some u → w.cell? (p.add j) = some u) : w.cell? p = some a ∧ w.cell? ⟨p.block, p.off + 1, none⟩ = some b ∧ w.cell? ⟨p.block, p.off + 2, none⟩ = some c ∧ w.cell? ⟨p.block, p.off + 3, none⟩ = some d ∧ w.cell? ⟨p.block, p.off + 4, none⟩ = some e :=
  ⟨by simpa [Addr.add] using h 0 a rfl, by simpa [Addr.add] using h 1 b rfl, by simpa [Addr.add] using h 2 c rfl, by simpa [Addr.add] using h 3 d rfl, by simpa [Addr.add] using h 4 e rfl⟩
def opP (p : Addr) (x : OpC) (v : Value) (W : World) : Prop := opS p x v W ∧ Ints W .u8 v x.b
theorem St.opE {M0 : Imm} {w : World} {L : List Res} {A : Option Addr} {n c : Nat} {l : List OpC} (h : St M0 w L) (i : Nat) (hi : L[i]? = some (rowsR 5 OpR (.slice A n c) l)) {k : Nat} {x : OpC} (hk : l[k]? = some x) :
    ∃ ad B d, A = some ad ∧ St M0 w (persR (opP (ad.add (k * 5)) x (.slice B x.b.length d)) :: L) := by
  obtain ⟨ad, cs, rfl, _, _, ⟨v, rfl, hv⟩, h1⟩ := h.elem i hi hk
  obtain ⟨B, d, rfl, _, _, _⟩ := id hv
  refine ⟨ad, B, d, rfl, h1.pers1 (fun w' hw => ⟨cells5 hw.1, ?_⟩)⟩
  obtain ⟨v', e, hi⟩ := hw.2
  injection e with _ e; injection e with _ e; injection e with _ e; injection e with _ e; injection e with e _
  rw [e]
  exact hi
theorem cells2 {w : World} {p : Addr} {a b : Value} (h : ∀ j u, [a, b][j]? = some u → w.cell? (p.add j) = some u) : w.cell? p = some a ∧ w.cell? ⟨p.block, p.off + 1, none⟩ = some b :=
  ⟨by simpa [Addr.add] using h 0 a rfl, by simpa [Addr.add] using h 1 b rfl⟩
def stepR (s : List PU × List PU) (o : OpC) : List PU × List PU :=
  if o.d = 2 then (fillB s.1 s.2 o.put, s.2) else if o.d = 3 then (wrB s.1 s.2 o.put, wrW s.1 s.2 o.put) else if o.d = 4 then (s.1, flW s.2 o.r o.n) else s
def runR (l : List OpC) : List PU × List PU := l.foldl stepR ([], [])
theorem runR_inv (l : List OpC) (hl : ∀ x ∈ l, x.b.length ≤ 140737488355328) : InvC l.length (runR l).1 (runR l).2 := by
  suffices ∀ (n : Nat) (s : List PU × List PU), InvC n s.1 s.2 → InvC (n + l.length) (l.foldl stepR s).1 (l.foldl stepR s).2 by
    have := this 0 ([], []) InvC.init
    rwa [Nat.zero_add] at this
  induction l with
  | nil => exact fun n s h => h
  | cons x r ih =>
    intro n s h
    have hx := hl x (by simp)
    have h1 : InvC (n + 1) (stepR s x).1 (stepR s x).2 := by
      unfold stepR
      split
      · exact (h.fill hx).le (by omega)
      · split
        · exact h.write
        · split
          · exact (h.flush _).le (by omega)
          · exact h.le (by omega)
    have := ih (fun y hy => hl y (by simp [hy])) (n + 1) _ h1
    rw [List.foldl_cons, List.length_cons]
    rwa [show n + (r.length + 1) = n + 1 + r.length by omega]
theorem runR_snoc {l : List OpC} {k : Nat} {x : OpC} (hx : l[k]? = some x) : runR (l.take (k + 1)) = stepR (runR (l.take k)) x := by
  unfold runR
  rw [List.take_add_one, hx, List.foldl_append]
  rfl
set_option maxHeartbeats 4000000 in
set_option maxRecDepth 100000 in
theorem room_st {M0 : Imm} {L : List Res} (v : Value) (l : List OpC) (w : World) (hb : ∀ x ∈ l, x.b.length ≤ 140737488355328) (h : St M0 w (rowsR 5 OpR v l :: L)) :
    Calls Try.prog 11 #[v] w fun e w' => e = .returned (.bool true) ∧ St M0 w' L := by
  obtain ⟨A, c, rfl, hc, hm⟩ := (h.getRows 0 rfl).slice
  generalize hn : l.length = n at *
  have HN := hide hn
  have HB := hide hb
  have H := hide h
  clear hn h hb
  by_cases t0 : 100 < n
  · have dt0 : decide ((100 : Int) < (n : Int)) = true := decide_eq_true (by omega)
    go_enter Try.func11, Try.ntmps11
    go_wp2_with fail
    refine (awakeC_st _ H.out).mono ?_
    rintro e w1 ⟨rfl, h⟩
    have H1 := hide h
    clear H h
    go_wp2_with fail
    go_ret
    exact ⟨rfl, H1.out.tail.grow ((Fr.refl _ _).alloc _)⟩
  have dt0 : decide ((100 : Int) < (n : Int)) = false := decide_eq_false (by omega)
  go_enter Try.func11, Try.ntmps11
  go_wp2_with fail
  refine (awakeC_st _ H.out).mono ?_
  rintro e w1 ⟨rfl, h⟩
  have H1 := hide h.newCache
  clear H h
  go_wp2_with fail
  generalize w1.heap.size = g at *
  clear dt0
  go_loopg [5] n (fun gh i wr => ∃ k, gh = n - k ∧ k ≤ n ∧ i = .int .i64 (k : Nat) ∧ St M0 wr (cacheR g (runR (l.take k)).1 (runR (l.take k)).2 :: rowsR 5 OpR (.slice A n c) l :: L))
  case atStart => exact ⟨0, rfl, by omega, rfl, H1.out⟩
  case round =>
    clear H1
    obtain ⟨k, hg, hk, rfl, h⟩ := hrel
    have HG := hide hg
    clear hg
    by_cases hlt : k < n
    · have hx := List.getElem?_eq_getElem (l := l) (i := k) (by rw [HN.out]; exact hlt)
      generalize l[k]'(by rw [HN.out]; exact hlt) = x at hx
      have hbx := HB.out x (List.mem_of_getElem? hx)
      have hinv := runR_inv (l.take k) (fun y hy => HB.out y (List.mem_of_mem_take hy))
      have hinv2 := runR_inv (l.take (k + 1)) (fun y hy => HB.out y (List.mem_of_mem_take hy))
      rw [List.length_take] at hinv hinv2
      have hI := hinv.le (Nat.min_le_left _ _)
      have hI2 := hinv2.le (Nat.min_le_left _ _)
      have HS := hide (runR_snoc hx)
      obtain ⟨ad, B1, d1, rfl, h1⟩ := h.opE 1 rfl hx
      generalize hm1 : runR (l.take k) = m at *
      generalize hm2 : runR (l.take (k + 1)) = m2 at *
      have HM2 := hide hm2
      have HI := hide hI
      have HI2 := hide hI2
      have HBX := hide hbx
      have H1 := hide h1
      clear hx hbx hinv hinv2 hI hI2 h h1 hm1 hm2
      have i0 : (0 : Int) ≤ (k : Int) := by omega
      have i1 : (k : Int) < (n : Int) := by omega
      go_wp2_with fail
      refine region_mix (opS (ad.add (k * 5)) x (.slice B1 x.b.length d1)) 12 [0, 1, 2, 3, 4, 5, 6, 7, 8, 9, 10] [11, 12] (by kernel_rfl) (by kernel_rfl) (fun d => by cases d <;> exact fun _ _ _ _ h => h) (fun W hW => ?_)
      have HW := hide (H1.out.drew)
      rw [← hW] at HW
      clear hW H1
      refine ⟨(HW.out.get 0 rfl).1, ?_⟩
      iterate 11 (refine take_run rfl rfl (fun W hW => by (obtain ⟨e0, e1, e2, e3, e4⟩ := hW; go_simp; try rfl)) ?_; (simp only [Act.put, List.setIfInBounds_toArray, List.set_cons_succ, List.set_cons_zero]))
      refine take_nil ?_
      have h2 := HW.out.alloc 59 #[.int .i64 0, .int .i64 0]
      refine seq_run (v := .pointer (some ⟨W.heap.size, 0, none⟩)) (w' := W.alloc (.cells #[.int .i64 0, .int .i64 0] 59)) rfl rfl (by go_simp; try rfl) (fun _ => (h2.get 1 rfl).1) ?_
      (simp only [Act.put, List.setIfInBounds_toArray, List.set_cons_succ, List.set_cons_zero])
      have y0 := (h2.blk 0 rfl).cell 0
      have y1 := (h2.blk 0 rfl).cell 1
      have f := (h2.blk 0 rfl).frozen
      have H2 := hide ((h2.set_ 0 (.int .i64 x.r)).set_ 1 (.int .i64 x.i))
      clear h2 HW
      refine seq_store (w' := ((W.alloc (.cells #[.int .i64 0, .int .i64 0] 59)).setCell ⟨W.heap.size, 0, none⟩ (.int .i64 x.r)).setCell ⟨W.heap.size, 1, none⟩ (.int .i64 x.i)) rfl rfl 59 _ _ (.pointer (some ⟨W.heap.size, 0, none⟩)) (.agg #[.int .i64 x.r, .int .i64 x.i]) rfl rfl rfl (by go_simp; try rfl) (fun h => absurd h (by decide)) ?_
      simp only [Act.put]
      refine seq_nil ?_
      clear y0 y1 f
      generalize W.heap.size = y at H2 ⊢
      generalize World.setCell _ _ _ = w3 at H2 ⊢
      have H3 : Hid (St M0 w3 (blkR y 59 #[.int .i64 x.r, .int .i64 x.i] :: persR (opP (ad.add (k * 5)) x (.slice B1 x.b.length d1)) :: cacheR g m.1 m.2 :: rowsR 5 OpR (.slice (some ad) n c) l :: L)) := H2
      clear H2
      obtain ⟨e0, e1, e2, e3, e4⟩ := (H3.out.get 1 rfl).1
      by_cases c2 : x.d = 2
      case' pos =>
        have b2 : (x.d == 2) = true := isT c2
        have ES := hide (show stepR m x = (fillB m.1 m.2 x.put, m.2) from if_pos c2)
        have HI4 := hide (((H3.out.copy 1 rfl).pers1 (R' := fun w' => Ints w' .u8 (.slice B1 x.b.length d1) x.b) (fun w' hw => hw.2)).pick (L' := intsR .u8 (.slice B1 x.b.length d1) x.b :: cacheR g m.1 m.2 :: blkR y 59 #[.int .i64 x.r, .int .i64 x.i] :: persR (opP (ad.add (k * 5)) x (.slice B1 x.b.length d1)) :: rowsR 5 OpR (.slice (some ad) n c) l :: L) 5 [0, 3, 1, 2, 4])
        clear c2
        go_wp2_with fail
        refine region_mix (fun W => layS y x.r x.i W ∧ opS (ad.add (k * 5)) x (.slice B1 x.b.length d1) W) 8 [0, 1, 2, 3, 4, 5, 6] [7] (by kernel_rfl) (by kernel_rfl) (fun d => by cases d <;> exact fun _ _ _ _ h => h) (fun W4 hW => ?_)
        have HW := hide (HI4.out.drew)
        rw [← hW] at HW
        clear hW HI4 H3 e0 e1 e2 e3 e4
        refine ⟨⟨layS_of HW.out 2 rfl, (HW.out.get 3 rfl).1⟩, ?_⟩
        iterate 7 (refine take_run rfl rfl (fun W hW => by (obtain ⟨⟨y0, y1⟩, e0, e1, e2, e3, e4⟩ := hW; go_simp; try rfl)) ?_; (simp only [Act.put, List.setIfInBounds_toArray, List.set_cons_succ, List.set_cons_zero]))
        refine take_nil ?_
        refine seq_call (f := 42) (args := #[.pointer (some ⟨g, 0, none⟩), .agg #[.int .i64 x.r, .int .i64 x.i], .slice B1 x.b.length d1]) rfl rfl (by go_simp; try rfl) ((fill_st g m.1 m.2 x.r x.i B1 x.b.length d1 x.b W4 HI.out.bl' HBX.out HW.out).mono ?_)
        rintro e w6 ⟨rfl, h6⟩
        refine ⟨_, rfl, fun _ => ⟨layS_of h6 1 rfl, (h6.get 2 rfl).1⟩, ?_⟩
        (simp only [Act.put, List.setIfInBounds_toArray, List.set_cons_succ, List.set_cons_zero])
        refine seq_nil ?_
        have H6 : Hid (St M0 w6 (cacheR g m2.1 m2.2 :: blkR y 59 #[.int .i64 x.r, .int .i64 x.i] :: persR (opP (ad.add (k * 5)) x (.slice B1 x.b.length d1)) :: rowsR 5 OpR (.slice (some ad) n c) l :: L)) := hide (by rw [HS.out, ES.out]; exact h6)
        clear h6 HW ES
      case' neg =>
        have b2 : (x.d == 2) = false := isF c2
        have ES := (show stepR m x = _ from if_neg c2)
        by_cases c3 : x.d = 3
        case' pos =>
          have b3 : (x.d == 3) = true := isT c3
          have ES := hide (ES.trans (if_pos c3))
          have HI4 := hide (((H3.out.copy 1 rfl).pers1 (R' := fun w' => Ints w' .u8 (.slice B1 x.b.length d1) x.b) (fun w' hw => hw.2)).pick (L' := intsR .u8 (.slice B1 x.b.length d1) x.b :: cacheR g m.1 m.2 :: blkR y 59 #[.int .i64 x.r, .int .i64 x.i] :: persR (opP (ad.add (k * 5)) x (.slice B1 x.b.length d1)) :: rowsR 5 OpR (.slice (some ad) n c) l :: L) 5 [0, 3, 1, 2, 4])
          clear c2 c3
          go_wp2_with fail
          refine region_mix (fun W => layS y x.r x.i W ∧ opS (ad.add (k * 5)) x (.slice B1 x.b.length d1) W) 8 [0, 1, 2, 3, 4, 5, 6] [7] (by kernel_rfl) (by kernel_rfl) (fun d => by cases d <;> exact fun _ _ _ _ h => h) (fun W4 hW => ?_)
          have HW := hide (HI4.out.drew)
          rw [← hW] at HW
          clear hW HI4 H3 e0 e1 e2 e3 e4
          refine ⟨⟨layS_of HW.out 2 rfl, (HW.out.get 3 rfl).1⟩, ?_⟩
          iterate 7 (refine take_run rfl rfl (fun W hW => by (obtain ⟨⟨y0, y1⟩, e0, e1, e2, e3, e4⟩ := hW; go_simp; try rfl)) ?_; (simp only [Act.put, List.setIfInBounds_toArray, List.set_cons_succ, List.set_cons_zero]))
          refine take_nil ?_
          refine seq_call (f := 43) (args := #[.pointer (some ⟨g, 0, none⟩), .agg #[.int .i64 x.r, .int .i64 x.i], .slice B1 x.b.length d1]) rfl rfl (by go_simp; try rfl) ((write_st g m.1 m.2 x.r x.i B1 x.b.length d1 x.b W4 HI.out.bl' (HI.out.wl' (by omega)) HI.out.wd' HW.out).mono ?_)
          rintro e w6 ⟨rfl, h6⟩
          refine ⟨_, rfl, fun _ => ⟨layS_of h6 1 rfl, (h6.get 2 rfl).1⟩, ?_⟩
          (simp only [Act.put, List.setIfInBounds_toArray, List.set_cons_succ, List.set_cons_zero])
          refine seq_nil ?_
          have H6 : Hid (St M0 w6 (cacheR g m2.1 m2.2 :: blkR y 59 #[.int .i64 x.r, .int .i64 x.i] :: persR (opP (ad.add (k * 5)) x (.slice B1 x.b.length d1)) :: rowsR 5 OpR (.slice (some ad) n c) l :: L)) := hide (by rw [HS.out, ES.out]; exact h6)
          clear h6 HW ES
        case' neg =>
          have b3 : (x.d == 3) = false := isF c3
          have ES := ES.trans (if_neg c3)
          by_cases c4 : x.d = 4
          case' pos =>
            have b4 : (x.d == 4) = true := isT c4
            have ES := hide (ES.trans (if_pos c4))
            have HI4 := hide (((H3.out.copy 1 rfl).pers1 (R' := fun w' => Ints w' .u8 (.slice B1 x.b.length d1) x.b) (fun w' hw => hw.2)).pick (L' := intsR .u8 (.slice B1 x.b.length d1) x.b :: cacheR g m.1 m.2 :: blkR y 59 #[.int .i64 x.r, .int .i64 x.i] :: persR (opP (ad.add (k * 5)) x (.slice B1 x.b.length d1)) :: rowsR 5 OpR (.slice (some ad) n c) l :: L) 5 [0, 3, 1, 2, 4])
            clear c2 c3 c4
            go_wp2_with fail
            refine region_mix (fun W => layS y x.r x.i W ∧ opS (ad.add (k * 5)) x (.slice B1 x.b.length d1) W) 12 [0, 1, 2, 3, 4, 5, 6, 7, 8, 9, 10] [11] (by kernel_rfl) (by kernel_rfl) (fun d => by cases d <;> exact fun _ _ _ _ h => h) (fun W4 hW => ?_)
            have HW := hide (HI4.out.drew)
            rw [← hW] at HW
            clear hW HI4 H3 e0 e1 e2 e3 e4
            refine ⟨⟨layS_of HW.out 2 rfl, (HW.out.get 3 rfl).1⟩, ?_⟩
            iterate 11 (refine take_run rfl rfl (fun W hW => by (obtain ⟨⟨y0, y1⟩, e0, e1, e2, e3, e4⟩ := hW; go_simp; try rfl)) ?_; (simp only [Act.put, List.setIfInBounds_toArray, List.set_cons_succ, List.set_cons_zero]))
            refine take_nil ?_
            refine seq_call (f := 44) (args := #[.pointer (some ⟨g, 0, none⟩), .int .i64 x.r, .int .i64 x.n]) rfl rfl (by go_simp; try rfl) ((flushed_st g m.1 m.2 x.r x.n W4 (HI.out.wl' (by omega)) HI.out.wd' HW.out.tail).mono ?_)
            rintro e w6 ⟨rfl, h6⟩
            refine ⟨_, rfl, fun _ => ⟨layS_of h6 1 rfl, (h6.get 2 rfl).1⟩, ?_⟩
            (simp only [Act.put, List.setIfInBounds_toArray, List.set_cons_succ, List.set_cons_zero])
            refine seq_nil ?_
            have H6 : Hid (St M0 w6 (cacheR g m2.1 m2.2 :: blkR y 59 #[.int .i64 x.r, .int .i64 x.i] :: persR (opP (ad.add (k * 5)) x (.slice B1 x.b.length d1)) :: rowsR 5 OpR (.slice (some ad) n c) l :: L)) := hide (by rw [HS.out, ES.out]; exact h6)
            clear h6 HW ES
          case' neg =>
            have b4 : (x.d == 4) = false := isF c4
            have ES := ES.trans (if_neg c4)
            have H6 : Hid (St M0 w3 (cacheR g m2.1 m2.2 :: blkR y 59 #[.int .i64 x.r, .int .i64 x.i] :: persR (opP (ad.add (k * 5)) x (.slice B1 x.b.length d1)) :: rowsR 5 OpR (.slice (some ad) n c) l :: L)) := hide (by rw [HS.out, ES]; exact H3.out.pick 3 [2, 0, 1])
            clear H3 ES c2 c3 c4
            go_wp2_with fail
      all_goals
        clear HS HI
        try clear e0 e1 e2 e3 e4
        try clear b2
        try clear b3
        try clear b4
        go_wp2_with fail
        refine (keys_st g m2.1 m2.2 _ HI2.out.bl' H6.out).mono ?_
        rintro e w7 ⟨v7, rfl, h7⟩
        obtain ⟨A7, c7, rfl, hc7, hm7⟩ := h7.growLen
        obtain ⟨q, hq⟩ : ∃ q, q = (m2.1.map keyOf).length := ⟨_, rfl⟩
        rw [← hq] at hc7 h7 ⊢
        have hq6 : q ≤ 6 := by
          rw [hq, List.length_map]
          exact HI2.out.len
        have HQ := hide hq
        have dq : decide ((6 : Int) < (q : Int)) = false := decide_eq_false (by omega)
        have H7 := hide (h7.rowsGrow.pick (L' := rowsR 2 KeyR (.slice A7 q c7) (m2.1.map keyOf) :: cacheR g m2.1 m2.2 :: rowsR 5 OpR (.slice (some ad) n c) l :: L) 5 [0, 1, 4])
        clear h7 H6 hq
        go_wp2_with fail
        go_loopg [8] q (fun gh i wq => ∃ a, gh = q - a ∧ a ≤ q ∧ i = .int .i64 (a : Nat) ∧ St M0 wq (rowsR 2 KeyR (.slice A7 q c7) (m2.1.map keyOf) :: cacheR g m2.1 m2.2 :: rowsR 5 OpR (.slice (some ad) n c) l :: L))
        case atStart => exact ⟨0, rfl, by omega, rfl, H7.out⟩
        case round =>
          clear H7
          obtain ⟨a, hga, haq, rfl, ha⟩ := hrel
          have HGA := hide hga
          have HA := hide ha
          clear hga ha
          by_cases hla : a < q
          · have a0 : (0 : Int) ≤ (a : Int) := by omega
            have a1 : (a : Int) < (q : Int) := by omega
            go_wp2_with fail
            go_loopg [9] a (fun gh i wq => ∃ b, gh = a - b ∧ b ≤ a ∧ i = .int .i64 (b : Nat) ∧ St M0 wq (rowsR 2 KeyR (.slice A7 q c7) (m2.1.map keyOf) :: cacheR g m2.1 m2.2 :: rowsR 5 OpR (.slice (some ad) n c) l :: L))
            case atStart => exact ⟨0, rfl, by omega, rfl, HA.out⟩
            case round =>
              clear HA
              obtain ⟨b, hgb, hba, rfl, hb⟩ := hrel
              have HGB := hide hgb
              have HB2 := hide hb
              clear hgb
              by_cases hlb : b < a
              · have hxa := List.getElem?_eq_getElem (l := m2.1.map keyOf) (i := a) (by rw [← HQ.out]; exact hla)
                have hxb := List.getElem?_eq_getElem (l := m2.1.map keyOf) (i := b) (by rw [← HQ.out]; omega)
                have hne := List.pairwise_iff_getElem.1 HI2.out.nd b a (by rw [← HQ.out]; omega) (by rw [← HQ.out]; exact hla) hlb
                generalize (m2.1.map keyOf)[a]'(by rw [← HQ.out]; exact hla) = ka at hxa hne
                generalize (m2.1.map keyOf)[b]'(by rw [← HQ.out]; omega) = kb at hxb hne
                obtain ⟨ad7, csa, rfl, _, hca, hra, _⟩ := hb.elem 0 rfl hxa
                obtain ⟨ad8, csb, ee, _, hcb, hrb, _⟩ := hb.elem 0 rfl hxb
                injection ee with ee
                subst ee
                obtain rfl : csa = [.int .i64 ka.1, .int .i64 ka.2] := hra
                obtain rfl : csb = [.int .i64 kb.1, .int .i64 kb.2] := hrb
                obtain ⟨f0, f1⟩ := cells2 hca
                obtain ⟨g0, g1⟩ := cells2 hcb
                obtain ⟨ka1, ka2⟩ := ka
                obtain ⟨kb1, kb2⟩ := kb
                have b0 : (0 : Int) ≤ (b : Int) := by omega
                have b1 : (b : Int) < (q : Int) := by omega
                clear hxa hxb hca hcb hb
                by_cases hk1 : ka1 = kb1
                · have hk2 : ¬ ka2 = kb2 := fun h => hne (by rw [hk1, h])
                  have bk1 : (ka1 == kb1) = true := isT hk1
                  have bk2 : (ka2 == kb2) = false := isF hk2
                  clear hne hk1 hk2
                  go_wp2_with fail
                  go_quiet (fail)
                  go_wp2_with fail
                  go_roundg (a - (b + 1))
                  case measure => have := HGB.out; omega
                  case rel => exact ⟨b + 1, rfl, by omega, by go_num, HB2.out.drewN _⟩
                · have bk1 : (ka1 == kb1) = false := isF hk1
                  clear hne hk1
                  go_wp2_with fail
                  go_quiet (fail)
                  go_wp2_with fail
                  go_roundg (a - (b + 1))
                  case measure => have := HGB.out; omega
                  case rel => exact ⟨b + 1, rfl, by omega, by go_num, HB2.out.drewN _⟩
              · obtain rfl : b = a := by omega
                clear hb
                go_wp2_with fail
                go_roundg (q - (b + 1))
                case measure => have := HGA.out; omega
                case rel => exact ⟨b + 1, rfl, by omega, by go_num, HB2.out⟩
          · obtain rfl : a = q := by omega
            go_wp2_with fail
            go_roundg (n - (k + 1))
            case measure => have := HG.out; omega
            case rel => exact ⟨k + 1, rfl, by omega, by go_num, by rw [HM2.out]; exact HA.out.tail⟩
    · obtain rfl : k = n := by omega
      have H := hide h.tail.tail
      clear h
      go_wp2_with fail
      go_ret
      exact ⟨rfl, H.out⟩
end Go.Proofs.Ytbnjeekhoaapiaa
