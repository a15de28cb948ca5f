/- CachePlays: the law's walk. Printed by gen_capl.py. -/
import Derived.Test.YtbgknfdaaffeaaaCaSm
import Derived.Test.YtbgknfdaaffeaaaCaQw
import Derived.Test.YtbgknfdaaffeaaaCaQd
import Derived.Deep.DeepCutAuto
import Derived.Deep.CutBlock
namespace Go.Proofs.Ytbgknfdaaffeaaa
open Go.RowKit Go.Shelf

def runA (l : List OpC) : List PU × List PU := l.foldl stepA ([], [])
theorem runA_inv (l : List OpC) (hl : ∀ x ∈ l, x.b.length ≤ 140737488355328) : InvC l.length (runA l).1 (runA l).2 := by
  suffices ∀ (n : Nat) (s : List PU × List PU), InvC n s.1 s.2 → InvC (n + l.length) (l.foldl stepA s).1 (l.foldl stepA s).2 by
    have := this 0 ([], []) InvC.init
    rwa [Nat.zero_add] at this
  induction l with
  | nil => exact fun n s h => h
  | cons x q ih =>
    intro n s h
    have := ih (fun y hy => hl y (by simp [hy])) (n + 1) _ (stepA_inv h (hl x (by simp)))
    rw [List.foldl_cons, List.length_cons]
    rwa [show n + (q.length + 1) = n + 1 + q.length by omega]
theorem runA_snoc {l : List OpC} {k : Nat} {x : OpC} (hx : l[k]? = some x) : runA (l.take (k + 1)) = stepA (runA (l.take k)) x := by
  unfold runA
  rw [List.take_add_one, hx, List.foldl_append]
  rfl
theorem St.newDoc {M0 : Imm} {w : World} {L : List Res} (h : St M0 w L) : St M0 (w.alloc (.cells #[.slice none 0 0, .slice none 0 0] 47)) (docR w.heap.size [] [] :: L) := by
  have h1 := ((((h.alloc 47 #[.slice none 0 0, .slice none 0 0]).nilGrow 153 3 PutR).rowsGrow.nilGrow 153 3 PutR).rowsGrow).pick (L' := blkR w.heap.size 47 #[.slice none 0 0, .slice none 0 0] :: rowsR 3 PutR (.slice none 0 0) [] :: rowsR 3 PutR (.slice none 0 0) [] :: L) 3 [2, 0, 1]
  exact h1.docC
set_option maxHeartbeats 16000000 in
set_option maxRecDepth 100000 in
theorem plays_st {M0 : Imm} {L : List Res} (v : Value) (l : List OpC) (w : World) (hb : ∀ x ∈ l, x.b.length ≤ 140737488355328) (h : St M0 w (rowsR 5 OpR v l :: L)) :
    Calls Try.prog 5 #[v] w fun e w' => e = .returned (.bool true) ∧ St M0 w' L := by
  obtain ⟨A, c, rfl, hc, hm⟩ := (h.getRows 0 rfl).slice
  generalize hn : l.length = n at *
  have HN := hide hn
  have HB := hide hb
  have H := hide h
  clear hn h hb
  by_cases t0 : 100 < n
  · have dt0 : decide ((100 : Int) < (n : Int)) = true := decide_eq_true (by omega)
    go_enter Try.func5, Try.ntmps5
    go_wp2_with fail
    refine (awakeC_st _ H.out).mono ?_
    rintro e w1 ⟨rfl, h⟩
    have H1 := hide h
    clear H h
    go_wp2_with fail
    go_ret
    exact ⟨rfl, H1.out.tail.grow (((Fr.refl _ _).alloc _).alloc _)⟩
  have dt0 : decide ((100 : Int) < (n : Int)) = false := decide_eq_false (by omega)
  go_enter Try.func5, Try.ntmps5
  go_wp2_with fail
  refine (awakeC_st _ H.out).mono ?_
  rintro e w1 ⟨rfl, h⟩
  have h2 := h.newCache.newDoc
  rw [World.size_alloc] at h2
  have H1 := hide h2
  clear H h h2
  go_wp2_with fail
  generalize w1.heap.size + 1 = gd at *
  generalize w1.heap.size = g at *
  clear dt0
  go_loopg [6] n (fun gh iv wr => ∃ (k : Nat), gh = n - k ∧ k ≤ n ∧ iv = .int .i64 (k : Nat) ∧ St M0 wr (docR gd (runA (l.take k)).1 (runA (l.take k)).2 :: cacheR g (runA (l.take k)).1 (runA (l.take k)).2 :: rowsR 5 OpR (.slice A n c) l :: L))
  case atStart => exact ⟨0, rfl, by omega, rfl, H1.out⟩
  case round =>
    clear H1
    obtain ⟨k, hg, hk, rfl, h⟩ := hrel
    have HG := hide hg
    clear hg
    by_cases hlt : k < n
    · have hx := List.getElem?_eq_getElem (l := l) (i := k) (by rw [HN.out]; exact hlt)
      generalize l[k]'(by rw [HN.out]; exact hlt) = x at hx
      have hbx := HB.out x (List.mem_of_getElem? hx)
      have hinv := runA_inv (l.take k) (fun y hy => HB.out y (List.mem_of_mem_take hy))
      rw [List.length_take] at hinv
      have HI := hide (hinv.le (Nat.min_le_left k l.length))
      have HI2' := hide (stepA_inv HI.out hbx)
      have HS := hide (runA_snoc hx)
      obtain ⟨ad, B1, d1, rfl, h1⟩ := h.opE 2 rfl hx
      generalize runA (l.take k) = m at *
      have HBX := hide hbx
      obtain ⟨e0, e1, e2, e3, e4⟩ := (h1.get 0 rfl).1
      have i0 : (0 : Int) ≤ (k : Int) := by omega
      have i1 : (k : Int) < (n : Int) := by omega
      have h2 := (h1.pers1 (R' := fun w' => Ints w' .u8 (.slice B1 x.b.length d1) x.b) (fun w' hw => hw.2)).alloc 50 #[.int .i64 x.d, .int .i64 x.r, .int .i64 x.i, .int .i64 x.n, .slice B1 x.b.length d1]
      generalize hz : wr.heap.size = z at h2
      have hk2 := h2.alloc 52 #[.int .i64 x.r, .int .i64 x.i]
      rw [World.size_alloc, hz] at hk2
      have xk1 := (hk2.blk 1 rfl).cell 1
      have xk2 := (hk2.blk 1 rfl).cell 2
      generalize hy : z + 1 = y at hk2
      have h3 := hk2.alloc 53 #[.int .i64 x.r, .int .i64 x.i]
      rw [World.size_alloc, World.size_alloc, hz, hy] at h3
      generalize hq : y + 1 = q at h3
      have H1 := hide h3
      have x0 := (H1.out.blkA (g := z) (t := 50) (cs := #[.int .i64 x.d, .int .i64 x.r, .int .i64 x.i, .int .i64 x.n, .slice B1 x.b.length d1]) (by (repeat (first | with_reducible exact At.here | with_reducible apply At.there)))).cell 0
      have x1 := (H1.out.blkA (g := z) (t := 50) (cs := #[.int .i64 x.d, .int .i64 x.r, .int .i64 x.i, .int .i64 x.n, .slice B1 x.b.length d1]) (by (repeat (first | with_reducible exact At.here | with_reducible apply At.there)))).cell 1
      have x2 := (H1.out.blkA (g := z) (t := 50) (cs := #[.int .i64 x.d, .int .i64 x.r, .int .i64 x.i, .int .i64 x.n, .slice B1 x.b.length d1]) (by (repeat (first | with_reducible exact At.here | with_reducible apply At.there)))).cell 2
      have x3 := (H1.out.blkA (g := z) (t := 50) (cs := #[.int .i64 x.d, .int .i64 x.r, .int .i64 x.i, .int .i64 x.n, .slice B1 x.b.length d1]) (by (repeat (first | with_reducible exact At.here | with_reducible apply At.there)))).cell 3
      have x4 := (H1.out.blkA (g := z) (t := 50) (cs := #[.int .i64 x.d, .int .i64 x.r, .int .i64 x.i, .int .i64 x.n, .slice B1 x.b.length d1]) (by (repeat (first | with_reducible exact At.here | with_reducible apply At.there)))).cell 4
      have y0 := (H1.out.blkA (g := y) (t := 52) (cs := #[.int .i64 x.r, .int .i64 x.i]) (by (repeat (first | with_reducible exact At.here | with_reducible apply At.there)))).cell 0
      have y1 := (H1.out.blkA (g := y) (t := 52) (cs := #[.int .i64 x.r, .int .i64 x.i]) (by (repeat (first | with_reducible exact At.here | with_reducible apply At.there)))).cell 1
      have q0 := (H1.out.blkA (g := q) (t := 53) (cs := #[.int .i64 x.r, .int .i64 x.i]) (by (repeat (first | with_reducible exact At.here | with_reducible apply At.there)))).cell 0
      have q1 := (H1.out.blkA (g := q) (t := 53) (cs := #[.int .i64 x.r, .int .i64 x.i]) (by (repeat (first | with_reducible exact At.here | with_reducible apply At.there)))).cell 1
      clear h h1 h2 h3 hk2 hbx hinv hx
      go_upto_block 2 with fail
      clear e0 e1 e2 e3 e4 xk1 xk2
      go_cut [10, 11, 12] (fun xv yv fv wx => ∃ E : Int, xv = .int .i64 E ∧ yv = .int .i64 E ∧ fv = .bool true ∧ St M0 wx (cacheR g (stepA m x).1 (stepA m x).2 :: docR gd (stepA m x).1 (stepA m x).2 :: blkR z 50 #[.int .i64 x.d, .int .i64 x.r, .int .i64 x.i, .int .i64 x.n, .slice B1 x.b.length d1] :: rowsR 5 OpR (.slice (some ad) n c) l :: L))
      case first =>
        by_cases c1 : x.d = 1
        · have b1 : (x.d == 1) = true := isT c1
          have ES := hide (show stepA m x = (readB m.1 x.r x.i, m.2) by unfold stepA; simp [c1]; try first | rfl | exact ⟨rfl, rfl⟩)
          clear c1
          go_wp2_with fail
          refine (read_st g m.1 m.2 x.r x.i _ HI.out.bl' HI.out.bd (H1.out.sub (L' := cacheR g m.1 m.2 :: docR gd m.1 m.2 :: blkR y 52 #[.int .i64 x.r, .int .i64 x.i] :: blkR q 53 #[.int .i64 x.r, .int .i64 x.i] :: blkR z 50 #[.int .i64 x.d, .int .i64 x.r, .int .i64 x.i, .int .i64 x.n, .slice B1 x.b.length d1] :: intsR .u8 (.slice B1 x.b.length d1) x.b :: rowsR 5 OpR (.slice (some ad) n c) l :: L) (by (repeat (first | with_reducible exact Sub.refl _ | (with_reducible apply Sub.take; focus (repeat (first | with_reducible exact At.here | with_reducible apply At.there))) | with_reducible apply Sub.drop))))).mono ?_
          rintro e w5 ⟨v5, rfl, h4⟩
          have H4 := hide h4
          clear h4 H1
          clear x0 x1 x2 x3 x4 y0 y1 q0 q1
          have x0 := (H4.out.blkA (g := z) (t := 50) (cs := #[.int .i64 x.d, .int .i64 x.r, .int .i64 x.i, .int .i64 x.n, .slice B1 x.b.length d1]) (by (repeat (first | with_reducible exact At.here | with_reducible apply At.there)))).cell 0
          have x1 := (H4.out.blkA (g := z) (t := 50) (cs := #[.int .i64 x.d, .int .i64 x.r, .int .i64 x.i, .int .i64 x.n, .slice B1 x.b.length d1]) (by (repeat (first | with_reducible exact At.here | with_reducible apply At.there)))).cell 1
          have x2 := (H4.out.blkA (g := z) (t := 50) (cs := #[.int .i64 x.d, .int .i64 x.r, .int .i64 x.i, .int .i64 x.n, .slice B1 x.b.length d1]) (by (repeat (first | with_reducible exact At.here | with_reducible apply At.there)))).cell 2
          have x3 := (H4.out.blkA (g := z) (t := 50) (cs := #[.int .i64 x.d, .int .i64 x.r, .int .i64 x.i, .int .i64 x.n, .slice B1 x.b.length d1]) (by (repeat (first | with_reducible exact At.here | with_reducible apply At.there)))).cell 3
          have x4 := (H4.out.blkA (g := z) (t := 50) (cs := #[.int .i64 x.d, .int .i64 x.r, .int .i64 x.i, .int .i64 x.n, .slice B1 x.b.length d1]) (by (repeat (first | with_reducible exact At.here | with_reducible apply At.there)))).cell 4
          have y0 := (H4.out.blkA (g := y) (t := 52) (cs := #[.int .i64 x.r, .int .i64 x.i]) (by (repeat (first | with_reducible exact At.here | with_reducible apply At.there)))).cell 0
          have y1 := (H4.out.blkA (g := y) (t := 52) (cs := #[.int .i64 x.r, .int .i64 x.i]) (by (repeat (first | with_reducible exact At.here | with_reducible apply At.there)))).cell 1
          have q0 := (H4.out.blkA (g := q) (t := 53) (cs := #[.int .i64 x.r, .int .i64 x.i]) (by (repeat (first | with_reducible exact At.here | with_reducible apply At.there)))).cell 0
          have q1 := (H4.out.blkA (g := q) (t := 53) (cs := #[.int .i64 x.r, .int .i64 x.i]) (by (repeat (first | with_reducible exact At.here | with_reducible apply At.there)))).cell 1
          obtain ⟨A5, n5, c5, rfl⟩ : ∃ A5 n5 c5, v5 = .slice A5 n5 c5 := by
            obtain ⟨A, c, e, _⟩ := H4.out.get 0 rfl
            exact ⟨_, _, _, e⟩
          go_wp2_with fail
          refine (readD_st gd m.1 m.2 x.r x.i _ HI.out.bl' HI.out.nd (H4.out.sub (L' := docR gd m.1 m.2 :: intsR .u8 (.slice A5 n5 c5) (readD m.1 x.r x.i) :: cacheR g (readB m.1 x.r x.i) (m.2) :: blkR y 52 #[.int .i64 x.r, .int .i64 x.i] :: blkR q 53 #[.int .i64 x.r, .int .i64 x.i] :: blkR z 50 #[.int .i64 x.d, .int .i64 x.r, .int .i64 x.i, .int .i64 x.n, .slice B1 x.b.length d1] :: intsR .u8 (.slice B1 x.b.length d1) x.b :: rowsR 5 OpR (.slice (some ad) n c) l :: L) (by (repeat (first | with_reducible exact Sub.refl _ | (with_reducible apply Sub.take; focus (repeat (first | with_reducible exact At.here | with_reducible apply At.there))) | with_reducible apply Sub.drop))))).mono ?_
          rintro e w6 ⟨v6, rfl, h5⟩
          have H5 := hide h5
          clear h5 H4
          clear x0 x1 x2 x3 x4 y0 y1 q0 q1
          obtain ⟨A6, n6, c6, rfl⟩ : ∃ A6 n6 c6, v6 = .slice A6 n6 c6 := by
            obtain ⟨A, c, e, _⟩ := H5.out.get 0 rfl
            exact ⟨_, _, _, e⟩
          have hbb : ((decide (0 ≤ idxP (keyIs x.r x.i) 0 m.1)) == (decide (0 ≤ idxP (keyIs x.r x.i) 0 m.1))) = true := by simp
          generalize decide (0 ≤ idxP (keyIs x.r x.i) 0 m.1) = bb at hbb ⊢
          go_wp2_with fail
          refine (same_true _ _ (readD m.1 x.r x.i) _ (H5.out.get 2 rfl) (H5.out.get 0 rfl) H5.out).mono ?_
          rintro e w7 ⟨rfl, h6⟩
          have H6 := hide h6
          clear h6 H5
          go_wp2_with fail
          go_meet
          refine ⟨0, rfl, rfl, rfl, ?_⟩
          rw [ES.out]
          exact H6.out.sub (by (repeat (first | with_reducible exact Sub.refl _ | (with_reducible apply Sub.take; focus (repeat (first | with_reducible exact At.here | with_reducible apply At.there))) | with_reducible apply Sub.drop)))
        have b1 : (x.d == 1) = false := isF c1
        by_cases c2 : x.d = 2
        · have b2 : (x.d == 2) = true := isT c2
          have ES := hide (show stepA m x = (fillB m.1 m.2 ⟨x.r, x.i, x.b⟩, m.2) by unfold stepA; simp [c2]; try first | rfl | exact ⟨rfl, rfl⟩)
          clear c1 c2
          go_wp2_with fail
          refine (fill_st g m.1 m.2 x.r x.i B1 x.b.length d1 x.b _ HI.out.bl' HBX.out ((H1.out.copyA (Q := fun w => Ints w .u8 (.slice B1 x.b.length d1) x.b) (by (repeat (first | with_reducible exact At.here | with_reducible apply At.there)))).sub (L' := intsR .u8 (.slice B1 x.b.length d1) x.b :: cacheR g m.1 m.2 :: docR gd m.1 m.2 :: blkR y 52 #[.int .i64 x.r, .int .i64 x.i] :: blkR q 53 #[.int .i64 x.r, .int .i64 x.i] :: blkR z 50 #[.int .i64 x.d, .int .i64 x.r, .int .i64 x.i, .int .i64 x.n, .slice B1 x.b.length d1] :: intsR .u8 (.slice B1 x.b.length d1) x.b :: rowsR 5 OpR (.slice (some ad) n c) l :: L) (by (repeat (first | with_reducible exact Sub.refl _ | (with_reducible apply Sub.take; focus (repeat (first | with_reducible exact At.here | with_reducible apply At.there))) | with_reducible apply Sub.drop))))).mono ?_
          rintro e w5 ⟨rfl, h4⟩
          have H4 := hide h4
          clear h4 H1
          clear x0 x1 x2 x3 x4 y0 y1 q0 q1
          have x0 := (H4.out.blkA (g := z) (t := 50) (cs := #[.int .i64 x.d, .int .i64 x.r, .int .i64 x.i, .int .i64 x.n, .slice B1 x.b.length d1]) (by (repeat (first | with_reducible exact At.here | with_reducible apply At.there)))).cell 0
          have x1 := (H4.out.blkA (g := z) (t := 50) (cs := #[.int .i64 x.d, .int .i64 x.r, .int .i64 x.i, .int .i64 x.n, .slice B1 x.b.length d1]) (by (repeat (first | with_reducible exact At.here | with_reducible apply At.there)))).cell 1
          have x2 := (H4.out.blkA (g := z) (t := 50) (cs := #[.int .i64 x.d, .int .i64 x.r, .int .i64 x.i, .int .i64 x.n, .slice B1 x.b.length d1]) (by (repeat (first | with_reducible exact At.here | with_reducible apply At.there)))).cell 2
          have x3 := (H4.out.blkA (g := z) (t := 50) (cs := #[.int .i64 x.d, .int .i64 x.r, .int .i64 x.i, .int .i64 x.n, .slice B1 x.b.length d1]) (by (repeat (first | with_reducible exact At.here | with_reducible apply At.there)))).cell 3
          have x4 := (H4.out.blkA (g := z) (t := 50) (cs := #[.int .i64 x.d, .int .i64 x.r, .int .i64 x.i, .int .i64 x.n, .slice B1 x.b.length d1]) (by (repeat (first | with_reducible exact At.here | with_reducible apply At.there)))).cell 4
          have y0 := (H4.out.blkA (g := y) (t := 52) (cs := #[.int .i64 x.r, .int .i64 x.i]) (by (repeat (first | with_reducible exact At.here | with_reducible apply At.there)))).cell 0
          have y1 := (H4.out.blkA (g := y) (t := 52) (cs := #[.int .i64 x.r, .int .i64 x.i]) (by (repeat (first | with_reducible exact At.here | with_reducible apply At.there)))).cell 1
          have q0 := (H4.out.blkA (g := q) (t := 53) (cs := #[.int .i64 x.r, .int .i64 x.i]) (by (repeat (first | with_reducible exact At.here | with_reducible apply At.there)))).cell 0
          have q1 := (H4.out.blkA (g := q) (t := 53) (cs := #[.int .i64 x.r, .int .i64 x.i]) (by (repeat (first | with_reducible exact At.here | with_reducible apply At.there)))).cell 1
          generalize hEE : fillE m.1 m.2 x.r x.i = ee
          have HEE := hide hEE
          clear hEE
          go_wp2_with fail
          refine (fillD_st gd m.1 m.2 x.r x.i B1 x.b.length d1 x.b _ HI.out.bl' HI.out.nd ((H4.out.copyA (Q := fun w => Ints w .u8 (.slice B1 x.b.length d1) x.b) (by (repeat (first | with_reducible exact At.here | with_reducible apply At.there)))).sub (L' := intsR .u8 (.slice B1 x.b.length d1) x.b :: docR gd m.1 m.2 :: cacheR g (fillB m.1 m.2 ⟨x.r, x.i, x.b⟩) (m.2) :: blkR y 52 #[.int .i64 x.r, .int .i64 x.i] :: blkR q 53 #[.int .i64 x.r, .int .i64 x.i] :: blkR z 50 #[.int .i64 x.d, .int .i64 x.r, .int .i64 x.i, .int .i64 x.n, .slice B1 x.b.length d1] :: intsR .u8 (.slice B1 x.b.length d1) x.b :: rowsR 5 OpR (.slice (some ad) n c) l :: L) (by (repeat (first | with_reducible exact Sub.refl _ | (with_reducible apply Sub.take; focus (repeat (first | with_reducible exact At.here | with_reducible apply At.there))) | with_reducible apply Sub.drop))))).mono ?_
          rintro e w6 ⟨rfl, h5⟩
          have H5 := hide h5
          clear h5 H4
          clear x0 x1 x2 x3 x4 y0 y1 q0 q1
          rw [HEE.out]
          go_wp2_with fail
          go_meet
          refine ⟨ee, rfl, rfl, rfl, ?_⟩
          rw [ES.out]
          exact H5.out.sub (by (repeat (first | with_reducible exact Sub.refl _ | (with_reducible apply Sub.take; focus (repeat (first | with_reducible exact At.here | with_reducible apply At.there))) | with_reducible apply Sub.drop)))
        have b2 : (x.d == 2) = false := isF c2
        by_cases c3 : x.d = 3
        · have b3 : (x.d == 3) = true := isT c3
          have ES := hide (show stepA m x = (wrB m.1 m.2 ⟨x.r, x.i, x.b⟩, wrW m.1 m.2 ⟨x.r, x.i, x.b⟩) by unfold stepA; simp [c3]; try first | rfl | exact ⟨rfl, rfl⟩)
          clear c1 c2 c3
          go_wp2_with fail
          refine (write_st g m.1 m.2 x.r x.i B1 x.b.length d1 x.b _ HI.out.bl' (HI.out.wl' (by omega)) HI.out.wd' ((H1.out.copyA (Q := fun w => Ints w .u8 (.slice B1 x.b.length d1) x.b) (by (repeat (first | with_reducible exact At.here | with_reducible apply At.there)))).sub (L' := intsR .u8 (.slice B1 x.b.length d1) x.b :: cacheR g m.1 m.2 :: docR gd m.1 m.2 :: blkR y 52 #[.int .i64 x.r, .int .i64 x.i] :: blkR q 53 #[.int .i64 x.r, .int .i64 x.i] :: blkR z 50 #[.int .i64 x.d, .int .i64 x.r, .int .i64 x.i, .int .i64 x.n, .slice B1 x.b.length d1] :: intsR .u8 (.slice B1 x.b.length d1) x.b :: rowsR 5 OpR (.slice (some ad) n c) l :: L) (by (repeat (first | with_reducible exact Sub.refl _ | (with_reducible apply Sub.take; focus (repeat (first | with_reducible exact At.here | with_reducible apply At.there))) | with_reducible apply Sub.drop))))).mono ?_
          rintro e w5 ⟨rfl, h4⟩
          have H4 := hide h4
          clear h4 H1
          clear x0 x1 x2 x3 x4 y0 y1 q0 q1
          have x0 := (H4.out.blkA (g := z) (t := 50) (cs := #[.int .i64 x.d, .int .i64 x.r, .int .i64 x.i, .int .i64 x.n, .slice B1 x.b.length d1]) (by (repeat (first | with_reducible exact At.here | with_reducible apply At.there)))).cell 0
          have x1 := (H4.out.blkA (g := z) (t := 50) (cs := #[.int .i64 x.d, .int .i64 x.r, .int .i64 x.i, .int .i64 x.n, .slice B1 x.b.length d1]) (by (repeat (first | with_reducible exact At.here | with_reducible apply At.there)))).cell 1
          have x2 := (H4.out.blkA (g := z) (t := 50) (cs := #[.int .i64 x.d, .int .i64 x.r, .int .i64 x.i, .int .i64 x.n, .slice B1 x.b.length d1]) (by (repeat (first | with_reducible exact At.here | with_reducible apply At.there)))).cell 2
          have x3 := (H4.out.blkA (g := z) (t := 50) (cs := #[.int .i64 x.d, .int .i64 x.r, .int .i64 x.i, .int .i64 x.n, .slice B1 x.b.length d1]) (by (repeat (first | with_reducible exact At.here | with_reducible apply At.there)))).cell 3
          have x4 := (H4.out.blkA (g := z) (t := 50) (cs := #[.int .i64 x.d, .int .i64 x.r, .int .i64 x.i, .int .i64 x.n, .slice B1 x.b.length d1]) (by (repeat (first | with_reducible exact At.here | with_reducible apply At.there)))).cell 4
          have y0 := (H4.out.blkA (g := y) (t := 52) (cs := #[.int .i64 x.r, .int .i64 x.i]) (by (repeat (first | with_reducible exact At.here | with_reducible apply At.there)))).cell 0
          have y1 := (H4.out.blkA (g := y) (t := 52) (cs := #[.int .i64 x.r, .int .i64 x.i]) (by (repeat (first | with_reducible exact At.here | with_reducible apply At.there)))).cell 1
          have q0 := (H4.out.blkA (g := q) (t := 53) (cs := #[.int .i64 x.r, .int .i64 x.i]) (by (repeat (first | with_reducible exact At.here | with_reducible apply At.there)))).cell 0
          have q1 := (H4.out.blkA (g := q) (t := 53) (cs := #[.int .i64 x.r, .int .i64 x.i]) (by (repeat (first | with_reducible exact At.here | with_reducible apply At.there)))).cell 1
          generalize hEE : wrE m.1 m.2 ⟨x.r, x.i, x.b⟩ = ee
          have HEE := hide hEE
          clear hEE
          go_wp2_with fail
          refine (writeD_st gd m.1 m.2 x.r x.i B1 x.b.length d1 x.b _ HI.out.bl' (HI.out.wl' (by omega)) HI.out.nd ((H4.out.copyA (Q := fun w => Ints w .u8 (.slice B1 x.b.length d1) x.b) (by (repeat (first | with_reducible exact At.here | with_reducible apply At.there)))).sub (L' := intsR .u8 (.slice B1 x.b.length d1) x.b :: docR gd m.1 m.2 :: cacheR g (wrB m.1 m.2 ⟨x.r, x.i, x.b⟩) (wrW m.1 m.2 ⟨x.r, x.i, x.b⟩) :: blkR y 52 #[.int .i64 x.r, .int .i64 x.i] :: blkR q 53 #[.int .i64 x.r, .int .i64 x.i] :: blkR z 50 #[.int .i64 x.d, .int .i64 x.r, .int .i64 x.i, .int .i64 x.n, .slice B1 x.b.length d1] :: intsR .u8 (.slice B1 x.b.length d1) x.b :: rowsR 5 OpR (.slice (some ad) n c) l :: L) (by (repeat (first | with_reducible exact Sub.refl _ | (with_reducible apply Sub.take; focus (repeat (first | with_reducible exact At.here | with_reducible apply At.there))) | with_reducible apply Sub.drop))))).mono ?_
          rintro e w6 ⟨rfl, h5⟩
          have H5 := hide h5
          clear h5 H4
          clear x0 x1 x2 x3 x4 y0 y1 q0 q1
          rw [HEE.out]
          go_wp2_with fail
          go_meet
          refine ⟨ee, rfl, rfl, rfl, ?_⟩
          rw [ES.out]
          exact H5.out.sub (by (repeat (first | with_reducible exact Sub.refl _ | (with_reducible apply Sub.take; focus (repeat (first | with_reducible exact At.here | with_reducible apply At.there))) | with_reducible apply Sub.drop)))
        have b3 : (x.d == 3) = false := isF c3
        by_cases c4 : x.d = 4
        · have b4 : (x.d == 4) = true := isT c4
          have ES := hide (show stepA m x = (m.1, flW m.2 x.r x.n) by unfold stepA; simp [c4]; try first | rfl | exact ⟨rfl, rfl⟩)
          clear c1 c2 c3 c4
          go_wp2_with fail
          refine (flushed_st g m.1 m.2 x.r x.n _ (HI.out.wl' (by omega)) HI.out.wd' (H1.out.sub (L' := cacheR g m.1 m.2 :: docR gd m.1 m.2 :: blkR y 52 #[.int .i64 x.r, .int .i64 x.i] :: blkR q 53 #[.int .i64 x.r, .int .i64 x.i] :: blkR z 50 #[.int .i64 x.d, .int .i64 x.r, .int .i64 x.i, .int .i64 x.n, .slice B1 x.b.length d1] :: intsR .u8 (.slice B1 x.b.length d1) x.b :: rowsR 5 OpR (.slice (some ad) n c) l :: L) (by (repeat (first | with_reducible exact Sub.refl _ | (with_reducible apply Sub.take; focus (repeat (first | with_reducible exact At.here | with_reducible apply At.there))) | with_reducible apply Sub.drop))))).mono ?_
          rintro e w5 ⟨rfl, h4⟩
          have H4 := hide h4
          clear h4 H1
          clear x0 x1 x2 x3 x4 y0 y1 q0 q1
          have x0 := (H4.out.blkA (g := z) (t := 50) (cs := #[.int .i64 x.d, .int .i64 x.r, .int .i64 x.i, .int .i64 x.n, .slice B1 x.b.length d1]) (by (repeat (first | with_reducible exact At.here | with_reducible apply At.there)))).cell 0
          have x1 := (H4.out.blkA (g := z) (t := 50) (cs := #[.int .i64 x.d, .int .i64 x.r, .int .i64 x.i, .int .i64 x.n, .slice B1 x.b.length d1]) (by (repeat (first | with_reducible exact At.here | with_reducible apply At.there)))).cell 1
          have x2 := (H4.out.blkA (g := z) (t := 50) (cs := #[.int .i64 x.d, .int .i64 x.r, .int .i64 x.i, .int .i64 x.n, .slice B1 x.b.length d1]) (by (repeat (first | with_reducible exact At.here | with_reducible apply At.there)))).cell 2
          have x3 := (H4.out.blkA (g := z) (t := 50) (cs := #[.int .i64 x.d, .int .i64 x.r, .int .i64 x.i, .int .i64 x.n, .slice B1 x.b.length d1]) (by (repeat (first | with_reducible exact At.here | with_reducible apply At.there)))).cell 3
          have x4 := (H4.out.blkA (g := z) (t := 50) (cs := #[.int .i64 x.d, .int .i64 x.r, .int .i64 x.i, .int .i64 x.n, .slice B1 x.b.length d1]) (by (repeat (first | with_reducible exact At.here | with_reducible apply At.there)))).cell 4
          have y0 := (H4.out.blkA (g := y) (t := 52) (cs := #[.int .i64 x.r, .int .i64 x.i]) (by (repeat (first | with_reducible exact At.here | with_reducible apply At.there)))).cell 0
          have y1 := (H4.out.blkA (g := y) (t := 52) (cs := #[.int .i64 x.r, .int .i64 x.i]) (by (repeat (first | with_reducible exact At.here | with_reducible apply At.there)))).cell 1
          have q0 := (H4.out.blkA (g := q) (t := 53) (cs := #[.int .i64 x.r, .int .i64 x.i]) (by (repeat (first | with_reducible exact At.here | with_reducible apply At.there)))).cell 0
          have q1 := (H4.out.blkA (g := q) (t := 53) (cs := #[.int .i64 x.r, .int .i64 x.i]) (by (repeat (first | with_reducible exact At.here | with_reducible apply At.there)))).cell 1
          generalize hEE : flE m.2 x.r x.n = ee
          have HEE := hide hEE
          clear hEE
          go_wp2_with fail
          refine (flushD_st gd m.1 m.2 x.r x.n _ (HI.out.wl' (by omega)) (H4.out.sub (L' := docR gd m.1 m.2 :: cacheR g (m.1) (flW m.2 x.r x.n) :: blkR y 52 #[.int .i64 x.r, .int .i64 x.i] :: blkR q 53 #[.int .i64 x.r, .int .i64 x.i] :: blkR z 50 #[.int .i64 x.d, .int .i64 x.r, .int .i64 x.i, .int .i64 x.n, .slice B1 x.b.length d1] :: intsR .u8 (.slice B1 x.b.length d1) x.b :: rowsR 5 OpR (.slice (some ad) n c) l :: L) (by (repeat (first | with_reducible exact Sub.refl _ | (with_reducible apply Sub.take; focus (repeat (first | with_reducible exact At.here | with_reducible apply At.there))) | with_reducible apply Sub.drop))))).mono ?_
          rintro e w6 ⟨rfl, h5⟩
          have H5 := hide h5
          clear h5 H4
          clear x0 x1 x2 x3 x4 y0 y1 q0 q1
          rw [HEE.out]
          go_wp2_with fail
          go_meet
          refine ⟨ee, rfl, rfl, rfl, ?_⟩
          rw [ES.out]
          exact H5.out.sub (by (repeat (first | with_reducible exact Sub.refl _ | (with_reducible apply Sub.take; focus (repeat (first | with_reducible exact At.here | with_reducible apply At.there))) | with_reducible apply Sub.drop)))
        have b4 : (x.d == 4) = false := isF c4
        by_cases c5 : x.d = 5
        · have b5 : (x.d == 5) = true := isT c5
          have ES := hide (show stepA m x = (m.1.filter (fun y => !inReg x.r y), m.2.filter (fun y => !inReg x.r y)) by unfold stepA; simp [c5]; try first | rfl | exact ⟨rfl, rfl⟩)
          clear c1 c2 c3 c4 c5
          go_wp2_with fail
          obtain ⟨np, hnp⟩ : ∃ np, (m.2.filter (inReg x.r)).length = np := ⟨_, rfl⟩
          have HNP := hide hnp
          have HNP1 := hide (show (m.2.filter (inReg x.r)).length ≤ 1000000 from Nat.le_trans (List.length_filter_le _ _) (HI.out.wl' (by omega)))
          clear hnp
          clear x0 x1 x2 x3 x4 y0 y1 q0 q1
          have h0 := H1.out.sub (L' := blkR z 50 #[.int .i64 x.d, .int .i64 x.r, .int .i64 x.i, .int .i64 x.n, .slice B1 x.b.length d1] :: cacheR g m.1 m.2 :: docR gd m.1 m.2 :: rowsR 5 OpR (.slice (some ad) n c) l :: L) (by (repeat (first | with_reducible exact Sub.refl _ | (with_reducible apply Sub.take; focus (repeat (first | with_reducible exact At.here | with_reducible apply At.there))) | with_reducible apply Sub.drop)))
          clear H1
          refine region_flow (M0 := M0) (L0 := rowsR 5 OpR (.slice (some ad) n c) l :: L) [⟨none, none, fun e => blkR z 50 #[.int .i64 x.d, .int .i64 x.r, .int .i64 x.i, .int .i64 x.n, .slice B1 x.b.length d1]⟩, ⟨none, some 3, fun e => cacheR g m.1 m.2⟩, ⟨some 3, none, fun e => cacheR g (m.1.filter (fun y => !inReg x.r y)) (m.2.filter (fun y => !inReg x.r y))⟩, ⟨some 3, some 8, fun e => rowsR 3 PutR (.slice (e 3).A np (e 3).n) (m.2.filter (inReg x.r))⟩, ⟨none, some 7, fun e => docR gd m.1 m.2⟩, ⟨some 7, none, fun e => docR gd (m.1.filter (fun y => !inReg x.r y)) (m.2.filter (fun y => !inReg x.r y))⟩, ⟨some 7, some 8, fun e => rowsR 3 PutR (.slice (e 7).A np (e 7).n) (m.2.filter (inReg x.r))⟩] [[], [], [1], [0, 1, 2], [], [], [5], [0, 1, 2, 3, 4, 5, 6], [0, 1, 2, 3, 4, 5, 6, 7], [0, 1, 2, 3, 4, 5, 6, 7, 8]] [0, 1, 2, 3, 4, 5, 6, 7, 8, 9] rfl (by kernel_rfl) (by kernel_rfl) (by kernel_rfl) (by rfl) (fun _ => rfl) (show St M0 _ (blkR z 50 #[.int .i64 x.d, .int .i64 x.r, .int .i64 x.i, .int .i64 x.n, .slice B1 x.b.length d1] :: cacheR g m.1 m.2 :: docR gd m.1 m.2 :: rowsR 5 OpR (.slice (some ad) n c) l :: L) from h0) ?_
          refine flow_run _ rfl (fun _ => rfl) (fun e wx Lx h => by (go_simp; try rfl)) (by intro e; rfl) (by intro e; rfl) (by intro e x; rfl) ?_
          (simp only [Act.put, List.setIfInBounds_toArray, List.set_cons_succ, List.set_cons_zero])
          refine flow_run _ rfl (fun _ => rfl) (fun e wx Lx h => by (go_simp; try rfl)) (by intro e; rfl) (by intro e; rfl) (by intro e x; rfl) ?_
          (simp only [Act.put, List.setIfInBounds_toArray, List.set_cons_succ, List.set_cons_zero])
          refine flow_run _ rfl (fun _ => rfl) (fun e wx Lx h => by (have h : St M0 wx (blkR z 50 #[.int .i64 x.d, .int .i64 x.r, .int .i64 x.i, .int .i64 x.n, .slice B1 x.b.length d1] :: cacheR g m.1 m.2 :: docR gd m.1 m.2 :: Lx) := h; have x1 := (h.blkA (g := z) (t := 50) (cs := #[.int .i64 x.d, .int .i64 x.r, .int .i64 x.i, .int .i64 x.n, .slice B1 x.b.length d1]) (by (repeat (first | with_reducible exact At.here | with_reducible apply At.there)))).cell 1; go_simp; try rfl)) (by intro e; rfl) (by intro e; rfl) (by intro e x; rfl) ?_
          (simp only [Act.put, List.setIfInBounds_toArray, List.set_cons_succ, List.set_cons_zero])
          refine flow_call 33 (fun e => #[.pointer (some ⟨g, 0, none⟩), .int .i64 x.r]) (fun e => .slice (e 3).A np (e 3).n) rfl (fun _ => rfl) (by intro e; rfl) (fun e wx => by (go_simp; try rfl)) (fun e wx Lx h => by (
            have h : St M0 wx (blkR z 50 #[.int .i64 x.d, .int .i64 x.r, .int .i64 x.i, .int .i64 x.n, .slice B1 x.b.length d1] :: cacheR g m.1 m.2 :: docR gd m.1 m.2 :: Lx) := h
            refine (drop_st g m.1 m.2 x.r _ (HI.out.wl' (by omega)) HI.out.wd' (h.front (X := cacheR g m.1 m.2) (by (repeat (first | with_reducible exact At.here | with_reducible apply At.there))))).mono ?_
            rintro u wy ⟨v, rfl, h1⟩
            obtain ⟨A', c', rfl, _, _⟩ := h1.growLen
            have h2 := h1.rowsGrow
            rw [HNP.out] at h2 ⊢
            have hk : St M0 wy (blkR z 50 #[.int .i64 x.d, .int .i64 x.r, .int .i64 x.i, .int .i64 x.n, .slice B1 x.b.length d1] :: cacheR g (m.1.filter (fun y => !inReg x.r y)) (m.2.filter (fun y => !inReg x.r y)) :: rowsR 3 PutR (.slice A' np c') (m.2.filter (inReg x.r)) :: docR gd m.1 m.2 :: Lx) := h2.sub (by (repeat (first | with_reducible exact Sub.refl _ | (with_reducible apply Sub.take; focus (repeat (first | with_reducible exact At.here | with_reducible apply At.there))) | with_reducible apply Sub.drop)))
            exact ⟨⟨A', c', default⟩, rfl, hk⟩)) ?_
          (simp only [Act.put, List.setIfInBounds_toArray, List.set_cons_succ, List.set_cons_zero])
          refine flow_run _ rfl (fun _ => rfl) (fun e wx Lx h => by (go_simp; try rfl)) (by intro e; rfl) (by intro e; rfl) (by intro e x; rfl) ?_
          (simp only [Act.put, List.setIfInBounds_toArray, List.set_cons_succ, List.set_cons_zero])
          refine flow_run _ rfl (fun _ => rfl) (fun e wx Lx h => by (go_simp; try rfl)) (by intro e; rfl) (by intro e; rfl) (by intro e x; rfl) ?_
          (simp only [Act.put, List.setIfInBounds_toArray, List.set_cons_succ, List.set_cons_zero])
          refine flow_run _ rfl (fun _ => rfl) (fun e wx Lx h => by (have h : St M0 wx (blkR z 50 #[.int .i64 x.d, .int .i64 x.r, .int .i64 x.i, .int .i64 x.n, .slice B1 x.b.length d1] :: docR gd m.1 m.2 :: Lx) := h; have x1 := (h.blkA (g := z) (t := 50) (cs := #[.int .i64 x.d, .int .i64 x.r, .int .i64 x.i, .int .i64 x.n, .slice B1 x.b.length d1]) (by (repeat (first | with_reducible exact At.here | with_reducible apply At.there)))).cell 1; go_simp; try rfl)) (by intro e; rfl) (by intro e; rfl) (by intro e x; rfl) ?_
          (simp only [Act.put, List.setIfInBounds_toArray, List.set_cons_succ, List.set_cons_zero])
          refine flow_call 34 (fun e => #[.pointer (some ⟨gd, 0, none⟩), .int .i64 x.r]) (fun e => .slice (e 7).A np (e 7).n) rfl (fun _ => rfl) (by intro e; rfl) (fun e wx => by (go_simp; try rfl)) (fun e wx Lx h => by (
            have h : St M0 wx (blkR z 50 #[.int .i64 x.d, .int .i64 x.r, .int .i64 x.i, .int .i64 x.n, .slice B1 x.b.length d1] :: cacheR g (m.1.filter (fun y => !inReg x.r y)) (m.2.filter (fun y => !inReg x.r y)) :: rowsR 3 PutR (.slice (e 3).A np (e 3).n) (m.2.filter (inReg x.r)) :: docR gd m.1 m.2 :: Lx) := h
            refine (dropD_st gd m.1 m.2 x.r _ HI.out.bl' (HI.out.wl' (by omega)) (h.front (X := docR gd m.1 m.2) (by (repeat (first | with_reducible exact At.here | with_reducible apply At.there))))).mono ?_
            rintro u wy ⟨v, rfl, h1⟩
            obtain ⟨A', c', rfl, _, _⟩ := h1.growLen
            have h2 := h1.rowsGrow
            rw [HNP.out] at h2 ⊢
            have hk : St M0 wy (blkR z 50 #[.int .i64 x.d, .int .i64 x.r, .int .i64 x.i, .int .i64 x.n, .slice B1 x.b.length d1] :: cacheR g (m.1.filter (fun y => !inReg x.r y)) (m.2.filter (fun y => !inReg x.r y)) :: rowsR 3 PutR (.slice (e 3).A np (e 3).n) (m.2.filter (inReg x.r)) :: docR gd (m.1.filter (fun y => !inReg x.r y)) (m.2.filter (fun y => !inReg x.r y)) :: rowsR 3 PutR (.slice A' np c') (m.2.filter (inReg x.r)) :: Lx) := h2.sub (by (repeat (first | with_reducible exact Sub.refl _ | (with_reducible apply Sub.take; focus (repeat (first | with_reducible exact At.here | with_reducible apply At.there))) | with_reducible apply Sub.drop)))
            exact ⟨⟨A', c', default⟩, rfl, hk⟩)) ?_
          (simp only [Act.put, List.setIfInBounds_toArray, List.set_cons_succ, List.set_cons_zero])
          refine flow_call 32 (fun e => #[.slice (e 3).A np (e 3).n, .slice (e 7).A np (e 7).n]) (fun e => .bool true) rfl (fun _ => rfl) (by intro e; rfl) (fun e wx => by (go_simp; try rfl)) (fun e wx Lx h => by (
            have h : St M0 wx (blkR z 50 #[.int .i64 x.d, .int .i64 x.r, .int .i64 x.i, .int .i64 x.n, .slice B1 x.b.length d1] :: cacheR g (m.1.filter (fun y => !inReg x.r y)) (m.2.filter (fun y => !inReg x.r y)) :: rowsR 3 PutR (.slice (e 3).A np (e 3).n) (m.2.filter (inReg x.r)) :: docR gd (m.1.filter (fun y => !inReg x.r y)) (m.2.filter (fun y => !inReg x.r y)) :: rowsR 3 PutR (.slice (e 7).A np (e 7).n) (m.2.filter (inReg x.r)) :: Lx) := h
            refine (csame_st _ _ (m.2.filter (inReg x.r)) _ HNP1.out (h.sub (L' := rowsR 3 PutR (.slice (e 3).A np (e 3).n) (m.2.filter (inReg x.r)) :: rowsR 3 PutR (.slice (e 7).A np (e 7).n) (m.2.filter (inReg x.r)) :: blkR z 50 #[.int .i64 x.d, .int .i64 x.r, .int .i64 x.i, .int .i64 x.n, .slice B1 x.b.length d1] :: cacheR g (m.1.filter (fun y => !inReg x.r y)) (m.2.filter (fun y => !inReg x.r y)) :: docR gd (m.1.filter (fun y => !inReg x.r y)) (m.2.filter (fun y => !inReg x.r y)) :: Lx) (by (repeat (first | with_reducible exact Sub.refl _ | (with_reducible apply Sub.take; focus (repeat (first | with_reducible exact At.here | with_reducible apply At.there))) | with_reducible apply Sub.drop))))).mono ?_
            rintro u wy ⟨rfl, h1⟩
            have hk : St M0 wy (blkR z 50 #[.int .i64 x.d, .int .i64 x.r, .int .i64 x.i, .int .i64 x.n, .slice B1 x.b.length d1] :: cacheR g (m.1.filter (fun y => !inReg x.r y)) (m.2.filter (fun y => !inReg x.r y)) :: docR gd (m.1.filter (fun y => !inReg x.r y)) (m.2.filter (fun y => !inReg x.r y)) :: Lx) := h1.sub (by (repeat (first | with_reducible exact Sub.refl _ | (with_reducible apply Sub.take; focus (repeat (first | with_reducible exact At.here | with_reducible apply At.there))) | with_reducible apply Sub.drop)))
            exact ⟨⟨none, 0, default⟩, rfl, hk⟩)) ?_
          (simp only [Act.put, List.setIfInBounds_toArray, List.set_cons_succ, List.set_cons_zero])
          refine flow_run _ rfl (fun _ => rfl) (fun e wx Lx h => by (go_simp; try rfl)) (by intro e; rfl) (by intro e; rfl) (by intro e x; rfl) ?_
          (simp only [Act.put, List.setIfInBounds_toArray, List.set_cons_succ, List.set_cons_zero])
          refine flow_nil ?_
          intro e w1 h
          have h : St M0 w1 (blkR z 50 #[.int .i64 x.d, .int .i64 x.r, .int .i64 x.i, .int .i64 x.n, .slice B1 x.b.length d1] :: cacheR g (m.1.filter (fun y => !inReg x.r y)) (m.2.filter (fun y => !inReg x.r y)) :: docR gd (m.1.filter (fun y => !inReg x.r y)) (m.2.filter (fun y => !inReg x.r y)) :: rowsR 5 OpR (.slice (some ad) n c) l :: L) := h
          have H6 := hide h
          clear h h0
          go_wp2_with fail
          go_meet
          refine ⟨0, rfl, rfl, rfl, ?_⟩
          rw [ES.out]
          exact H6.out.sub (by (repeat (first | with_reducible exact Sub.refl _ | (with_reducible apply Sub.take; focus (repeat (first | with_reducible exact At.here | with_reducible apply At.there))) | with_reducible apply Sub.drop)))
        have b5 : (x.d == 5) = false := isF c5
        have ES := hide (show stepA m x = m by unfold stepA; simp [c1, c2, c3, c4, c5])
        clear c1 c2 c3 c4 c5
        go_wp2_with fail
        go_meet
        refine ⟨0, rfl, rfl, rfl, ?_⟩
        rw [ES.out]
        exact H1.out.sub (by (repeat (first | with_reducible exact Sub.refl _ | (with_reducible apply Sub.take; focus (repeat (first | with_reducible exact At.here | with_reducible apply At.there))) | with_reducible apply Sub.drop)))
      case rest =>
        clear H1 x0 x1 x2 x3 x4 y0 y1 q0 q1
        obtain ⟨E, rfl, rfl, rfl, h⟩ := hcut
        generalize hs2 : stepA m x = s2 at h HI2' HS
        have HI2 := HI2'
        have H1 := hide h
        clear h HI2' hs2
        go_wp2_with fail
        refine (len_st g s2.1 s2.2 _ H1.out).mono ?_
        rintro e w5 ⟨rfl, h4⟩
        have H4 := hide h4
        clear h4 H1
        go_wp2_with fail
        refine (keys_st g s2.1 s2.2 _ HI2.out.bl' H4.out).mono ?_
        rintro e w6 ⟨v6, rfl, h5⟩
        obtain ⟨A8, c8, rfl, hc8, hm8⟩ := h5.growLen
        unfold maxLen at hm8
        rw [List.length_map] at hc8 ⊢
        have h6 := h5.rowsGrow
        rw [List.length_map] at h6
        obtain ⟨A7, c7, B7, d7, hc7, _, hm7, _, h7⟩ := (h6.sub (L' := docR gd s2.1 s2.2 :: cacheR g s2.1 s2.2 :: blkR z 50 #[.int .i64 x.d, .int .i64 x.r, .int .i64 x.i, .int .i64 x.n, .slice B1 x.b.length d1] :: rowsR 2 KeyR (.slice A8 s2.1.length c8) (s2.1.map keyOf) :: rowsR 5 OpR (.slice (some ad) n c) l :: L) (by (repeat (first | with_reducible exact Sub.refl _ | (with_reducible apply Sub.take; focus (repeat (first | with_reducible exact At.here | with_reducible apply At.there))) | with_reducible apply Sub.drop)))).docO
        obtain ⟨nb, hnb⟩ : ∃ nb, nb = s2.1.length := ⟨_, rfl⟩
        obtain ⟨nw, hnw⟩ : ∃ nw, nw = s2.2.length := ⟨_, rfl⟩
        rw [← hnb, ← hnw] at h7
        rw [← hnb] at hc7 hc8 ⊢
        have HNB := hide hnb
        have hnb6 : nb ≤ 6 := by rw [hnb]; exact HI2.out.len
        have h0 := h7.sub (L' := blkR z 50 #[.int .i64 x.d, .int .i64 x.r, .int .i64 x.i, .int .i64 x.n, .slice B1 x.b.length d1] :: cacheR g s2.1 s2.2 :: blkR gd 47 #[.slice A7 nb c7, .slice B7 nw d7] :: rowsR 3 PutR (.slice A7 nb c7) s2.1 :: rowsR 3 PutR (.slice B7 nw d7) s2.2 :: rowsR 2 KeyR (.slice A8 nb c8) (s2.1.map keyOf) :: rowsR 5 OpR (.slice (some ad) n c) l :: L) (by (repeat (first | with_reducible exact Sub.refl _ | (with_reducible apply Sub.take; focus (repeat (first | with_reducible exact At.here | with_reducible apply At.there))) | with_reducible apply Sub.drop)))
        obtain ⟨np, hnp⟩ : ∃ np, (s2.2.filter (inReg x.r)).length = np := ⟨_, rfl⟩
        have HNP := hide hnp
        have HNP1 := hide (show (s2.2.filter (inReg x.r)).length ≤ 1000000 from Nat.le_trans (List.length_filter_le _ _) (HI2.out.wl' (by omega)))
        clear h5 h6 h7 H4 hnb hnw hnp
        go_wp2_with fail
        refine region_flow (M0 := M0) (L0 := rowsR 2 KeyR (.slice A8 nb c8) (s2.1.map keyOf) :: rowsR 5 OpR (.slice (some ad) n c) l :: L) [⟨none, none, fun e => blkR z 50 #[.int .i64 x.d, .int .i64 x.r, .int .i64 x.i, .int .i64 x.n, .slice B1 x.b.length d1]⟩, ⟨none, some 26, fun e => cacheR g s2.1 s2.2⟩, ⟨some 26, none, fun e => cacheR g s2.1 s2.2⟩, ⟨some 26, some 31, fun e => rowsR 3 PutR (.slice (e 26).A np (e 26).n) (s2.2.filter (inReg x.r))⟩, ⟨none, some 30, fun e => blkR gd 47 #[.slice A7 nb c7, .slice B7 nw d7]⟩, ⟨none, some 30, fun e => rowsR 3 PutR (.slice A7 nb c7) s2.1⟩, ⟨none, some 30, fun e => rowsR 3 PutR (.slice B7 nw d7) s2.2⟩, ⟨some 30, none, fun e => docR gd s2.1 s2.2⟩, ⟨some 30, some 31, fun e => rowsR 3 PutR (.slice (e 30).A np (e 30).n) (s2.2.filter (inReg x.r))⟩] [[], [0], [0, 1], [0, 1, 2], [0, 1, 2], [0, 1, 2, 3, 4], [0, 1, 2, 3, 4, 5], [0, 1, 2, 3, 4, 5, 6], [0, 1, 2, 3, 4, 5, 6, 7], [0, 1, 2, 3, 4, 5, 6, 7], [0, 1, 2, 3, 4, 5, 6, 7, 9], [0, 1, 2, 3, 4, 5, 6, 7, 9, 10], [0, 1, 2, 3, 4, 5, 6, 7, 9, 10, 11], [0, 1, 2, 3, 4, 5, 6, 7, 9, 10, 11, 12], [0, 1, 2, 3, 4, 5, 6, 7, 8, 9, 10, 11, 12, 13], [0, 1, 2, 3, 4, 5, 6, 7, 8, 9, 10, 11, 12, 13, 14], [0, 1, 2, 3, 4, 5, 6, 7, 8, 9, 10, 11, 12, 13, 14, 15], [0, 1, 2, 3, 4, 5, 6, 7, 8, 9, 10, 11, 12, 13, 14, 15, 16], [0, 1, 2, 3, 4, 5, 6, 7, 8, 9, 10, 11, 12, 13, 14, 15, 16, 17], [0, 1, 2, 3, 4, 5, 6, 7, 8, 9, 10, 11, 12, 13, 14, 15, 16], [0, 1, 2, 3, 4, 5, 6, 7, 8, 9, 10, 11, 12, 13, 14, 15, 16, 17, 18, 19], [0, 1, 2, 3, 4, 5, 6, 7, 8, 9, 10, 11, 12, 13, 14, 15, 16, 17, 18, 19, 20], [0, 1, 2, 3, 4, 5, 6, 7, 8, 9, 10, 11, 12, 13, 14, 15, 16, 17, 18, 19, 20, 21], [0, 1, 2, 3, 4, 5, 6, 7, 8, 9, 10, 11, 12, 13, 14, 15, 16, 17, 18, 19, 20, 21, 22], [0, 1, 2, 3, 4, 5, 6, 7, 8, 9, 10, 11, 12, 13, 14, 15, 16, 17, 18, 19, 20, 21, 22], [0, 1, 2, 3, 4, 5, 6, 7, 8, 9, 10, 11, 12, 13, 14, 15, 16, 17, 18, 19, 20, 21, 22, 24], [0, 1, 2, 3, 4, 5, 6, 7, 8, 9, 10, 11, 12, 13, 14, 15, 16, 17, 18, 19, 20, 21, 22, 23, 24, 25], [0, 1, 2, 3, 4, 5, 6, 7, 8, 9, 10, 11, 12, 13, 14, 15, 16, 17, 18, 19, 20, 21, 22], [0, 1, 2, 3, 4, 5, 6, 7, 8, 9, 10, 11, 12, 13, 14, 15, 16, 17, 18, 19, 20, 21, 22], [0, 1, 2, 3, 4, 5, 6, 7, 8, 9, 10, 11, 12, 13, 14, 15, 16, 17, 18, 19, 20, 21, 22, 28], [0, 1, 2, 3, 4, 5, 6, 7, 8, 9, 10, 11, 12, 13, 14, 15, 16, 17, 18, 19, 20, 21, 22, 23, 24, 25, 26, 27, 28, 29], [0, 1, 2, 3, 4, 5, 6, 7, 8, 9, 10, 11, 12, 13, 14, 15, 16, 17, 18, 19, 20, 21, 22, 23, 24, 25, 26, 27, 28, 29, 30], [0, 1, 2, 3, 4, 5, 6, 7, 8, 9, 10, 11, 12, 13, 14, 15, 16, 17, 18, 19, 20, 21, 22, 23, 24, 25, 26, 27, 28, 29, 30, 31], [0, 1, 2, 3, 4, 5, 6, 7, 8, 9, 10, 11, 12, 13, 14, 15, 16, 17, 18, 19, 20, 21, 22, 23, 24, 25, 26, 27, 28, 29, 30, 31, 32]] [0, 1, 2, 3, 4, 5, 6, 7, 8, 9, 10, 11, 12, 13, 14, 15, 16, 17, 18, 19, 20, 21, 22, 23, 24, 25, 26, 27, 28, 29, 30, 31, 32, 33] rfl (by kernel_rfl) (by kernel_rfl) (by kernel_rfl) (by rfl) (fun _ => rfl) (show St M0 _ (blkR z 50 #[.int .i64 x.d, .int .i64 x.r, .int .i64 x.i, .int .i64 x.n, .slice B1 x.b.length d1] :: cacheR g s2.1 s2.2 :: blkR gd 47 #[.slice A7 nb c7, .slice B7 nw d7] :: rowsR 3 PutR (.slice A7 nb c7) s2.1 :: rowsR 3 PutR (.slice B7 nw d7) s2.2 :: rowsR 2 KeyR (.slice A8 nb c8) (s2.1.map keyOf) :: rowsR 5 OpR (.slice (some ad) n c) l :: L) from h0) ?_
        refine flow_run _ rfl (fun _ => rfl) (fun e wx Lx h => by (go_simp; try rfl)) (by intro e; rfl) (by intro e; rfl) (by intro e x; rfl) ?_
        (simp only [Act.put, List.setIfInBounds_toArray, List.set_cons_succ, List.set_cons_zero])
        refine flow_run _ rfl (fun _ => rfl) (fun e wx Lx h => by (go_simp; try rfl)) (by intro e; rfl) (by intro e; rfl) (by intro e x; rfl) ?_
        (simp only [Act.put, List.setIfInBounds_toArray, List.set_cons_succ, List.set_cons_zero])
        refine flow_run _ rfl (fun _ => rfl) (fun e wx Lx h => by (go_simp; try rfl)) (by intro e; rfl) (by intro e; rfl) (by intro e x; rfl) ?_
        (simp only [Act.put, List.setIfInBounds_toArray, List.set_cons_succ, List.set_cons_zero])
        refine flow_run _ rfl (fun _ => rfl) (fun e wx Lx h => by (go_simp; try rfl)) (by intro e; rfl) (by intro e; rfl) (by intro e x; rfl) ?_
        (simp only [Act.put, List.setIfInBounds_toArray, List.set_cons_succ, List.set_cons_zero])
        refine flow_run _ rfl (fun _ => rfl) (fun e wx Lx h => by (go_simp; try rfl)) (by intro e; rfl) (by intro e; rfl) (by intro e x; rfl) ?_
        (simp only [Act.put, List.setIfInBounds_toArray, List.set_cons_succ, List.set_cons_zero])
        refine flow_run _ rfl (fun _ => rfl) (fun e wx Lx h => by (go_simp; try rfl)) (by intro e; rfl) (by intro e; rfl) (by intro e x; rfl) ?_
        (simp only [Act.put, List.setIfInBounds_toArray, List.set_cons_succ, List.set_cons_zero])
        refine flow_run _ rfl (fun _ => rfl) (fun e wx Lx h => by (go_simp; try rfl)) (by intro e; rfl) (by intro e; rfl) (by intro e x; rfl) ?_
        (simp only [Act.put, List.setIfInBounds_toArray, List.set_cons_succ, List.set_cons_zero])
        refine flow_run _ rfl (fun _ => rfl) (fun e wx Lx h => by (go_simp; try rfl)) (by intro e; rfl) (by intro e; rfl) (by intro e x; rfl) ?_
        (simp only [Act.put, List.setIfInBounds_toArray, List.set_cons_succ, List.set_cons_zero])
        refine flow_run _ rfl (fun _ => rfl) (fun e wx Lx h => by (go_simp; try rfl)) (by intro e; rfl) (by intro e; rfl) (by intro e x; rfl) ?_
        (simp only [Act.put, List.setIfInBounds_toArray, List.set_cons_succ, List.set_cons_zero])
        refine flow_run _ rfl (fun _ => rfl) (fun e wx Lx h => by (go_simp; try rfl)) (by intro e; rfl) (by intro e; rfl) (by intro e x; rfl) ?_
        (simp only [Act.put, List.setIfInBounds_toArray, List.set_cons_succ, List.set_cons_zero])
        refine flow_run _ rfl (fun _ => rfl) (fun e wx Lx h => by (go_simp; try rfl)) (by intro e; rfl) (by intro e; rfl) (by intro e x; rfl) ?_
        (simp only [Act.put, List.setIfInBounds_toArray, List.set_cons_succ, List.set_cons_zero])
        refine flow_run _ rfl (fun _ => rfl) (fun e wx Lx h => by (go_simp; try rfl)) (by intro e; rfl) (by intro e; rfl) (by intro e x; rfl) ?_
        (simp only [Act.put, List.setIfInBounds_toArray, List.set_cons_succ, List.set_cons_zero])
        refine flow_run _ rfl (fun _ => rfl) (fun e wx Lx h => by (have h : St M0 wx (blkR z 50 #[.int .i64 x.d, .int .i64 x.r, .int .i64 x.i, .int .i64 x.n, .slice B1 x.b.length d1] :: cacheR g s2.1 s2.2 :: blkR gd 47 #[.slice A7 nb c7, .slice B7 nw d7] :: rowsR 3 PutR (.slice A7 nb c7) s2.1 :: rowsR 3 PutR (.slice B7 nw d7) s2.2 :: Lx) := h; have x1 := (h.blkA (g := z) (t := 50) (cs := #[.int .i64 x.d, .int .i64 x.r, .int .i64 x.i, .int .i64 x.n, .slice B1 x.b.length d1]) (by (repeat (first | with_reducible exact At.here | with_reducible apply At.there)))).cell 1; have d0 := (h.blkA (g := gd) (t := 47) (cs := #[.slice A7 nb c7, .slice B7 nw d7]) (by (repeat (first | with_reducible exact At.here | with_reducible apply At.there)))).cell 0; go_simp; try rfl)) (by intro e; rfl) (by intro e; rfl) (by intro e x; rfl) ?_
        (simp only [Act.put, List.setIfInBounds_toArray, List.set_cons_succ, List.set_cons_zero])
        refine flow_run _ rfl (fun _ => rfl) (fun e wx Lx h => by (go_simp; try rfl)) (by intro e; rfl) (by intro e; rfl) (by intro e x; rfl) ?_
        (simp only [Act.put, List.setIfInBounds_toArray, List.set_cons_succ, List.set_cons_zero])
        refine flow_run _ rfl (fun _ => rfl) (fun e wx Lx h => by (go_simp; try rfl)) (by intro e; rfl) (by intro e; rfl) (by intro e x; rfl) ?_
        (simp only [Act.put, List.setIfInBounds_toArray, List.set_cons_succ, List.set_cons_zero])
        refine flow_run _ rfl (fun _ => rfl) (fun e wx Lx h => by (go_simp; try rfl)) (by intro e; rfl) (by intro e; rfl) (by intro e x; rfl) ?_
        (simp only [Act.put, List.setIfInBounds_toArray, List.set_cons_succ, List.set_cons_zero])
        refine flow_run _ rfl (fun _ => rfl) (fun e wx Lx h => by (go_simp; try rfl)) (by intro e; rfl) (by intro e; rfl) (by intro e x; rfl) ?_
        (simp only [Act.put, List.setIfInBounds_toArray, List.set_cons_succ, List.set_cons_zero])
        refine flow_run _ rfl (fun _ => rfl) (fun e wx Lx h => by (go_simp; try rfl)) (by intro e; rfl) (by intro e; rfl) (by intro e x; rfl) ?_
        (simp only [Act.put, List.setIfInBounds_toArray, List.set_cons_succ, List.set_cons_zero])
        refine flow_run _ rfl (fun _ => rfl) (fun e wx Lx h => by (go_simp; try rfl)) (by intro e; rfl) (by intro e; rfl) (by intro e x; rfl) ?_
        (simp only [Act.put, List.setIfInBounds_toArray, List.set_cons_succ, List.set_cons_zero])
        refine flow_run _ rfl (fun _ => rfl) (fun e wx Lx h => by (go_simp; try rfl)) (by intro e; rfl) (by intro e; rfl) (by intro e x; rfl) ?_
        (simp only [Act.put, List.setIfInBounds_toArray, List.set_cons_succ, List.set_cons_zero])
        refine flow_run _ rfl (fun _ => rfl) (fun e wx Lx h => by (go_simp; try rfl)) (by intro e; rfl) (by intro e; rfl) (by intro e x; rfl) ?_
        (simp only [Act.put, List.setIfInBounds_toArray, List.set_cons_succ, List.set_cons_zero])
        refine flow_run _ rfl (fun _ => rfl) (fun e wx Lx h => by (go_simp; try rfl)) (by intro e; rfl) (by intro e; rfl) (by intro e x; rfl) ?_
        (simp only [Act.put, List.setIfInBounds_toArray, List.set_cons_succ, List.set_cons_zero])
        refine flow_run _ rfl (fun _ => rfl) (fun e wx Lx h => by (go_simp; try rfl)) (by intro e; rfl) (by intro e; rfl) (by intro e x; rfl) ?_
        (simp only [Act.put, List.setIfInBounds_toArray, List.set_cons_succ, List.set_cons_zero])
        refine flow_run _ rfl (fun _ => rfl) (fun e wx Lx h => by (go_simp; try rfl)) (by intro e; rfl) (by intro e; rfl) (by intro e x; rfl) ?_
        (simp only [Act.put, List.setIfInBounds_toArray, List.set_cons_succ, List.set_cons_zero])
        refine flow_run _ rfl (fun _ => rfl) (fun e wx Lx h => by (go_simp; try rfl)) (by intro e; rfl) (by intro e; rfl) (by intro e x; rfl) ?_
        (simp only [Act.put, List.setIfInBounds_toArray, List.set_cons_succ, List.set_cons_zero])
        refine flow_run _ rfl (fun _ => rfl) (fun e wx Lx h => by (have h : St M0 wx (blkR z 50 #[.int .i64 x.d, .int .i64 x.r, .int .i64 x.i, .int .i64 x.n, .slice B1 x.b.length d1] :: cacheR g s2.1 s2.2 :: blkR gd 47 #[.slice A7 nb c7, .slice B7 nw d7] :: rowsR 3 PutR (.slice A7 nb c7) s2.1 :: rowsR 3 PutR (.slice B7 nw d7) s2.2 :: Lx) := h; have x1 := (h.blkA (g := z) (t := 50) (cs := #[.int .i64 x.d, .int .i64 x.r, .int .i64 x.i, .int .i64 x.n, .slice B1 x.b.length d1]) (by (repeat (first | with_reducible exact At.here | with_reducible apply At.there)))).cell 1; have d0 := (h.blkA (g := gd) (t := 47) (cs := #[.slice A7 nb c7, .slice B7 nw d7]) (by (repeat (first | with_reducible exact At.here | with_reducible apply At.there)))).cell 0; go_simp; try rfl)) (by intro e; rfl) (by intro e; rfl) (by intro e x; rfl) ?_
        (simp only [Act.put, List.setIfInBounds_toArray, List.set_cons_succ, List.set_cons_zero])
        refine flow_call 37 (fun e => #[.pointer (some ⟨g, 0, none⟩), .int .i64 x.r]) (fun e => .slice (e 26).A np (e 26).n) rfl (fun _ => rfl) (by intro e; rfl) (fun e wx => by (go_simp; try rfl)) (fun e wx Lx h => by (
          have h : St M0 wx (blkR z 50 #[.int .i64 x.d, .int .i64 x.r, .int .i64 x.i, .int .i64 x.n, .slice B1 x.b.length d1] :: cacheR g s2.1 s2.2 :: blkR gd 47 #[.slice A7 nb c7, .slice B7 nw d7] :: rowsR 3 PutR (.slice A7 nb c7) s2.1 :: rowsR 3 PutR (.slice B7 nw d7) s2.2 :: Lx) := h
          refine (dirtyL_st g s2.1 s2.2 x.r _ (HI2.out.wl' (by omega)) HI2.out.wd' (h.front (X := cacheR g s2.1 s2.2) (by (repeat (first | with_reducible exact At.here | with_reducible apply At.there))))).mono ?_
          rintro u wy ⟨v, rfl, h1⟩
          obtain ⟨A', c', rfl, _, _⟩ := h1.growLen
          have h2 := h1.rowsGrow
          rw [HNP.out] at h2 ⊢
          have hk : St M0 wy (blkR z 50 #[.int .i64 x.d, .int .i64 x.r, .int .i64 x.i, .int .i64 x.n, .slice B1 x.b.length d1] :: cacheR g s2.1 s2.2 :: rowsR 3 PutR (.slice A' np c') (s2.2.filter (inReg x.r)) :: blkR gd 47 #[.slice A7 nb c7, .slice B7 nw d7] :: rowsR 3 PutR (.slice A7 nb c7) s2.1 :: rowsR 3 PutR (.slice B7 nw d7) s2.2 :: Lx) := h2.sub (by (repeat (first | with_reducible exact Sub.refl _ | (with_reducible apply Sub.take; focus (repeat (first | with_reducible exact At.here | with_reducible apply At.there))) | with_reducible apply Sub.drop)))
          exact ⟨⟨A', c', default⟩, rfl, hk⟩)) ?_
        (simp only [Act.put, List.setIfInBounds_toArray, List.set_cons_succ, List.set_cons_zero])
        refine flow_run _ rfl (fun _ => rfl) (fun e wx Lx h => by (go_simp; try rfl)) (by intro e; rfl) (by intro e; rfl) (by intro e x; rfl) ?_
        (simp only [Act.put, List.setIfInBounds_toArray, List.set_cons_succ, List.set_cons_zero])
        refine flow_run _ rfl (fun _ => rfl) (fun e wx Lx h => by (go_simp; try rfl)) (by intro e; rfl) (by intro e; rfl) (by intro e x; rfl) ?_
        (simp only [Act.put, List.setIfInBounds_toArray, List.set_cons_succ, List.set_cons_zero])
        refine flow_run _ rfl (fun _ => rfl) (fun e wx Lx h => by (have h : St M0 wx (blkR z 50 #[.int .i64 x.d, .int .i64 x.r, .int .i64 x.i, .int .i64 x.n, .slice B1 x.b.length d1] :: blkR gd 47 #[.slice A7 nb c7, .slice B7 nw d7] :: rowsR 3 PutR (.slice A7 nb c7) s2.1 :: rowsR 3 PutR (.slice B7 nw d7) s2.2 :: Lx) := h; have x1 := (h.blkA (g := z) (t := 50) (cs := #[.int .i64 x.d, .int .i64 x.r, .int .i64 x.i, .int .i64 x.n, .slice B1 x.b.length d1]) (by (repeat (first | with_reducible exact At.here | with_reducible apply At.there)))).cell 1; have d0 := (h.blkA (g := gd) (t := 47) (cs := #[.slice A7 nb c7, .slice B7 nw d7]) (by (repeat (first | with_reducible exact At.here | with_reducible apply At.there)))).cell 0; go_simp; try rfl)) (by intro e; rfl) (by intro e; rfl) (by intro e x; rfl) ?_
        (simp only [Act.put, List.setIfInBounds_toArray, List.set_cons_succ, List.set_cons_zero])
        refine flow_call 38 (fun e => #[.pointer (some ⟨gd, 0, none⟩), .int .i64 x.r]) (fun e => .slice (e 30).A np (e 30).n) rfl (fun _ => rfl) (by intro e; rfl) (fun e wx => by (go_simp; try rfl)) (fun e wx Lx h => by (
          have h : St M0 wx (blkR z 50 #[.int .i64 x.d, .int .i64 x.r, .int .i64 x.i, .int .i64 x.n, .slice B1 x.b.length d1] :: cacheR g s2.1 s2.2 :: rowsR 3 PutR (.slice (e 26).A np (e 26).n) (s2.2.filter (inReg x.r)) :: blkR gd 47 #[.slice A7 nb c7, .slice B7 nw d7] :: rowsR 3 PutR (.slice A7 nb c7) s2.1 :: rowsR 3 PutR (.slice B7 nw d7) s2.2 :: Lx) := h
          refine (dirtyD_st gd s2.1 s2.2 x.r _ (HI2.out.wl' (by omega)) ((h.sub (L' := blkR gd 47 #[.slice A7 nb c7, .slice B7 nw d7] :: rowsR 3 PutR (.slice A7 nb c7) s2.1 :: rowsR 3 PutR (.slice B7 nw d7) s2.2 :: blkR z 50 #[.int .i64 x.d, .int .i64 x.r, .int .i64 x.i, .int .i64 x.n, .slice B1 x.b.length d1] :: cacheR g s2.1 s2.2 :: rowsR 3 PutR (.slice (e 26).A np (e 26).n) (s2.2.filter (inReg x.r)) :: Lx) (by (repeat (first | with_reducible exact Sub.refl _ | (with_reducible apply Sub.take; focus (repeat (first | with_reducible exact At.here | with_reducible apply At.there))) | with_reducible apply Sub.drop)))).docC)).mono ?_
          rintro u wy ⟨v, rfl, h1⟩
          obtain ⟨A', c', rfl, _, _⟩ := h1.growLen
          have h2 := h1.rowsGrow
          rw [HNP.out] at h2 ⊢
          have hk : St M0 wy (blkR z 50 #[.int .i64 x.d, .int .i64 x.r, .int .i64 x.i, .int .i64 x.n, .slice B1 x.b.length d1] :: cacheR g s2.1 s2.2 :: rowsR 3 PutR (.slice (e 26).A np (e 26).n) (s2.2.filter (inReg x.r)) :: docR gd s2.1 s2.2 :: rowsR 3 PutR (.slice A' np c') (s2.2.filter (inReg x.r)) :: Lx) := h2.sub (by (repeat (first | with_reducible exact Sub.refl _ | (with_reducible apply Sub.take; focus (repeat (first | with_reducible exact At.here | with_reducible apply At.there))) | with_reducible apply Sub.drop)))
          exact ⟨⟨A', c', default⟩, rfl, hk⟩)) ?_
        (simp only [Act.put, List.setIfInBounds_toArray, List.set_cons_succ, List.set_cons_zero])
        refine flow_call 32 (fun e => #[.slice (e 26).A np (e 26).n, .slice (e 30).A np (e 30).n]) (fun e => .bool true) rfl (fun _ => rfl) (by intro e; rfl) (fun e wx => by (go_simp; try rfl)) (fun e wx Lx h => by (
          have h : St M0 wx (blkR z 50 #[.int .i64 x.d, .int .i64 x.r, .int .i64 x.i, .int .i64 x.n, .slice B1 x.b.length d1] :: cacheR g s2.1 s2.2 :: rowsR 3 PutR (.slice (e 26).A np (e 26).n) (s2.2.filter (inReg x.r)) :: docR gd s2.1 s2.2 :: rowsR 3 PutR (.slice (e 30).A np (e 30).n) (s2.2.filter (inReg x.r)) :: Lx) := h
          refine (csame_st _ _ (s2.2.filter (inReg x.r)) _ HNP1.out (h.sub (L' := rowsR 3 PutR (.slice (e 26).A np (e 26).n) (s2.2.filter (inReg x.r)) :: rowsR 3 PutR (.slice (e 30).A np (e 30).n) (s2.2.filter (inReg x.r)) :: blkR z 50 #[.int .i64 x.d, .int .i64 x.r, .int .i64 x.i, .int .i64 x.n, .slice B1 x.b.length d1] :: cacheR g s2.1 s2.2 :: docR gd s2.1 s2.2 :: Lx) (by (repeat (first | with_reducible exact Sub.refl _ | (with_reducible apply Sub.take; focus (repeat (first | with_reducible exact At.here | with_reducible apply At.there))) | with_reducible apply Sub.drop))))).mono ?_
          rintro u wy ⟨rfl, h1⟩
          have hk : St M0 wy (blkR z 50 #[.int .i64 x.d, .int .i64 x.r, .int .i64 x.i, .int .i64 x.n, .slice B1 x.b.length d1] :: cacheR g s2.1 s2.2 :: docR gd s2.1 s2.2 :: Lx) := h1.sub (by (repeat (first | with_reducible exact Sub.refl _ | (with_reducible apply Sub.take; focus (repeat (first | with_reducible exact At.here | with_reducible apply At.there))) | with_reducible apply Sub.drop)))
          exact ⟨⟨none, 0, default⟩, rfl, hk⟩)) ?_
        (simp only [Act.put, List.setIfInBounds_toArray, List.set_cons_succ, List.set_cons_zero])
        refine flow_run _ rfl (fun _ => rfl) (fun e wx Lx h => by (go_simp; try rfl)) (by intro e; rfl) (by intro e; rfl) (by intro e x; rfl) ?_
        (simp only [Act.put, List.setIfInBounds_toArray, List.set_cons_succ, List.set_cons_zero])
        refine flow_run _ rfl (fun _ => rfl) (fun e wx Lx h => by (go_simp; try rfl)) (by intro e; rfl) (by intro e; rfl) (by intro e x; rfl) ?_
        (simp only [Act.put, List.setIfInBounds_toArray, List.set_cons_succ, List.set_cons_zero])
        refine flow_nil ?_
        intro e w1 h
        have h : St M0 w1 (blkR z 50 #[.int .i64 x.d, .int .i64 x.r, .int .i64 x.i, .int .i64 x.n, .slice B1 x.b.length d1] :: cacheR g s2.1 s2.2 :: docR gd s2.1 s2.2 :: rowsR 2 KeyR (.slice A8 nb c8) (s2.1.map keyOf) :: rowsR 5 OpR (.slice (some ad) n c) l :: L) := h
        have H6 := hide (h.sub (L' := cacheR g s2.1 s2.2 :: docR gd s2.1 s2.2 :: rowsR 2 KeyR (.slice A8 nb c8) (s2.1.map keyOf) :: rowsR 5 OpR (.slice (some ad) n c) l :: L) (by (repeat (first | with_reducible exact Sub.refl _ | (with_reducible apply Sub.take; focus (repeat (first | with_reducible exact At.here | with_reducible apply At.there))) | with_reducible apply Sub.drop))))
        clear h h0
        go_wp2_with fail
        go_loopg [19] nb (fun gh iv wr => ∃ (j : Nat), gh = nb - j ∧ j ≤ nb ∧ iv = .int .i64 (j : Nat) ∧ St M0 wr (cacheR g s2.1 s2.2 :: docR gd s2.1 s2.2 :: rowsR 2 KeyR (.slice A8 nb c8) (s2.1.map keyOf) :: rowsR 5 OpR (.slice (some ad) n c) l :: L))
        case atStart => exact ⟨0, rfl, by omega, rfl, H6.out⟩
        case round =>
          clear H6
          obtain ⟨j, hgj, hj, rfl, h⟩ := hrel
          have HGJ := hide hgj
          clear hgj
          by_cases hlj : j < nb
          · have hxj := List.getElem?_eq_getElem (l := s2.1) (i := j) (by rw [← HNB.out]; exact hlj)
            generalize s2.1[j]'(by rw [← HNB.out]; exact hlj) = p at hxj
            obtain ⟨A7, c7, B7, d7, hc7, _, hm7, _, h7⟩ := (h.sub (L' := docR gd s2.1 s2.2 :: cacheR g s2.1 s2.2 :: rowsR 2 KeyR (.slice A8 nb c8) (s2.1.map keyOf) :: rowsR 5 OpR (.slice (some ad) n c) l :: L) (by (repeat (first | with_reducible exact Sub.refl _ | (with_reducible apply Sub.take; focus (repeat (first | with_reducible exact At.here | with_reducible apply At.there))) | with_reducible apply Sub.drop)))).docO
            obtain ⟨a7, cs7, rfl, _, hcs7, ⟨v7, rfl, hv7⟩, _⟩ := h7.elem 1 rfl hxj
            obtain ⟨a8, cs8, rfl, _, hcs8, hv8, _⟩ := h7.elem 4 rfl (k := j) (x := keyOf p) (by rw [List.getElem?_map, hxj]; rfl)
            unfold KeyR keyOf at hv8
            subst hv8
            obtain ⟨f0, f1, f2⟩ := cells3 hcs7
            obtain ⟨g0, g1⟩ := cells2 hcs8
            have d0 := (h7.blk 0 rfl).cell 0
            rw [← HNB.out] at d0
            have j0 : (0 : Int) ≤ (j : Int) := by omega
            have j1 : (j : Int) < (nb : Int) := by omega
            have HJ := hide h
            clear hxj hcs7 hcs8 hv7 h7 h hc7
            go_wp2_with fail
            go_quiet (fail)
            go_wp2_with fail
            go_roundg (nb - (j + 1))
            case measure => have := HGJ.out; omega
            case rel => exact ⟨j + 1, rfl, by omega, by go_num, HJ.out.drewN _⟩
          · obtain rfl : j = nb := by omega
            have H7 := hide h
            clear h
            go_wp2_with fail
            go_roundg (n - (k + 1))
            case measure => have := HG.out; omega
            case rel => exact ⟨k + 1, rfl, by omega, by go_num, by rw [HS.out]; exact H7.out.sub (by (repeat (first | with_reducible exact Sub.refl _ | (with_reducible apply Sub.take; focus (repeat (first | with_reducible exact At.here | with_reducible apply At.there))) | with_reducible apply Sub.drop)))⟩
    · obtain rfl : k = n := by omega
      have H7 := hide (h.sub (L' := L) (by (repeat (first | with_reducible exact Sub.refl _ | (with_reducible apply Sub.take; focus (repeat (first | with_reducible exact At.here | with_reducible apply At.there))) | with_reducible apply Sub.drop))))
      clear h
      go_wp2_with fail
      go_ret
      exact ⟨rfl, H7.out⟩
end Go.Proofs.Ytbgknfdaaffeaaa
