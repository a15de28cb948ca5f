/- Locks: LocksPlays. Printed by gen_lkpl.py. -/
import Derived.Test.YtbgknfdaaffeaaaLkDo
import Derived.Test.YtbgknfdaaffeaaaLkIv
import Derived.Test.YtbgknfdaaffeaaaLkX3
import Derived.Test.YtbgknfdaaffeaaaLkU1
import Derived.Test.YtbgknfdaaffeaaaLkW
import Derived.Test.YtbgknfdaaffeaaaEqSt
import Derived.Deep.DeepCutAuto
import Derived.Deep.CutBlock
namespace Go.Proofs.Ytbgknfdaaffeaaa
open Go.RowKit Go.Shelf

set_option maxHeartbeats 16000000 in
set_option maxRecDepth 100000 in
theorem plays_st {M0 : Imm} {L : List Res} (v : Value) (l : List OpL) (w : World) (hb : ∀ o ∈ l, o.n ≤ 18446744073709551615) (h : St M0 w (rowsR 6 OpLR v l :: L)) :
    Calls Try.prog 13 #[v] w fun e w' => e = .returned (.bool true) ∧ ∃ L', St M0 w' L' := by
  obtain ⟨A, c, rfl, hc, hmx⟩ := (h.getRows 0 rfl).slice
  obtain ⟨n, hn⟩ : ∃ n, n = l.length := ⟨_, rfl⟩
  rw [← hn] at hc h ⊢
  have HN := hide hn
  have HB := hide hb
  have H := hide h
  clear h hn hb
  go_enter Try.func13, Try.ntmps13
  go_wp2_with fail
  refine (awakeL_st _ H.out).mono ?_
  rintro e w1 ⟨rfl, h1⟩
  have h2 := h1.newTab
  generalize hg : w1.heap.size = g at h2
  have h3 := h2.newDoc
  rw [World.size_alloc, hg] at h3
  have h3 : St M0 _ (docR (g + 1) newT :: tabR g newT :: rowsR 6 OpLR (.slice A n c) l :: L) := h3
  have HG0 := hide hg
  have H2 := hide h3
  clear h1 H h2 h3 hg
  by_cases h100 : n ≤ 100
  · have d1 : decide ((n : Int) > 100) = false := decide_eq_false (by omega)
    have d1' : decide ((100 : Int) < (n : Int)) = false := d1
    go_wp2_with fail
    rw [HG0.out]
    obtain ⟨gd, hgd⟩ : ∃ gd, gd = g + 1 := ⟨_, rfl⟩
    rw [← hgd] at H2 ⊢
    clear hgd HG0
    go_loopg [4, 6] n (fun gh tv iv wr => ∃ (i g : Nat) (T : TabM), gh = n - i ∧ i ≤ n ∧ tv = .pointer (some ⟨g, 0, none⟩) ∧ iv = .int .i64 (i : Nat) ∧ PInv T ∧ St M0 wr (tabR g T :: docR gd T :: rowsR 6 OpLR (.slice A n c) l :: L))
    case atStart => exact ⟨0, g, newT, rfl, by omega, rfl, rfl, PInv.zero, H2.out.sub (by (repeat (first | with_reducible exact Sub.refl _ | (with_reducible apply Sub.take; focus (repeat (first | with_reducible exact At.here | with_reducible apply At.there))) | with_reducible apply Sub.drop)))⟩
    case round =>
      clear H2
      obtain ⟨i, g, T, hgh, hi, rfl, rfl, hp, h⟩ := hrel
      have HG := hide hgh
      clear hgh
      by_cases hlt : i < n
      · have hx := List.getElem?_eq_getElem (l := l) (i := i) (by rw [← HN.out]; exact hlt)
        generalize l[i]'(by rw [← HN.out]; exact hlt) = o at hx
        have hon := HB.out o (List.mem_of_getElem? hx)
        obtain ⟨ad, cs, rfl, _, hcs, rfl, _⟩ := h.elem 2 rfl hx
        obtain ⟨e0, e1, e2, e3, e4, e5⟩ := cells6 hcs
        have i0 : (0 : Int) ≤ (i : Int) := by omega
        have i1 : (i : Int) < (n : Int) := by omega
        have h5 := h.alloc 84 #[.int .i64 o.d, .int .i64 o.c, .int .i64 o.r, .int .i64 o.m, .int .u64 o.n, .bool o.o]
        generalize hy : wr.heap.size = y at h5
        have HY := hide hy
        have H5 := hide (h5.sub (L' := blkR y 84 #[.int .i64 o.d, .int .i64 o.c, .int .i64 o.r, .int .i64 o.m, .int .u64 o.n, .bool o.o] :: tabR g T :: docR gd T :: rowsR 6 OpLR (.slice (some ad) n c) l :: L) (by (repeat (first | with_reducible exact Sub.refl _ | (with_reducible apply Sub.take; focus (repeat (first | with_reducible exact At.here | with_reducible apply At.there))) | with_reducible apply Sub.drop))))
        have HP := hide hp
        have HON := hide hon
        clear h hx hcs hp hon h5 hy
        go_wp2_with fail
        rw [HY.out]
        have h0 := H5.out
        clear HY H5 e0 e1 e2 e3 e4 e5
        generalize wr.alloc _ = w0 at h0 ⊢
        refine region_flow (M0 := M0) (L0 := docR gd T :: rowsR 6 OpLR (.slice (some ad) n c) l :: L) [⟨none, none, fun e => blkR y 84 #[.int .i64 o.d, .int .i64 o.c, .int .i64 o.r, .int .i64 o.m, .int .u64 o.n, .bool o.o]⟩, ⟨none, none, fun e => tabR g T⟩, ⟨some 4, none, fun e => keepR holdC 4 (.slice (e 4).A (T.holders o.r).length (e 4).n) (T.holders o.r)⟩] [[], [], [], [2], [1, 2, 3], [0, 1, 2, 3, 4], [0, 1, 2, 3, 4, 5]] [0, 1, 2, 3, 4, 5, 6] rfl (by kernel_rfl) (by kernel_rfl) (by kernel_rfl) (by rfl) (fun _ => rfl) (show St M0 _ (blkR y 84 #[.int .i64 o.d, .int .i64 o.c, .int .i64 o.r, .int .i64 o.m, .int .u64 o.n, .bool o.o] :: tabR g T :: docR gd T :: rowsR 6 OpLR (.slice (some ad) n c) l :: L) from h0) ?_
        refine flow_run _ rfl (fun _ => rfl) (fun e wx Lx h => by (have h : St M0 wx (blkR y 84 #[.int .i64 o.d, .int .i64 o.c, .int .i64 o.r, .int .i64 o.m, .int .u64 o.n, .bool o.o] :: tabR g T :: Lx) := h; have y0 := (h.blkA (g := y) (t := 84) (cs := #[.int .i64 o.d, .int .i64 o.c, .int .i64 o.r, .int .i64 o.m, .int .u64 o.n, .bool o.o]) (by (repeat (first | with_reducible exact At.here | with_reducible apply At.there)))).cell 0; have y1 := (h.blkA (g := y) (t := 84) (cs := #[.int .i64 o.d, .int .i64 o.c, .int .i64 o.r, .int .i64 o.m, .int .u64 o.n, .bool o.o]) (by (repeat (first | with_reducible exact At.here | with_reducible apply At.there)))).cell 1; have y2 := (h.blkA (g := y) (t := 84) (cs := #[.int .i64 o.d, .int .i64 o.c, .int .i64 o.r, .int .i64 o.m, .int .u64 o.n, .bool o.o]) (by (repeat (first | with_reducible exact At.here | with_reducible apply At.there)))).cell 2; have y3 := (h.blkA (g := y) (t := 84) (cs := #[.int .i64 o.d, .int .i64 o.c, .int .i64 o.r, .int .i64 o.m, .int .u64 o.n, .bool o.o]) (by (repeat (first | with_reducible exact At.here | with_reducible apply At.there)))).cell 3; have y4 := (h.blkA (g := y) (t := 84) (cs := #[.int .i64 o.d, .int .i64 o.c, .int .i64 o.r, .int .i64 o.m, .int .u64 o.n, .bool o.o]) (by (repeat (first | with_reducible exact At.here | with_reducible apply At.there)))).cell 4; have y5 := (h.blkA (g := y) (t := 84) (cs := #[.int .i64 o.d, .int .i64 o.c, .int .i64 o.r, .int .i64 o.m, .int .u64 o.n, .bool o.o]) (by (repeat (first | with_reducible exact At.here | with_reducible apply At.there)))).cell 5; go_simp; try rfl)) (by intro e; rfl) (by intro e; rfl) (by intro e x; rfl) ?_
        (simp only [Act.put, List.setIfInBounds_toArray, List.set_cons_succ, List.set_cons_zero])
        refine flow_run _ rfl (fun _ => rfl) (fun e wx Lx h => by (go_simp; try rfl)) (by intro e; rfl) (by intro e; rfl) (by intro e x; rfl) ?_
        (simp only [Act.put, List.setIfInBounds_toArray, List.set_cons_succ, List.set_cons_zero])
        refine flow_run _ rfl (fun _ => rfl) (fun e wx Lx h => by (go_simp; try rfl)) (by intro e; rfl) (by intro e; rfl) (by intro e x; rfl) ?_
        (simp only [Act.put, List.setIfInBounds_toArray, List.set_cons_succ, List.set_cons_zero])
        refine flow_run _ rfl (fun _ => rfl) (fun e wx Lx h => by (have h : St M0 wx (blkR y 84 #[.int .i64 o.d, .int .i64 o.c, .int .i64 o.r, .int .i64 o.m, .int .u64 o.n, .bool o.o] :: tabR g T :: Lx) := h; have y0 := (h.blkA (g := y) (t := 84) (cs := #[.int .i64 o.d, .int .i64 o.c, .int .i64 o.r, .int .i64 o.m, .int .u64 o.n, .bool o.o]) (by (repeat (first | with_reducible exact At.here | with_reducible apply At.there)))).cell 0; have y1 := (h.blkA (g := y) (t := 84) (cs := #[.int .i64 o.d, .int .i64 o.c, .int .i64 o.r, .int .i64 o.m, .int .u64 o.n, .bool o.o]) (by (repeat (first | with_reducible exact At.here | with_reducible apply At.there)))).cell 1; have y2 := (h.blkA (g := y) (t := 84) (cs := #[.int .i64 o.d, .int .i64 o.c, .int .i64 o.r, .int .i64 o.m, .int .u64 o.n, .bool o.o]) (by (repeat (first | with_reducible exact At.here | with_reducible apply At.there)))).cell 2; have y3 := (h.blkA (g := y) (t := 84) (cs := #[.int .i64 o.d, .int .i64 o.c, .int .i64 o.r, .int .i64 o.m, .int .u64 o.n, .bool o.o]) (by (repeat (first | with_reducible exact At.here | with_reducible apply At.there)))).cell 3; have y4 := (h.blkA (g := y) (t := 84) (cs := #[.int .i64 o.d, .int .i64 o.c, .int .i64 o.r, .int .i64 o.m, .int .u64 o.n, .bool o.o]) (by (repeat (first | with_reducible exact At.here | with_reducible apply At.there)))).cell 4; have y5 := (h.blkA (g := y) (t := 84) (cs := #[.int .i64 o.d, .int .i64 o.c, .int .i64 o.r, .int .i64 o.m, .int .u64 o.n, .bool o.o]) (by (repeat (first | with_reducible exact At.here | with_reducible apply At.there)))).cell 5; go_simp; try rfl)) (by intro e; rfl) (by intro e; rfl) (by intro e x; rfl) ?_
        (simp only [Act.put, List.setIfInBounds_toArray, List.set_cons_succ, List.set_cons_zero])
        refine flow_call 42 (fun e => #[.pointer (some ⟨g, 0, none⟩), .int .i64 o.r]) (fun e => .slice (e 4).A (T.holders o.r).length (e 4).n) rfl (fun _ => rfl) (by intro e; rfl) (fun e wx => by (go_simp; try rfl)) (fun e wx Lx h => by (
          have h : St M0 wx (blkR y 84 #[.int .i64 o.d, .int .i64 o.c, .int .i64 o.r, .int .i64 o.m, .int .u64 o.n, .bool o.o] :: tabR g T :: Lx) := h
          refine (holders_st g T o.r _ HP.out.ok (h.sub (L' := tabR g T :: blkR y 84 #[.int .i64 o.d, .int .i64 o.c, .int .i64 o.r, .int .i64 o.m, .int .u64 o.n, .bool o.o] :: Lx) (by (repeat (first | with_reducible exact Sub.refl _ | (with_reducible apply Sub.take; focus (repeat (first | with_reducible exact At.here | with_reducible apply At.there))) | with_reducible apply Sub.drop))))).mono ?_
          rintro u wy ⟨v, rfl, h1⟩
          obtain ⟨A', c', rfl, _⟩ := (h1.flatK At.here).value
          have hk : St M0 wy (blkR y 84 #[.int .i64 o.d, .int .i64 o.c, .int .i64 o.r, .int .i64 o.m, .int .u64 o.n, .bool o.o] :: tabR g T :: keepR holdC 4 (.slice A' (T.holders o.r).length c') (T.holders o.r) :: Lx) := h1.sub (by (repeat (first | with_reducible exact Sub.refl _ | (with_reducible apply Sub.take; focus (repeat (first | with_reducible exact At.here | with_reducible apply At.there))) | with_reducible apply Sub.drop)))
          exact ⟨⟨A', c', default⟩, rfl, hk⟩)) ?_
        (simp only [Act.put, List.setIfInBounds_toArray, List.set_cons_succ, List.set_cons_zero])
        refine flow_call 61 (fun e => #[.agg #[.int .i64 o.d, .int .i64 o.c, .int .i64 o.r, .int .i64 o.m, .int .u64 o.n, .bool o.o], .slice (e 4).A (T.holders o.r).length (e 4).n]) (fun e => .int .u64 (tokenM o (T.holders o.r))) rfl (fun _ => rfl) (by intro e; rfl) (fun e wx => by (go_simp; try rfl)) (fun e wx Lx h => by (
          have h : St M0 wx (blkR y 84 #[.int .i64 o.d, .int .i64 o.c, .int .i64 o.r, .int .i64 o.m, .int .u64 o.n, .bool o.o] :: tabR g T :: keepR holdC 4 (.slice (e 4).A (T.holders o.r).length (e 4).n) (T.holders o.r) :: Lx) := h
          refine (token_st o (e 4).A (T.holders o.r).length (e 4).n (T.holders o.r) _ (fun W hW => hW.flatK (by (repeat (first | with_reducible exact At.here | with_reducible apply At.there)))) h).mono ?_
          rintro u wy ⟨rfl, h1⟩
          have hk : St M0 wy (blkR y 84 #[.int .i64 o.d, .int .i64 o.c, .int .i64 o.r, .int .i64 o.m, .int .u64 o.n, .bool o.o] :: tabR g T :: keepR holdC 4 (.slice (e 4).A (T.holders o.r).length (e 4).n) (T.holders o.r) :: Lx) := h1.sub (by (repeat (first | with_reducible exact Sub.refl _ | (with_reducible apply Sub.take; focus (repeat (first | with_reducible exact At.here | with_reducible apply At.there))) | with_reducible apply Sub.drop)))
          exact ⟨⟨none, 0, default⟩, rfl, hk⟩)) ?_
        (simp only [Act.put, List.setIfInBounds_toArray, List.set_cons_succ, List.set_cons_zero])
        refine flow_run _ rfl (fun _ => rfl) (fun e wx Lx h => by (go_simp; try rfl)) (by intro e; rfl) (by intro e; rfl) (by intro e x; rfl) ?_
        (simp only [Act.put, List.setIfInBounds_toArray, List.set_cons_succ, List.set_cons_zero])
        refine flow_nil ?_
        intro e w1 h
        have h : St M0 w1 (blkR y 84 #[.int .i64 o.d, .int .i64 o.c, .int .i64 o.r, .int .i64 o.m, .int .u64 o.n, .bool o.o] :: tabR g T :: keepR holdC 4 (.slice (e 4).A (T.holders o.r).length (e 4).n) (T.holders o.r) :: docR gd T :: rowsR 6 OpLR (.slice (some ad) n c) l :: L) := h
        have H2 := hide (h.sub (L' := tabR g T :: docR gd T :: blkR y 84 #[.int .i64 o.d, .int .i64 o.c, .int .i64 o.r, .int .i64 o.m, .int .u64 o.n, .bool o.o] :: rowsR 6 OpLR (.slice (some ad) n c) l :: L) (by (repeat (first | with_reducible exact Sub.refl _ | (with_reducible apply Sub.take; focus (repeat (first | with_reducible exact At.here | with_reducible apply At.there))) | with_reducible apply Sub.drop))))
        clear h h0
        have y0 := (H2.out.blkA (g := y) (t := 84) (cs := #[.int .i64 o.d, .int .i64 o.c, .int .i64 o.r, .int .i64 o.m, .int .u64 o.n, .bool o.o]) (by (repeat (first | with_reducible exact At.here | with_reducible apply At.there)))).cell 0
        have y1 := (H2.out.blkA (g := y) (t := 84) (cs := #[.int .i64 o.d, .int .i64 o.c, .int .i64 o.r, .int .i64 o.m, .int .u64 o.n, .bool o.o]) (by (repeat (first | with_reducible exact At.here | with_reducible apply At.there)))).cell 1
        have y2 := (H2.out.blkA (g := y) (t := 84) (cs := #[.int .i64 o.d, .int .i64 o.c, .int .i64 o.r, .int .i64 o.m, .int .u64 o.n, .bool o.o]) (by (repeat (first | with_reducible exact At.here | with_reducible apply At.there)))).cell 2
        have y3 := (H2.out.blkA (g := y) (t := 84) (cs := #[.int .i64 o.d, .int .i64 o.c, .int .i64 o.r, .int .i64 o.m, .int .u64 o.n, .bool o.o]) (by (repeat (first | with_reducible exact At.here | with_reducible apply At.there)))).cell 3
        have y4 := (H2.out.blkA (g := y) (t := 84) (cs := #[.int .i64 o.d, .int .i64 o.c, .int .i64 o.r, .int .i64 o.m, .int .u64 o.n, .bool o.o]) (by (repeat (first | with_reducible exact At.here | with_reducible apply At.there)))).cell 4
        go_upto_block 2 with fail
        go_cut [4, 9, 10, 11, 12] (fun tv xv yv av bw wx => ∃ (g2 : Nat) (T2 : TabM) (x a : Int), PInv T2 ∧ tv = .pointer (some ⟨g2, 0, none⟩) ∧ xv = .int .i64 x ∧ yv = .int .i64 x ∧ av = .int .u64 a ∧ bw = .int .u64 a ∧ St M0 wx (tabR g2 T2 :: docR gd T2 :: rowsR 6 OpLR (.slice (some ad) n c) l :: L))
        case first =>
          by_cases h1 : o.d = 1
          · have b1 := isT h1
            clear h1
            go_wp2_with fail
            refine (acquire_st g T o.c o.r o.m _ HP.out.ok H2.out).mono ?_
            rintro e w3 ⟨rfl, h3⟩
            clear y0 y1 y2 y3 y4
            have h4 := h3.sub (L' := docR gd T :: tabR g ((T.acquire o.c o.r o.m).1) :: blkR y 84 #[.int .i64 o.d, .int .i64 o.c, .int .i64 o.r, .int .i64 o.m, .int .u64 o.n, .bool o.o] :: rowsR 6 OpLR (.slice (some ad) n c) l :: L) (by (repeat (first | with_reducible exact Sub.refl _ | (with_reducible apply Sub.take; focus (repeat (first | with_reducible exact At.here | with_reducible apply At.there))) | with_reducible apply Sub.drop)))
            have y0 := (h4.blkA (g := y) (t := 84) (cs := #[.int .i64 o.d, .int .i64 o.c, .int .i64 o.r, .int .i64 o.m, .int .u64 o.n, .bool o.o]) (by (repeat (first | with_reducible exact At.here | with_reducible apply At.there)))).cell 0
            have y1 := (h4.blkA (g := y) (t := 84) (cs := #[.int .i64 o.d, .int .i64 o.c, .int .i64 o.r, .int .i64 o.m, .int .u64 o.n, .bool o.o]) (by (repeat (first | with_reducible exact At.here | with_reducible apply At.there)))).cell 1
            have y2 := (h4.blkA (g := y) (t := 84) (cs := #[.int .i64 o.d, .int .i64 o.c, .int .i64 o.r, .int .i64 o.m, .int .u64 o.n, .bool o.o]) (by (repeat (first | with_reducible exact At.here | with_reducible apply At.there)))).cell 2
            have y3 := (h4.blkA (g := y) (t := 84) (cs := #[.int .i64 o.d, .int .i64 o.c, .int .i64 o.r, .int .i64 o.m, .int .u64 o.n, .bool o.o]) (by (repeat (first | with_reducible exact At.here | with_reducible apply At.there)))).cell 3
            have y4 := (h4.blkA (g := y) (t := 84) (cs := #[.int .i64 o.d, .int .i64 o.c, .int .i64 o.r, .int .i64 o.m, .int .u64 o.n, .bool o.o]) (by (repeat (first | with_reducible exact At.here | with_reducible apply At.there)))).cell 4
            have H3 := hide h4
            clear h3 h4 H2
            go_wp2_with fail
            refine (racquire_st gd T o.c o.r o.m _ HP.out.ok HP.out.reg H3.out).mono ?_
            rintro e w4 ⟨rfl, h3⟩
            clear y0 y1 y2 y3 y4
            have H4 := hide h3
            clear h3 H3
            go_wp2_with fail
            go_meet
            exact ⟨g, ((T.acquire o.c o.r o.m).1), _, _, HP.out.acquire _ _ _, rfl, rfl, rfl, rfl, rfl, H4.out.sub (by (repeat (first | with_reducible exact Sub.refl _ | (with_reducible apply Sub.take; focus (repeat (first | with_reducible exact At.here | with_reducible apply At.there))) | with_reducible apply Sub.drop)))⟩
          have b1 := isF h1
          by_cases h2 : o.d = 2
          · have b2 := isT h2
            clear h1 h2
            go_wp2_with fail
            refine (release_st g T o.c o.r (tokenM o (T.holders o.r)) _ HP.out.ok H2.out).mono ?_
            rintro e w3 ⟨rfl, h3⟩
            clear y0 y1 y2 y3 y4
            have h4 := h3.sub (L' := docR gd T :: tabR g ((T.release o.c o.r (tokenM o (T.holders o.r))).1) :: blkR y 84 #[.int .i64 o.d, .int .i64 o.c, .int .i64 o.r, .int .i64 o.m, .int .u64 o.n, .bool o.o] :: rowsR 6 OpLR (.slice (some ad) n c) l :: L) (by (repeat (first | with_reducible exact Sub.refl _ | (with_reducible apply Sub.take; focus (repeat (first | with_reducible exact At.here | with_reducible apply At.there))) | with_reducible apply Sub.drop)))
            have y0 := (h4.blkA (g := y) (t := 84) (cs := #[.int .i64 o.d, .int .i64 o.c, .int .i64 o.r, .int .i64 o.m, .int .u64 o.n, .bool o.o]) (by (repeat (first | with_reducible exact At.here | with_reducible apply At.there)))).cell 0
            have y1 := (h4.blkA (g := y) (t := 84) (cs := #[.int .i64 o.d, .int .i64 o.c, .int .i64 o.r, .int .i64 o.m, .int .u64 o.n, .bool o.o]) (by (repeat (first | with_reducible exact At.here | with_reducible apply At.there)))).cell 1
            have y2 := (h4.blkA (g := y) (t := 84) (cs := #[.int .i64 o.d, .int .i64 o.c, .int .i64 o.r, .int .i64 o.m, .int .u64 o.n, .bool o.o]) (by (repeat (first | with_reducible exact At.here | with_reducible apply At.there)))).cell 2
            have y3 := (h4.blkA (g := y) (t := 84) (cs := #[.int .i64 o.d, .int .i64 o.c, .int .i64 o.r, .int .i64 o.m, .int .u64 o.n, .bool o.o]) (by (repeat (first | with_reducible exact At.here | with_reducible apply At.there)))).cell 3
            have y4 := (h4.blkA (g := y) (t := 84) (cs := #[.int .i64 o.d, .int .i64 o.c, .int .i64 o.r, .int .i64 o.m, .int .u64 o.n, .bool o.o]) (by (repeat (first | with_reducible exact At.here | with_reducible apply At.there)))).cell 4
            have H3 := hide h4
            clear h3 h4 H2
            go_wp2_with fail
            refine (rrelease_st gd T o.c o.r (tokenM o (T.holders o.r)) _ HP.out.ok HP.out.reg H3.out).mono ?_
            rintro e w4 ⟨rfl, h3⟩
            clear y0 y1 y2 y3 y4
            have H4 := hide h3
            clear h3 H3
            go_wp2_with fail
            go_meet
            exact ⟨g, ((T.release o.c o.r (tokenM o (T.holders o.r))).1), _, 0, HP.out.release _ _ _, rfl, rfl, rfl, rfl, rfl, H4.out.sub (by (repeat (first | with_reducible exact Sub.refl _ | (with_reducible apply Sub.take; focus (repeat (first | with_reducible exact At.here | with_reducible apply At.there))) | with_reducible apply Sub.drop)))⟩
          have b2 := isF h2
          by_cases h3 : o.d = 3
          · have b3 := isT h3
            clear h1 h2 h3
            go_wp2_with fail
            refine (renew_st g T o.c o.r (tokenM o (T.holders o.r)) _ HP.out.ok H2.out).mono ?_
            rintro e w3 ⟨rfl, h3⟩
            clear y0 y1 y2 y3 y4
            have h4 := h3.sub (L' := docR gd T :: tabR g ((T.renew o.c o.r (tokenM o (T.holders o.r))).1) :: blkR y 84 #[.int .i64 o.d, .int .i64 o.c, .int .i64 o.r, .int .i64 o.m, .int .u64 o.n, .bool o.o] :: rowsR 6 OpLR (.slice (some ad) n c) l :: L) (by (repeat (first | with_reducible exact Sub.refl _ | (with_reducible apply Sub.take; focus (repeat (first | with_reducible exact At.here | with_reducible apply At.there))) | with_reducible apply Sub.drop)))
            have y0 := (h4.blkA (g := y) (t := 84) (cs := #[.int .i64 o.d, .int .i64 o.c, .int .i64 o.r, .int .i64 o.m, .int .u64 o.n, .bool o.o]) (by (repeat (first | with_reducible exact At.here | with_reducible apply At.there)))).cell 0
            have y1 := (h4.blkA (g := y) (t := 84) (cs := #[.int .i64 o.d, .int .i64 o.c, .int .i64 o.r, .int .i64 o.m, .int .u64 o.n, .bool o.o]) (by (repeat (first | with_reducible exact At.here | with_reducible apply At.there)))).cell 1
            have y2 := (h4.blkA (g := y) (t := 84) (cs := #[.int .i64 o.d, .int .i64 o.c, .int .i64 o.r, .int .i64 o.m, .int .u64 o.n, .bool o.o]) (by (repeat (first | with_reducible exact At.here | with_reducible apply At.there)))).cell 2
            have y3 := (h4.blkA (g := y) (t := 84) (cs := #[.int .i64 o.d, .int .i64 o.c, .int .i64 o.r, .int .i64 o.m, .int .u64 o.n, .bool o.o]) (by (repeat (first | with_reducible exact At.here | with_reducible apply At.there)))).cell 3
            have y4 := (h4.blkA (g := y) (t := 84) (cs := #[.int .i64 o.d, .int .i64 o.c, .int .i64 o.r, .int .i64 o.m, .int .u64 o.n, .bool o.o]) (by (repeat (first | with_reducible exact At.here | with_reducible apply At.there)))).cell 4
            have H3 := hide h4
            clear h3 h4 H2
            go_wp2_with fail
            refine (rrenew_st gd T o.c o.r (tokenM o (T.holders o.r)) _ HP.out.ok H3.out).mono ?_
            rintro e w4 ⟨rfl, h3⟩
            clear y0 y1 y2 y3 y4
            have H4 := hide h3
            clear h3 H3
            go_wp2_with fail
            go_meet
            exact ⟨g, ((T.renew o.c o.r (tokenM o (T.holders o.r))).1), _, _, HP.out.renew _ _ _, rfl, rfl, rfl, rfl, rfl, H4.out.sub (by (repeat (first | with_reducible exact Sub.refl _ | (with_reducible apply Sub.take; focus (repeat (first | with_reducible exact At.here | with_reducible apply At.there))) | with_reducible apply Sub.drop)))⟩
          have b3 := isF h3
          by_cases h4 : o.d = 4
          · have b4 := isT h4
            clear h1 h2 h3 h4
            go_wp2_with fail
            refine (cancel_st g T o.c o.r _ HP.out.ok H2.out).mono ?_
            rintro e w3 ⟨rfl, h3⟩
            clear y0 y1 y2 y3 y4
            have h4 := h3.sub (L' := docR gd T :: tabR g ((T.cancel o.c o.r).1) :: blkR y 84 #[.int .i64 o.d, .int .i64 o.c, .int .i64 o.r, .int .i64 o.m, .int .u64 o.n, .bool o.o] :: rowsR 6 OpLR (.slice (some ad) n c) l :: L) (by (repeat (first | with_reducible exact Sub.refl _ | (with_reducible apply Sub.take; focus (repeat (first | with_reducible exact At.here | with_reducible apply At.there))) | with_reducible apply Sub.drop)))
            have y0 := (h4.blkA (g := y) (t := 84) (cs := #[.int .i64 o.d, .int .i64 o.c, .int .i64 o.r, .int .i64 o.m, .int .u64 o.n, .bool o.o]) (by (repeat (first | with_reducible exact At.here | with_reducible apply At.there)))).cell 0
            have y1 := (h4.blkA (g := y) (t := 84) (cs := #[.int .i64 o.d, .int .i64 o.c, .int .i64 o.r, .int .i64 o.m, .int .u64 o.n, .bool o.o]) (by (repeat (first | with_reducible exact At.here | with_reducible apply At.there)))).cell 1
            have y2 := (h4.blkA (g := y) (t := 84) (cs := #[.int .i64 o.d, .int .i64 o.c, .int .i64 o.r, .int .i64 o.m, .int .u64 o.n, .bool o.o]) (by (repeat (first | with_reducible exact At.here | with_reducible apply At.there)))).cell 2
            have y3 := (h4.blkA (g := y) (t := 84) (cs := #[.int .i64 o.d, .int .i64 o.c, .int .i64 o.r, .int .i64 o.m, .int .u64 o.n, .bool o.o]) (by (repeat (first | with_reducible exact At.here | with_reducible apply At.there)))).cell 3
            have y4 := (h4.blkA (g := y) (t := 84) (cs := #[.int .i64 o.d, .int .i64 o.c, .int .i64 o.r, .int .i64 o.m, .int .u64 o.n, .bool o.o]) (by (repeat (first | with_reducible exact At.here | with_reducible apply At.there)))).cell 4
            have H3 := hide h4
            clear h3 h4 H2
            go_wp2_with fail
            refine (rcancel_st gd T o.c o.r _ HP.out.ok HP.out.reg H3.out).mono ?_
            rintro e w4 ⟨rfl, h3⟩
            clear y0 y1 y2 y3 y4
            have H4 := hide h3
            clear h3 H3
            go_wp2_with fail
            go_meet
            exact ⟨g, ((T.cancel o.c o.r).1), _, 0, HP.out.cancel _ _, rfl, rfl, rfl, rfl, rfl, H4.out.sub (by (repeat (first | with_reducible exact Sub.refl _ | (with_reducible apply Sub.take; focus (repeat (first | with_reducible exact At.here | with_reducible apply At.there))) | with_reducible apply Sub.drop)))⟩
          have b4 := isF h4
          by_cases h5 : o.d = 5
          · have b5 := isT h5
            clear h1 h2 h3 h4 h5
            go_wp2_with fail
            refine (time_st g T o.n _ HP.out.ok HON.out H2.out).mono ?_
            rintro e w3 ⟨rfl, h3⟩
            clear y0 y1 y2 y3 y4
            have h4 := h3.sub (L' := docR gd T :: tabR g (T.time o.n) :: blkR y 84 #[.int .i64 o.d, .int .i64 o.c, .int .i64 o.r, .int .i64 o.m, .int .u64 o.n, .bool o.o] :: rowsR 6 OpLR (.slice (some ad) n c) l :: L) (by (repeat (first | with_reducible exact Sub.refl _ | (with_reducible apply Sub.take; focus (repeat (first | with_reducible exact At.here | with_reducible apply At.there))) | with_reducible apply Sub.drop)))
            have y0 := (h4.blkA (g := y) (t := 84) (cs := #[.int .i64 o.d, .int .i64 o.c, .int .i64 o.r, .int .i64 o.m, .int .u64 o.n, .bool o.o]) (by (repeat (first | with_reducible exact At.here | with_reducible apply At.there)))).cell 0
            have y1 := (h4.blkA (g := y) (t := 84) (cs := #[.int .i64 o.d, .int .i64 o.c, .int .i64 o.r, .int .i64 o.m, .int .u64 o.n, .bool o.o]) (by (repeat (first | with_reducible exact At.here | with_reducible apply At.there)))).cell 1
            have y2 := (h4.blkA (g := y) (t := 84) (cs := #[.int .i64 o.d, .int .i64 o.c, .int .i64 o.r, .int .i64 o.m, .int .u64 o.n, .bool o.o]) (by (repeat (first | with_reducible exact At.here | with_reducible apply At.there)))).cell 2
            have y3 := (h4.blkA (g := y) (t := 84) (cs := #[.int .i64 o.d, .int .i64 o.c, .int .i64 o.r, .int .i64 o.m, .int .u64 o.n, .bool o.o]) (by (repeat (first | with_reducible exact At.here | with_reducible apply At.there)))).cell 3
            have y4 := (h4.blkA (g := y) (t := 84) (cs := #[.int .i64 o.d, .int .i64 o.c, .int .i64 o.r, .int .i64 o.m, .int .u64 o.n, .bool o.o]) (by (repeat (first | with_reducible exact At.here | with_reducible apply At.there)))).cell 4
            have H3 := hide h4
            clear h3 h4 H2
            go_wp2_with fail
            refine (rtime_st gd T o.n _ HP.out.ok (fun i hi => ⟨fun x hx => ((HP.out.reg i hi).h x hx).2.1, fun x hx => ((HP.out.reg i hi).w x hx).2⟩) HON.out H3.out).mono ?_
            rintro e w4 ⟨rfl, h3⟩
            clear y0 y1 y2 y3 y4
            have H4 := hide h3
            clear h3 H3
            go_wp2_with fail
            go_meet
            exact ⟨g, (T.time o.n), 0, 0, HP.out.time HON.out, rfl, rfl, rfl, rfl, rfl, H4.out.sub (by (repeat (first | with_reducible exact Sub.refl _ | (with_reducible apply Sub.take; focus (repeat (first | with_reducible exact At.here | with_reducible apply At.there))) | with_reducible apply Sub.drop)))⟩
          have b5 := isF h5
          by_cases h6 : o.d = 6
          · have b6 := isT h6
            clear h1 h2 h3 h4 h5 h6 y0 y1 y2 y3 y4
            go_wp2_with fail
            refine (packL_st g T _ HP.out.ok HP.out.pack H2.out).mono ?_
            rintro e w3 ⟨v4, rfl, h3⟩
            obtain ⟨p, hp⟩ : ∃ p, p = packT T := ⟨_, rfl⟩
            rw [← hp] at h3
            have HPK := hide hp
            have h4 := (St.ints (k := .u8) (xs := p) h3).sub (L' := docR gd T :: tabR g T :: intsR .u8 v4 p :: blkR y 84 #[.int .i64 o.d, .int .i64 o.c, .int .i64 o.r, .int .i64 o.m, .int .u64 o.n, .bool o.o] :: rowsR 6 OpLR (.slice (some ad) n c) l :: L) (by (repeat (first | with_reducible exact Sub.refl _ | (with_reducible apply Sub.take; focus (repeat (first | with_reducible exact At.here | with_reducible apply At.there))) | with_reducible apply Sub.drop)))
            have H3 := hide h4
            clear h3 h4 H2 hp
            go_wp2_with fail
            refine (rpackL_st gd T _ HP.out.ok HP.out.pack H3.out).mono ?_
            rintro e w4 ⟨v5, rfl, h3⟩
            rw [← HPK.out] at h3
            have H4 := hide ((St.ints (k := .u8) (xs := p) h3).sub (L' := intsR .u8 v5 p :: intsR .u8 v4 p :: docR gd T :: tabR g T :: blkR y 84 #[.int .i64 o.d, .int .i64 o.c, .int .i64 o.r, .int .i64 o.m, .int .u64 o.n, .bool o.o] :: rowsR 6 OpLR (.slice (some ad) n c) l :: L) (by (repeat (first | with_reducible exact Sub.refl _ | (with_reducible apply Sub.take; focus (repeat (first | with_reducible exact At.here | with_reducible apply At.there))) | with_reducible apply Sub.drop))))
            clear h3 H3
            go_wp2_with fail
            refine (same_true v4 v5 p _ (H4.out.get 1 rfl) (H4.out.get 0 rfl) H4.out).mono ?_
            rintro e w5 ⟨rfl, h3⟩
            have H5 := hide (h3.tail)
            clear h3 H4
            go_wp2_with fail
            refine (unpack_st v4 p _ ⟨by rw [HPK.out]; exact packT_bytes T, by rw [HPK.out]; have := packT_length HP.out; show (packT T).length ≤ _; omega, fun h => by cases h⟩ H5.out).mono ?_
            rintro e w6 hq
            have hE : uE p = 0 := by rw [HPK.out]; exact (packT_back HP.out).1
            rcases hq with ⟨_, g2, rfl, h⟩ | ⟨hE2, _⟩
            case inr => exact absurd hE hE2
            rw [HPK.out, tabR_back HP.out] at h
            have H6 := hide h
            clear h H5 hE
            go_wp2_with fail
            go_meet
            exact ⟨g2, T, 0, 0, HP.out, rfl, rfl, rfl, rfl, rfl, H6.out.sub (by (repeat (first | with_reducible exact Sub.refl _ | (with_reducible apply Sub.take; focus (repeat (first | with_reducible exact At.here | with_reducible apply At.there))) | with_reducible apply Sub.drop)))⟩
          have b6 := isF h6
          clear h1 h2 h3 h4 h5 h6
          go_wp2_with fail
          go_meet
          exact ⟨g, T, 0, 0, HP.out, rfl, rfl, rfl, rfl, rfl, H2.out.sub (by (repeat (first | with_reducible exact Sub.refl _ | (with_reducible apply Sub.take; focus (repeat (first | with_reducible exact At.here | with_reducible apply At.there))) | with_reducible apply Sub.drop)))⟩
        case rest =>
          clear y0 y1 y2 y3 y4 H2
          obtain ⟨g2, T2, x, a, hp2, rfl, rfl, rfl, rfl, rfl, h⟩ := hcut
          have HP2 := hide hp2
          have H3 := hide h
          clear h hp2
          have dx : (x != x) = false := isNF rfl
          have da : (a != a) = false := isNF rfl
          go_wp2_with fail
          refine (sameL_st g2 gd T2 _ HP2.out.ok HP2.out.reg H3.out).mono ?_
          rintro e w5 ⟨rfl, h3⟩
          have H4 := hide h3
          clear h3 H3
          go_wp2_with fail
          go_roundg (n - (i + 1))
          case measure => have := HG.out; omega
          case rel => exact ⟨i + 1, g2, T2, rfl, by omega, rfl, by go_num, HP2.out, H4.out⟩
      · obtain rfl : i = n := by omega
        have H1 := hide h
        clear h
        go_wp2_with fail
        go_ret
        exact ⟨rfl, _, H1.out⟩
  · have d1 : decide ((n : Int) > 100) = true := decide_eq_true (by omega)
    have d1' : decide ((100 : Int) < (n : Int)) = true := d1
    go_wp2_with fail
    go_ret
    exact ⟨rfl, _, H2.out⟩
end Go.Proofs.Ytbgknfdaaffeaaa
