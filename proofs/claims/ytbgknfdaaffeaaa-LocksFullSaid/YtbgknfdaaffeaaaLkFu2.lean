/- Locks: LocksFull. Printed by gen_lkfu2.py. -/
import Derived.Test.YtbgknfdaaffeaaaLkFu
import Derived.Test.YtbgknfdaaffeaaaLkU2
import Derived.Test.YtbgknfdaaffeaaaLkW
import Derived.Test.YtbgknfdaaffeaaaMakeB
import Derived.Test.YtbgknfdaaffeaaaRNum
import Derived.Test.YtbgknfdaaffeaaaStZeros
namespace Go.Proofs.Ytbgknfdaaffeaaa
open Go.RowKit Go.Shelf

set_option maxHeartbeats 8000000 in
set_option maxRecDepth 100000 in
theorem full_st {M0 : Imm} {L : List Res} (left : Int) (v : Value) (l : List OpL) (w : World) (h : St M0 w (rowsR 6 OpLR v l :: L)) :
    Calls Try.prog 9 #[.int .i64 left, v] w fun e w' => e = .returned (.bool true) ∧ ∃ L', St M0 w' L' := by
  obtain ⟨A, c, rfl, hc, hmx⟩ := (h.getRows 0 rfl).slice
  obtain ⟨n, hn⟩ : ∃ n, n = l.length := ⟨_, rfl⟩
  rw [← hn] at hc h ⊢
  have HN := hide hn
  have H := hide h
  clear h hn
  go_enter Try.func9, Try.ntmps9
  go_wp2_with fail
  refine (awakeL_st _ H.out).mono ?_
  rintro e w1 ⟨rfl, h1⟩
  have H1 := hide h1
  clear h1 H
  by_cases hin : 0 ≤ left ∧ left ≤ 5 ∧ n ≤ 10
  · have d1 : decide (left < 0) = false := decide_eq_false (by omega)
    have d2 : decide (left > 5) = false := decide_eq_false (by omega)
    have d2' : decide (5 < left) = false := d2
    have d3 : decide ((n : Int) > 10) = false := decide_eq_false (by omega)
    have d3' : decide ((10 : Int) < (n : Int)) = false := d3
    have hl0 := hin.1
    have hl5 := hin.2.1
    have HF := hide (fullBs_ok ⟨hl0, hl5⟩)
    obtain ⟨nb, hnb⟩ : ∃ nb, nb = numI (18446744073709551615 - left) 8 := ⟨_, rfl⟩
    have HNB := hide hnb
    have HNL := hide (show nb.length = 8 by rw [hnb]; unfold numI; rw [if_neg (by omega), numB_length]; rfl)
    have wl : IntKind.u64.wrap left = left := IntWalk.u64_in _ (by omega)
    have ws : IntKind.u64.wrap (18446744073709551615 - left) = 18446744073709551615 - left := IntWalk.u64_in _ (by omega)
    clear hnb
    go_wp2_with fail
    have h0 := H1.out
    clear H1
    refine region_flow (M0 := M0) (L0 := rowsR 6 OpLR (.slice A n c) l :: L) [⟨some 0, some 5, fun e => rowR 5 1 (.slice (some ⟨(e 0).n, 0, none⟩) 8 8) 8 (bv (List.replicate 8 0))⟩, ⟨some 4, none, fun e => intsR .u8 (.slice (e 4).A 8 (e 4).n) nb⟩, ⟨some 5, none, fun e => rowR 5 1 (.slice (e 5).A 16 (e 5).n) 16 (bv (List.replicate 8 0) ++ bv nb)⟩] [[], [], [1], [1, 2], [1, 2, 3], [0, 1, 2, 3, 4], [0, 1, 2, 3, 4, 5]] [0, 1, 2, 3, 4, 5, 6] rfl (by kernel_rfl) (by kernel_rfl) (by kernel_rfl) (by rfl) (fun _ => rfl) (show St M0 _ (rowsR 6 OpLR (.slice A n c) l :: L) from h0) ?_
    refine flow_do (fun e => .slice (some ⟨(e 0).n, 0, none⟩) 8 8) rfl (fun _ => rfl) (by intro e; rfl) (fun e wx Lx h => by (
      have h : St M0 wx (Lx) := h
      have hk : St M0 _ (rowR 5 1 (.slice (some ⟨wx.heap.size, 0, none⟩) 8 8) 8 (bv (List.replicate 8 0)) :: Lx) := (h.litRow 5 1 8 (bv (List.replicate 8 0)) rfl (by omega) wx.heap.size rfl).sub (by (repeat (first | with_reducible exact Sub.refl _ | (with_reducible apply Sub.take; focus (repeat (first | with_reducible exact At.here | with_reducible apply At.there))) | with_reducible apply Sub.drop)))
      exact ⟨⟨none, wx.heap.size, default⟩, _, exec_makeSlice rfl rfl rfl (make_b 8 (by omega) _), hk⟩)) ?_
    (simp only [Act.put, List.setIfInBounds_toArray, List.set_cons_succ, List.set_cons_zero])
    refine flow_run _ rfl (fun _ => rfl) (fun e wx Lx h => by (go_simp; try rfl)) (by intro e; rfl) (by intro e; rfl) (by intro e x; rfl) ?_
    (simp only [Act.put, List.setIfInBounds_toArray, List.set_cons_succ, List.set_cons_zero])
    refine flow_run (fun e => .int .u64 left) rfl (fun _ => rfl) (fun e wx Lx h => by (go_simp; try rfl)) (by intro e; rfl) (by intro e; rfl) (by intro e x; rfl) ?_
    (simp only [Act.put, List.setIfInBounds_toArray, List.set_cons_succ, List.set_cons_zero])
    refine flow_run (fun e => .int .u64 (18446744073709551615 - left)) rfl (fun _ => rfl) (fun e wx Lx h => by (go_simp; try rfl)) (by intro e; rfl) (by intro e; rfl) (by intro e x; rfl) ?_
    (simp only [Act.put, List.setIfInBounds_toArray, List.set_cons_succ, List.set_cons_zero])
    refine flow_call 54 (fun e => #[.int .u64 (18446744073709551615 - left), .int .i64 8]) (fun e => .slice (e 4).A 8 (e 4).n) rfl (fun _ => rfl) (by intro e; rfl) (fun e wx => by (go_simp; try rfl)) (fun e wx Lx h => by (
      have h : St M0 wx (Lx) := h
      refine (rnum_st (18446744073709551615 - left) 8 _ (by omega) (by omega) h).mono ?_
      rintro u wy ⟨v, rfl, h1⟩
      rw [← HNB.out, HNL.out] at h1
      have h2 := St.ints (k := .u8) (xs := nb) h1
      obtain ⟨A', c', rfl, _⟩ := h2.get 0 rfl
      rw [HNL.out] at h2
      have hk : St M0 wy (intsR .u8 (.slice A' 8 c') nb :: Lx) := h2.sub (by (repeat (first | with_reducible exact Sub.refl _ | (with_reducible apply Sub.take; focus (repeat (first | with_reducible exact At.here | with_reducible apply At.there))) | with_reducible apply Sub.drop)))
      exact ⟨⟨A', c', default⟩, (by rw [HNL.out]; rfl), hk⟩)) ?_
    (simp only [Act.put, List.setIfInBounds_toArray, List.set_cons_succ, List.set_cons_zero])
    refine flow_do (fun e => .slice (e 5).A 16 (e 5).n) rfl (fun _ => rfl) (by intro e; rfl) (fun e wx Lx h => by (
      have h : St M0 wx (rowR 5 1 (.slice (some ⟨(e 0).n, 0, none⟩) 8 8) 8 (bv (List.replicate 8 0)) :: intsR .u8 (.slice (e 4).A 8 (e 4).n) nb :: Lx) := h
      have hn := (h.getA (Q := fun w => Ints w .u8 (.slice (e 4).A 8 (e 4).n) nb) (by (repeat (first | with_reducible exact At.here | with_reducible apply At.there)))).sl.2.2.2
      obtain ⟨v', w', hr, h2⟩ := St.run_app u8_row (h.front (X := rowR 5 1 (.slice (some ⟨(e 0).n, 0, none⟩) 8 8) 8 (bv (List.replicate 8 0))) (by (repeat (first | with_reducible exact At.here | with_reducible apply At.there)))) _ (e 4).A 8 (e 4).n (bv nb) hn (bv_one _) (by omega) (by omega)
      obtain ⟨A', c', rfl⟩ := h2.slice
      have hk : St M0 _ (intsR .u8 (.slice (e 4).A 8 (e 4).n) nb :: rowR 5 1 (.slice A' 16 c') 16 (bv (List.replicate 8 0) ++ bv nb) :: Lx) := h2.sub (by (repeat (first | with_reducible exact Sub.refl _ | (with_reducible apply Sub.take; focus (repeat (first | with_reducible exact At.here | with_reducible apply At.there))) | with_reducible apply Sub.drop)))
      exact ⟨⟨A', c', default⟩, _, exec_append rfl rfl rfl hr, hk⟩)) ?_
    (simp only [Act.put, List.setIfInBounds_toArray, List.set_cons_succ, List.set_cons_zero])
    refine flow_run _ rfl (fun _ => rfl) (fun e wx Lx h => by (go_simp; try rfl)) (by intro e; rfl) (by intro e; rfl) (by intro e x; rfl) ?_
    (simp only [Act.put, List.setIfInBounds_toArray, List.set_cons_succ, List.set_cons_zero])
    refine flow_nil ?_
    intro e w1 h
    have h : St M0 w1 (intsR .u8 (.slice (e 4).A 8 (e 4).n) nb :: rowR 5 1 (.slice (e 5).A 16 (e 5).n) 16 (bv (List.replicate 8 0) ++ bv nb) :: rowsR 6 OpLR (.slice A n c) l :: L) := h
    have h5 := h.sub (L' := rowR 5 1 (.slice (e 5).A 16 (e 5).n) 16 (bv (List.replicate 8 0) ++ bv nb) :: rowsR 6 OpLR (.slice A n c) l :: L) (by (repeat (first | with_reducible exact Sub.refl _ | (with_reducible apply Sub.take; focus (repeat (first | with_reducible exact At.here | with_reducible apply At.there))) | with_reducible apply Sub.drop)))
    have H4 := hide h5
    clear h h5 h0
    generalize w1 = w4 at H4 ⊢
    obtain ⟨v5, w5, hrun, h5⟩ := St.run_zeros u8_row rfl rfl Try.underlying3 H4.out 48 .i64 8 (by omega) (by omega) (by omega)
    have hrun : (Builtin.append_ #[48, 3] 48 #[.slice (e 5).A 16 (e 5).n, .int .i64 8]).run Try.prog w4 = .ok v5 w5 := hrun
    go_wp2_with (at_builtin; refine Lib.wpList_append_run _ rfl _ _ _ _ rfl _ _ rfl rfl _ _ hrun ?_)
    rw [show bv (List.replicate 8 0) ++ bv nb ++ List.replicate 8 (.int .u8 0) = (fullBs left).map (Value.int .u8) by rw [HNB.out]; unfold fullBs bv; simp only [List.map_append, List.map_replicate]] at h5
    have H5 := hide h5.ints
    clear h5 H4 hrun
    go_wp2_with fail
    refine (unpack_st v5 (fullBs left) _ ⟨HF.out.1, by rw [HF.out.2.1]; omega, fun h => by cases h⟩ H5.out).mono ?_
    rintro e w6 hq
    rcases hq with ⟨he, g, rfl, h6⟩ | ⟨he, _⟩
    case inr => exact absurd HF.out.2.2.1 he
    obtain ⟨T0, hT0⟩ : ∃ T0, T0 = uTab (fullBs left) := ⟨_, rfl⟩
    have hinv := HF.out.2.2.2
    rw [← hT0] at h6 hinv
    have HI0 := hide hinv
    have H6 := hide (h6.sub (L' := tabR g T0 :: rowsR 6 OpLR (.slice A n c) l :: L) (by (repeat (first | with_reducible exact Sub.refl _ | (with_reducible apply Sub.take; focus (repeat (first | with_reducible exact At.here | with_reducible apply At.there))) | with_reducible apply Sub.drop))))
    clear h6 hinv he hT0 H5 HF wl ws
    go_wp2_with fail
    go_loopg [9, 10] n (fun gh gv iv wr => ∃ (i : Nat) (T : TabM) (ga : Nat), gh = n - i ∧ i ≤ n ∧ gv = .int .i64 (ga : Nat) ∧ iv = .int .i64 (i : Nat) ∧ FInv left i T ga ∧ St M0 wr (tabR g T :: rowsR 6 OpLR (.slice A n c) l :: L))
    case atStart => exact ⟨0, T0, 0, rfl, by omega, rfl, rfl, HI0.out, H6.out⟩
    case round =>
      clear H6 HI0
      obtain ⟨i, T, ga, hgh, hi, rfl, rfl, hinv, h⟩ := hrel
      have HG := hide hgh
      have HI := hide hinv
      have hga5 : ga ≤ 5 := by have := hinv.lo; have := hinv.ok.last1; omega
      clear hgh hinv
      by_cases hlt : i < n
      · have hx := List.getElem?_eq_getElem (l := l) (i := i) (by rw [← HN.out]; exact hlt)
        generalize l[i]'(by rw [← HN.out]; exact hlt) = o at hx
        obtain ⟨ad, cs, rfl, _⟩ := h.elem 1 rfl hx
        have HX := hide hx
        have i0 : (0 : Int) ≤ (i : Int) := by omega
        have i1 : (i : Int) < (n : Int) := by omega
        have H1 := hide h
        clear h hx
        go_wp2_with fail
        refine (lastT_st g T _ H1.out).mono ?_
        rintro e w3 ⟨rfl, h3⟩
        obtain ⟨last, hlast⟩ : ∃ last, last = T.last := ⟨_, rfl⟩
        rw [← hlast]
        have HLA := hide hlast
        have H3 := hide h3
        clear h3 H1 hlast
        obtain ⟨av, hav⟩ : ∃ av, av = T.acquire (i : Int) o.r o.m := ⟨_, rfl⟩
        have HS := hide (HI.out.step (i := i) (by omega) o.r o.m)
        rw [← hav] at HS
        have HAV := hide hav
        clear hav
        obtain ⟨T2, k, f⟩ := av
        go_wp2_with fail
        have h0 := H3.out
        clear H3
        refine region_flow (M0 := M0) (L0 := L) [⟨none, some 12, fun e => tabR g T⟩, ⟨none, none, fun e => rowsR 6 OpLR (.slice (some ad) n c) l⟩, ⟨some 12, none, fun e => tabR g T2⟩] [[], [], [], [], [2, 3], [2, 3, 4], [2, 3, 4, 5], [], [], [7, 8], [7, 8, 9], [7, 8, 9, 10], [0, 1, 2, 3, 4, 5, 6, 7, 8, 9, 10, 11], [0, 1, 2, 3, 4, 5, 6, 7, 8, 9, 10, 11, 12], [0, 1, 2, 3, 4, 5, 6, 7, 8, 9, 10, 11, 12, 13], [0, 1, 2, 3, 4, 5, 6, 7, 8, 9, 10, 11, 12, 13], [0, 1, 2, 3, 4, 5, 6, 7, 8, 9, 10, 11, 12, 13, 14], [0, 1, 2, 3, 4, 5, 6, 7, 8, 9, 10, 11, 12, 13, 14, 15, 16]] [0, 1, 2, 3, 4, 5, 6, 7, 8, 9, 10, 11, 12, 13, 14, 15, 16, 17] rfl (by kernel_rfl) (by kernel_rfl) (by kernel_rfl) (by rfl) (fun _ => rfl) (show St M0 _ (tabR g T :: rowsR 6 OpLR (.slice (some ad) n c) l :: L) from h0) ?_
        refine flow_run _ rfl (fun _ => rfl) (fun e wx Lx h => by (go_simp; try rfl)) (by intro e; rfl) (by intro e; rfl) (by intro e x; rfl) ?_
        (simp only [Act.put, List.setIfInBounds_toArray, List.set_cons_succ, List.set_cons_zero])
        refine flow_run _ rfl (fun _ => rfl) (fun e wx Lx h => by (go_simp; try rfl)) (by intro e; rfl) (by intro e; rfl) (by intro e x; rfl) ?_
        (simp only [Act.put, List.setIfInBounds_toArray, List.set_cons_succ, List.set_cons_zero])
        refine flow_run _ rfl (fun _ => rfl) (fun e wx Lx h => by (go_simp; try rfl)) (by intro e; rfl) (by intro e; rfl) (by intro e x; rfl) ?_
        (simp only [Act.put, List.setIfInBounds_toArray, List.set_cons_succ, List.set_cons_zero])
        refine flow_run _ rfl (fun _ => rfl) (fun e wx Lx h => by (go_simp; try rfl)) (by intro e; rfl) (by intro e; rfl) (by intro e x; rfl) ?_
        (simp only [Act.put, List.setIfInBounds_toArray, List.set_cons_succ, List.set_cons_zero])
        refine flow_run _ rfl (fun _ => rfl) (fun e wx Lx h => by (go_simp; try rfl)) (by intro e; rfl) (by intro e; rfl) (by intro e x; rfl) ?_
        (simp only [Act.put, List.setIfInBounds_toArray, List.set_cons_succ, List.set_cons_zero])
        refine flow_run _ rfl (fun _ => rfl) (fun e wx Lx h => by (go_simp; try rfl)) (by intro e; rfl) (by intro e; rfl) (by intro e x; rfl) ?_
        (simp only [Act.put, List.setIfInBounds_toArray, List.set_cons_succ, List.set_cons_zero])
        refine flow_run _ rfl (fun _ => rfl) (fun e wx Lx h => by (have h : St M0 wx (tabR g T :: rowsR 6 OpLR (.slice (some ad) n c) l :: Lx) := h; obtain ⟨ad2, cs2, hae, _, hcs, hce, _⟩ := (h.front (X := rowsR 6 OpLR (.slice (some ad) n c) l) (by (repeat (first | with_reducible exact At.here | with_reducible apply At.there)))).elem 0 rfl HX.out; injection hae with hae; subst hae; have hce : cs2 = opC o := hce; subst hce; obtain ⟨e0, e1, e2, e3, e4, e5⟩ := cells6 hcs; go_simp; try rfl)) (by intro e; rfl) (by intro e; rfl) (by intro e x; rfl) ?_
        (simp only [Act.put, List.setIfInBounds_toArray, List.set_cons_succ, List.set_cons_zero])
        refine flow_run _ rfl (fun _ => rfl) (fun e wx Lx h => by (go_simp; try rfl)) (by intro e; rfl) (by intro e; rfl) (by intro e x; rfl) ?_
        (simp only [Act.put, List.setIfInBounds_toArray, List.set_cons_succ, List.set_cons_zero])
        refine flow_run _ rfl (fun _ => rfl) (fun e wx Lx h => by (go_simp; try rfl)) (by intro e; rfl) (by intro e; rfl) (by intro e x; rfl) ?_
        (simp only [Act.put, List.setIfInBounds_toArray, List.set_cons_succ, List.set_cons_zero])
        refine flow_run _ rfl (fun _ => rfl) (fun e wx Lx h => by (go_simp; try rfl)) (by intro e; rfl) (by intro e; rfl) (by intro e x; rfl) ?_
        (simp only [Act.put, List.setIfInBounds_toArray, List.set_cons_succ, List.set_cons_zero])
        refine flow_run _ rfl (fun _ => rfl) (fun e wx Lx h => by (go_simp; try rfl)) (by intro e; rfl) (by intro e; rfl) (by intro e x; rfl) ?_
        (simp only [Act.put, List.setIfInBounds_toArray, List.set_cons_succ, List.set_cons_zero])
        refine flow_run _ rfl (fun _ => rfl) (fun e wx Lx h => by (have h : St M0 wx (tabR g T :: rowsR 6 OpLR (.slice (some ad) n c) l :: Lx) := h; obtain ⟨ad2, cs2, hae, _, hcs, hce, _⟩ := (h.front (X := rowsR 6 OpLR (.slice (some ad) n c) l) (by (repeat (first | with_reducible exact At.here | with_reducible apply At.there)))).elem 0 rfl HX.out; injection hae with hae; subst hae; have hce : cs2 = opC o := hce; subst hce; obtain ⟨e0, e1, e2, e3, e4, e5⟩ := cells6 hcs; go_simp; try rfl)) (by intro e; rfl) (by intro e; rfl) (by intro e x; rfl) ?_
        (simp only [Act.put, List.setIfInBounds_toArray, List.set_cons_succ, List.set_cons_zero])
        refine flow_call 46 (fun e => #[.pointer (some ⟨g, 0, none⟩), .int .i64 (i : Int), .int .i64 o.r, .int .i64 o.m]) (fun e => .tuple #[.int .u64 k, .int .i64 f]) rfl (fun _ => rfl) (by intro e; rfl) (fun e wx => by (go_simp; try rfl)) (fun e wx Lx h => by (
          have h : St M0 wx (tabR g T :: rowsR 6 OpLR (.slice (some ad) n c) l :: Lx) := h
          refine (acquire_st g T (i : Int) o.r o.m _ HI.out.ok (h.front (X := tabR g T) (by (repeat (first | with_reducible exact At.here | with_reducible apply At.there))))).mono ?_
          rintro u wy ⟨rfl, h1⟩
          rw [← HAV.out] at h1
          have hk : St M0 wy (rowsR 6 OpLR (.slice (some ad) n c) l :: tabR g T2 :: Lx) := (show St M0 wy (tabR g T2 :: _) from h1).sub (by (repeat (first | with_reducible exact Sub.refl _ | (with_reducible apply Sub.take; focus (repeat (first | with_reducible exact At.here | with_reducible apply At.there))) | with_reducible apply Sub.drop)))
          exact ⟨⟨none, 0, default⟩, (by rw [← HAV.out]), hk⟩)) ?_
        (simp only [Act.put, List.setIfInBounds_toArray, List.set_cons_succ, List.set_cons_zero])
        refine flow_run _ rfl (fun _ => rfl) (fun e wx Lx h => by (go_simp; try rfl)) (by intro e; rfl) (by intro e; rfl) (by intro e x; rfl) ?_
        (simp only [Act.put, List.setIfInBounds_toArray, List.set_cons_succ, List.set_cons_zero])
        refine flow_run _ rfl (fun _ => rfl) (fun e wx Lx h => by (go_simp; try rfl)) (by intro e; rfl) (by intro e; rfl) (by intro e x; rfl) ?_
        (simp only [Act.put, List.setIfInBounds_toArray, List.set_cons_succ, List.set_cons_zero])
        refine flow_run _ rfl (fun _ => rfl) (fun e wx Lx h => by (go_simp; try rfl)) (by intro e; rfl) (by intro e; rfl) (by intro e x; rfl) ?_
        (simp only [Act.put, List.setIfInBounds_toArray, List.set_cons_succ, List.set_cons_zero])
        refine flow_run _ rfl (fun _ => rfl) (fun e wx Lx h => by (go_simp; try rfl)) (by intro e; rfl) (by intro e; rfl) (by intro e x; rfl) ?_
        (simp only [Act.put, List.setIfInBounds_toArray, List.set_cons_succ, List.set_cons_zero])
        refine flow_run _ rfl (fun _ => rfl) (fun e wx Lx h => by (go_simp; try rfl)) (by intro e; rfl) (by intro e; rfl) (by intro e x; rfl) ?_
        (simp only [Act.put, List.setIfInBounds_toArray, List.set_cons_succ, List.set_cons_zero])
        refine flow_nil ?_
        intro e w1 h
        have h : St M0 w1 (rowsR 6 OpLR (.slice (some ad) n c) l :: tabR g T2 :: L) := h
        have H5 := hide (h.sub (L' := tabR g T2 :: rowsR 6 OpLR (.slice (some ad) n c) l :: L) (by (repeat (first | with_reducible exact Sub.refl _ | (with_reducible apply Sub.take; focus (repeat (first | with_reducible exact At.here | with_reducible apply At.there))) | with_reducible apply Sub.drop))))
        clear h h0
        go_wp2_with fail
        refine (lastT_st g T2 _ H5.out).mono ?_
        rintro e w5 ⟨rfl, h6⟩
        obtain ⟨now, hnow⟩ : ∃ now, now = T2.last := ⟨_, rfl⟩
        rw [← hnow]
        have hle : last ≤ now := by rw [HLA.out, hnow]; exact HS.out.le
        have dl : decide (now < last) = false := decide_eq_false (by omega)
        have HNO := hide hnow
        obtain ⟨ad2, cs2, hae, _, hcs, rfl, _⟩ := h6.elem 1 rfl HX.out
        injection hae with hae
        subst hae
        obtain ⟨e0, e1, e2, e3, e4, e5⟩ := cells6 hcs
        have H6 := hide h6
        clear h6 H5 hnow hcs
        obtain ⟨b1, hb1⟩ : ∃ b1, decide (o.r ≥ 0) = b1 := ⟨_, rfl⟩
        have hb1' : decide (0 ≤ o.r) = b1 := hb1
        obtain ⟨b2, hb2⟩ : ∃ b2, decide (o.r ≤ 3) = b2 := ⟨_, rfl⟩
        obtain ⟨b3, hb3⟩ : ∃ b3, decide (o.m ≥ 1) = b3 := ⟨_, rfl⟩
        have hb3' : decide (1 ≤ o.m) = b3 := hb3
        obtain ⟨b4, hb4⟩ : ∃ b4, decide (o.m ≤ 2) = b4 := ⟨_, rfl⟩
        have HR := hide (show (b1 && b2 && b3 && b4) = true → 0 ≤ o.r ∧ o.r ≤ 3 ∧ 1 ≤ o.m ∧ o.m ≤ 2 by
          rw [← hb1, ← hb2, ← hb3, ← hb4]
          simp
          omega)
        by_cases hf : f = 0
        · have HI2 := hide (show FInv left (i + 1) T2 (ga + 1) by have := HS.out.inv; rw [if_pos hf] at this; exact this)
          obtain ⟨bG, hbG⟩ : ∃ bG, decide ((ga : Int) + 1 ≥ left) = bG := ⟨_, rfl⟩
          have hbG' : decide (left ≤ (ga : Int) + 1) = bG := hbG
          obtain ⟨bL, hbL⟩ : ∃ bL, (last == 18446744073709551615) = bL := ⟨_, rfl⟩
          have HFU := hide (show (b1 && b2 && b3 && b4) = true → bL = true → f = 42 from fun h1 h2 => by
            obtain ⟨q1, q2, q3, q4⟩ := HR.out h1
            rw [h2] at hbL
            exact HS.out.full q1 q2 q3 q4 (by rw [← HLA.out]; simpa using hbL))
          have bk : (k != now) = false := isNF (by rw [HNO.out]; exact HS.out.tok hf)
          subst hf
          go_upto_region 17 with fail
          go_cut [15] (fun rv wx => rv = .bool (b1 && b2 && b3 && b4) ∧ St M0 wx (tabR g T2 :: rowsR 6 OpLR (.slice (some ad) n c) l :: L))
          case first =>
            cases b1
            case' true => cases b2
            case' true.true => cases b3
            case' true.true.true => cases b4
            all_goals
              go_wp2_with fail
              go_meet
              exact ⟨rfl, H6.out⟩
          case rest =>
            clear H6 e0 e1 e2 e3 e4 e5 hb1 hb1' hb2 hb3 hb3' hb4
            obtain ⟨rfl, h⟩ := hcut
            have H7 := hide h
            clear h
            obtain ⟨br, hbr⟩ : ∃ br, (b1 && b2 && b3 && b4) = br := ⟨_, rfl⟩
            rw [hbr] at HFU ⊢
            clear hbr
            cases br
            case' true => cases bG
            case' true.true => cases bL
            case true.true.true => exact absurd (HFU.out rfl rfl) (by decide)
            all_goals
              go_wp2_with fail
              go_roundg (n - (i + 1))
              case measure => have := HG.out; omega
              case rel => exact ⟨i + 1, T2, ga + 1, rfl, by omega, by go_num, by go_num, HI2.out, H7.out⟩
        · have HI2 := hide (show FInv left (i + 1) T2 ga by have := HS.out.inv; rw [if_neg hf] at this; exact this)
          obtain ⟨bG, hbG⟩ : ∃ bG, decide ((ga : Int) ≥ left) = bG := ⟨_, rfl⟩
          have hbG' : decide (left ≤ (ga : Int)) = bG := hbG
          obtain ⟨bL, hbL⟩ : ∃ bL, (last == 18446744073709551615) = bL := ⟨_, rfl⟩
          have HFU := hide (show (b1 && b2 && b3 && b4) = true → bL = true → f = 42 from fun h1 h2 => by
            obtain ⟨q1, q2, q3, q4⟩ := HR.out h1
            rw [h2] at hbL
            exact HS.out.full q1 q2 q3 q4 (by rw [← HLA.out]; simpa using hbL))
          have bf := isF hf
          clear hf
          go_upto_region 17 with fail
          go_cut [15] (fun rv wx => rv = .bool (b1 && b2 && b3 && b4) ∧ St M0 wx (tabR g T2 :: rowsR 6 OpLR (.slice (some ad) n c) l :: L))
          case first =>
            cases b1
            case' true => cases b2
            case' true.true => cases b3
            case' true.true.true => cases b4
            all_goals
              go_wp2_with fail
              go_meet
              exact ⟨rfl, H6.out⟩
          case rest =>
            clear H6 e0 e1 e2 e3 e4 e5 hb1 hb1' hb2 hb3 hb3' hb4
            obtain ⟨rfl, h⟩ := hcut
            have H7 := hide h
            clear h
            obtain ⟨br, hbr⟩ : ∃ br, (b1 && b2 && b3 && b4) = br := ⟨_, rfl⟩
            rw [hbr] at HFU ⊢
            clear hbr
            cases br
            case' true => cases bG
            case' true.true => cases bL
            case' true.true.true => have b42 := isNF (HFU.out rfl rfl)
            all_goals
              go_wp2_with fail
              go_roundg (n - (i + 1))
              case measure => have := HG.out; omega
              case rel => exact ⟨i + 1, T2, ga, rfl, by omega, by go_num, by go_num, HI2.out, H7.out⟩
      · obtain rfl : i = n := by omega
        have dg : decide ((ga : Int) ≤ left) = true := decide_eq_true (by have := HI.out.lo; have := HI.out.ok.last1; omega)
        have H7 := hide h
        clear h
        go_wp2_with fail
        go_ret
        exact ⟨rfl, _, H7.out⟩
  · obtain ⟨b1, hb1⟩ : ∃ b1, decide (left < 0) = b1 := ⟨_, rfl⟩
    obtain ⟨b2, hb2⟩ : ∃ b2, decide (left > 5) = b2 := ⟨_, rfl⟩
    have hb2' : decide (5 < left) = b2 := hb2
    obtain ⟨b3, hb3⟩ : ∃ b3, decide ((n : Int) > 10) = b3 := ⟨_, rfl⟩
    have hb3' : decide ((10 : Int) < (n : Int)) = b3 := hb3
    have hbb : (b1 || b2 || b3) = true := by
      rw [← hb1, ← hb2, ← hb3]
      simp
      omega
    clear hin
    cases b1 <;> cases b2 <;> cases b3 <;> first | (exact absurd hbb (by decide)) | skip
    all_goals
      clear hbb
      go_wp2_with fail
      go_ret
      exact ⟨rfl, _, H1.out⟩
end Go.Proofs.Ytbgknfdaaffeaaa
