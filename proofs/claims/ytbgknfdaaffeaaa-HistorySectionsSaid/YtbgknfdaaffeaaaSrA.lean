/- Sorting sections by their tokens: slices.swapRangeCmpFunc, rotateCmpFunc, insertionSortCmpFunc. Printed by gen_sra.py. -/
import Derived.Test.YtbgknfdaaffeaaaSrM
import Derived.Test.YtbgknfdaaffeaaaLkF
import Derived.Test.YtbgknfdaaffeaaaFlow
namespace Go.Proofs.Ytbgknfdaaffeaaa
open Go.RowKit Go.Shelf

abbrev secC (x : SecV) : List Value := [.int .u64 x.t, .slice x.p.a x.p.n x.p.c, .int .i64 x.s, .slice x.k.a x.k.n x.k.c]
theorem secC_len (x : SecV) : (secC x).length = 4 := rfl
theorem sec_elem : ElemOf Try.prog 22 37 (.agg #[.int .u64 0, .slice none 0 0, .int .i64 0, .slice none 0 0]) 4 64 := ⟨Try.underlying22, by kernel_rfl, by kernel_rfl, by omega⟩
theorem sec_one (x : SecV) : ∀ u ∈ secC x, u.oneCell' = true := by
  intro u hu
  simp only [secC, List.mem_cons, List.not_mem_nil, or_false] at hu
  rcases hu with rfl | rfl | rfl | rfl <;> rfl
theorem sec_store (w : World) (b o : Nat) (x : SecV) (ht : w.there b o 4) : (Instr.storeAt 37 (.pointer (some ⟨b, o, none⟩)) (.agg #[.int .u64 x.t, .slice x.p.a x.p.n x.p.c, .int .i64 x.s, .slice x.k.a x.k.n x.k.c])).run Try.prog w = .ok () (w.setCells b o (secC x)) := by
  have hst := run_storeCells_cells (P := Try.prog) b o (secC x) 0 w (fun k hk => by rw [Nat.add_zero]; exact (ht k hk).1) (fun k hk => by rw [Nat.add_zero]; exact (ht k hk).2) (sec_one x)
  simp only [Nat.add_zero] at hst
  obtain ⟨i0, hi0, _, hsz, _⟩ := info_parts sec_elem.hinfo
  simp [Instr.storeAt, Instr.sureAddr, storeVar, sizeOf, typeInfo, hi0, hsz, Value.cells]
  exact hst
theorem cellsSec {w : World} {b n c k : Nat} {xs : List SecV} {x : SecV} (hf : FlatP secC 4 w (.slice (some ⟨b, 0, none⟩) n c) xs) (hx : xs[k]? = some x) : w.cell? ⟨b, k * 4, none⟩ = some (.int .u64 x.t) ∧ w.cell? ⟨b, k * 4 + 1, none⟩ = some (.slice x.p.a x.p.n x.p.c) ∧ w.cell? ⟨b, k * 4 + 2, none⟩ = some (.int .i64 x.s) ∧ w.cell? ⟨b, k * 4 + 3, none⟩ = some (.slice x.k.a x.k.n x.k.c) := by
  obtain ⟨ad, e, hcs⟩ := hf.at_ secC_len hx
  injection e with e
  subst e
  rw [show (⟨b, 0, none⟩ : Addr).add (k * 4) = ⟨b, k * 4, none⟩ by (generalize k * 4 = m; simp [Addr.add]; exact Eq.symm)] at hcs
  exact cells4F hcs
set_option maxHeartbeats 1000000 in
theorem cmpSec_st {M0 : Imm} {L : List Res} (x y : SecV) (w : World) (h : St M0 w L) :
    Calls Try.prog 113 #[.agg #[.int .u64 x.t, .slice x.p.a x.p.n x.p.c, .int .i64 x.s, .slice x.k.a x.k.n x.k.c], .agg #[.int .u64 y.t, .slice y.p.a y.p.n y.p.c, .int .i64 y.s, .slice y.k.a y.k.n y.k.c]] w fun e w' => e = .returned (.int .i64 (cmpI x.t y.t)) ∧ St M0 w' L := by
  have h1 := h.alloc 37 #[.int .u64 x.t, .slice x.p.a x.p.n x.p.c, .int .i64 x.s, .slice x.k.a x.k.n x.k.c]
  have h2 := h1.alloc 37 #[.int .u64 y.t, .slice y.p.a y.p.n y.p.c, .int .i64 y.s, .slice y.k.a y.k.n y.k.c]
  rw [World.size_alloc] at h2
  have c0 := (h2.blk 1 rfl).cell 0
  have d0 := (h2.blk 0 rfl).cell 0
  obtain ⟨d1, hd1⟩ : ∃ d1, decide (x.t < y.t) = d1 := ⟨_, rfl⟩
  obtain ⟨d2, hd2⟩ : ∃ d2, decide (x.t > y.t) = d2 := ⟨_, rfl⟩
  have hd2' : decide (y.t < x.t) = d2 := hd2
  have E := hide (show cmpI x.t y.t = if d1 = true then -1 else if d2 = true then 1 else 0 by
    unfold cmpI
    rw [← hd1, ← hd2]
    simp)
  have H := hide h2.tail.tail
  have nx : (x.t != x.t) = false := isNF rfl
  have ny : (y.t != y.t) = false := isNF rfl
  clear h h1 h2
  go_enter Try.func113, Try.ntmps113
  go_wp2_with fail
  refine (show Calls Try.prog 114 #[.int .u64 x.t, .int .u64 y.t] _ (fun e w' => e = .returned (.int .i64 (cmpI x.t y.t)) ∧ St M0 w' L) from ?_).mono ?_
  · clear c0 d0
    go_enter Try.func114, Try.ntmps114
    go_wp2_with fail
    refine (show Calls Try.prog 150 #[.int .u64 x.t] _ (fun e w' => e = .returned (.bool false) ∧ St M0 w' L) from ?_).mono ?_
    · go_enter Try.func150, Try.ntmps150
      go_wp2_with fail
      go_ret
      exact ⟨rfl, H.out⟩
    rintro e w1 ⟨rfl, h⟩
    have H1 := hide h
    clear h H
    go_wp2_with fail
    refine (show Calls Try.prog 150 #[.int .u64 y.t] _ (fun e w' => e = .returned (.bool false) ∧ St M0 w' L) from ?_).mono ?_
    · go_enter Try.func150, Try.ntmps150
      go_wp2_with fail
      go_ret
      exact ⟨rfl, H1.out⟩
    rintro e w2 ⟨rfl, h⟩
    have H2 := hide h
    clear h H1
    cases d1
    case' false => cases d2
    all_goals (go_wp2_with fail; go_ret; exact ⟨by rw [E.out]; try rfl, H2.out⟩)
  · rintro e w1 ⟨rfl, h⟩
    have H1 := hide h
    clear h
    go_wp2_with fail
    go_ret
    exact ⟨rfl, H1.out⟩
set_option maxHeartbeats 4000000 in
set_option maxRecDepth 100000 in
/-- two parts of one length change places -/
theorem swapRange_st {M0 : Imm} {L : List Res} (b n c a bb k : Nat) (P F M G Q : List SecV) (fv : Value) (w : World) (ha : P.length = a) (hF : F.length = k) (hG : G.length = k) (hb : a + k + M.length = bb) (h : St M0 w (ownR secC 37 4 (.slice (some ⟨b, 0, none⟩) n c) (P ++ (F ++ (M ++ (G ++ Q)))) :: L)) :
    Calls Try.prog 168 #[.slice (some ⟨b, 0, none⟩) n c, .int .i64 (a : Nat), .int .i64 (bb : Nat), .int .i64 (k : Nat), fv] w fun e w' => e = .returned (.tuple #[]) ∧ St M0 w' (ownR secC 37 4 (.slice (some ⟨b, 0, none⟩) n c) (P ++ (G ++ (M ++ (F ++ Q)))) :: L) := by
  obtain ⟨hn, hnc, hcm, _⟩ := (h.flatO At.here).sl
  have hn2 : n = a + k + M.length + k + Q.length := by rw [hn, ← ha]; simp only [List.length_append]; omega
  have H := hide h
  have HN := hide hn2
  clear h hn hn2
  go_enter Try.func168, Try.ntmps168
  go_wp2_with fail
  go_loopg [10] k (fun gh iv wr => ∃ (i : Nat), gh = k - i ∧ i ≤ k ∧ iv = .int .i64 (i : Nat) ∧ St M0 wr (ownR secC 37 4 (.slice (some ⟨b, 0, none⟩) n c) (P ++ (G.take i ++ (F.drop i ++ (M ++ (F.take i ++ (G.drop i ++ Q)))))) :: L))
  case atStart => exact ⟨0, rfl, by omega, rfl, by simpa using H.out⟩
  case round =>
    clear H
    obtain ⟨i, hg, hi, rfl, h⟩ := hrel
    have HG := hide hg
    clear hg
    by_cases hlt : i < k
    · obtain ⟨x, hx⟩ : ∃ x, F.drop i = x :: F.drop (i + 1) := ⟨F[i]'(by omega), List.drop_eq_getElem_cons (by omega)⟩
      obtain ⟨y, hy⟩ : ∃ y, G.drop i = y :: G.drop (i + 1) := ⟨G[i]'(by omega), List.drop_eq_getElem_cons (by omega)⟩
      have tx : F.take (i + 1) = F.take i ++ [x] := by
        have := congrArg List.head? hx
        rw [List.head?_drop, List.head?_cons] at this
        rw [List.take_add_one, this]; rfl
      have ty : G.take (i + 1) = G.take i ++ [y] := by
        have := congrArg List.head? hy
        rw [List.head?_drop, List.head?_cons] at this
        rw [List.take_add_one, this]; rfl
      obtain ⟨P1, hP1⟩ : ∃ P1, P1 = P ++ G.take i := ⟨_, rfl⟩
      obtain ⟨M1, hM1⟩ : ∃ M1, M1 = F.drop (i + 1) ++ (M ++ F.take i) := ⟨_, rfl⟩
      obtain ⟨Q1, hQ1⟩ : ∃ Q1, Q1 = G.drop (i + 1) ++ Q := ⟨_, rfl⟩
      have lP : P1.length = a + i := by rw [hP1, List.length_append, List.length_take, ha]; omega
      have lM : P1.length + 1 + M1.length = bb + i := by rw [lP, hM1, List.length_append, List.length_append, List.length_drop, List.length_take]; omega
      obtain ⟨xs, hxs⟩ : ∃ xs, xs = P1 ++ x :: (M1 ++ y :: Q1) := ⟨_, rfl⟩
      have e1 : P ++ (G.take i ++ (F.drop i ++ (M ++ (F.take i ++ (G.drop i ++ Q))))) = xs := by
        rw [hxs, hx, hy, hP1, hM1, hQ1]
        simp
      have e2 : (xs.set (a + i) y).set (bb + i) x = P ++ (G.take (i + 1) ++ (F.drop (i + 1) ++ (M ++ (F.take (i + 1) ++ (G.drop (i + 1) ++ Q))))) := by
        rw [hxs, ← lP, ← lM, swap_far, hP1, hM1, hQ1, tx, ty]
        simp
      rw [e1] at h
      have HSW := hide e2
      have HX := hide (show xs[a + i]? = some x by rw [hxs, ← lP]; exact at_mid _ _ _)
      have HY := hide (show xs[bb + i]? = some y by
        rw [hxs, ← lM, List.getElem?_append_right (by omega), show P1.length + 1 + M1.length - P1.length = M1.length + 1 by omega, List.getElem?_cons_succ]
        exact at_mid _ _ _)
      have HLI := hide ((List.getElem?_eq_some_iff.1 HX.out).1)
      have HLJ := hide ((List.getElem?_eq_some_iff.1 HY.out).1)
      have i0 : (0 : Int) ≤ (i : Int) := by omega
      have wa : IntKind.i64.wrap ((a : Int) + (i : Int)) = ((a + i : Nat) : Int) := (IntWalk.i64_in _ (by have := HN.out; omega)).trans (by omega)
      have wb : IntKind.i64.wrap ((bb : Int) + (i : Int)) = ((bb + i : Nat) : Int) := (IntWalk.i64_in _ (by have := HN.out; omega)).trans (by omega)
      have a0 : (0 : Int) ≤ ((a + i : Nat) : Int) := by omega
      have a1 : ((a + i : Nat) : Int) < (n : Int) := by have := HN.out; omega
      have b0 : (0 : Int) ≤ ((bb + i : Nat) : Int) := by omega
      have b1 : ((bb + i : Nat) : Int) < (n : Int) := by have := HN.out; omega
      have HKT := hide hlt
      have hkn : k ≤ n := by have := HN.out; omega
      obtain ⟨ai, hai⟩ : ∃ ai, ai = a + i := ⟨_, rfl⟩
      obtain ⟨bi, hbi⟩ : ∃ bi, bi = bb + i := ⟨_, rfl⟩
      rw [← hai] at wa a0 a1 HSW HX HLI
      rw [← hbi] at wb b0 b1 HSW HY HLJ
      have H1 := hide h
      clear h hx hy tx ty hP1 hM1 hQ1 lP lM e1 e2 hxs hai hbi
      go_wp2_with fail
      have h0 := H1.out
      clear H1
      refine region_flow (M0 := M0) (L0 := L) [⟨none, some 21, fun e => ownR secC 37 4 (.slice (some ⟨b, 0, none⟩) n c) (xs)⟩, ⟨some 21, some 23, fun e => ownR secC 37 4 (.slice (some ⟨b, 0, none⟩) n c) ((xs).set ai y)⟩, ⟨some 23, none, fun e => ownR secC 37 4 (.slice (some ⟨b, 0, none⟩) n c) (((xs).set ai y).set bi x)⟩] [[], [], [], [1, 2], [], [], [], [5, 6], [], [], [], [9, 10], [8, 9, 10, 11], [8, 9, 10, 11, 12], [], [], [], [15, 16], [14, 15, 16, 17], [14, 15, 16, 17, 18], [0, 1, 2, 3, 8, 9, 10, 11, 12, 13, 14, 15, 16, 17, 18, 19], [0, 1, 2, 3, 8, 9, 10, 11, 12, 13, 14, 15, 16, 17, 18, 19, 20], [0, 1, 2, 3, 4, 5, 6, 7, 8, 9, 10, 11, 12, 13, 14, 15, 16, 17, 18, 19, 20, 21], [0, 1, 2, 3, 4, 5, 6, 7, 8, 9, 10, 11, 12, 13, 14, 15, 16, 17, 18, 19, 20, 21, 22]] [0, 1, 2, 3, 4, 5, 6, 7, 8, 9, 10, 11, 12, 13, 14, 15, 16, 17, 18, 19, 20, 21, 22, 23] rfl (by kernel_rfl) (by kernel_rfl) (by kernel_rfl) (by rfl) (fun _ => rfl) (show St M0 _ (ownR secC 37 4 (.slice (some ⟨b, 0, none⟩) n c) (xs) :: L) from h0) ?_
      refine flow_run _ rfl (fun _ => rfl) (fun e wx Lx h => by (go_simp; try rfl)) (by intro e; rfl) (by intro e; rfl) (by intro e x; rfl) ?_
      (simp only [Act.put, List.setIfInBounds_toArray, List.set_cons_succ, List.set_cons_zero])
      refine flow_run _ rfl (fun _ => rfl) (fun e wx Lx h => by (go_simp; try rfl)) (by intro e; rfl) (by intro e; rfl) (by intro e x; rfl) ?_
      (simp only [Act.put, List.setIfInBounds_toArray, List.set_cons_succ, List.set_cons_zero])
      refine flow_run _ rfl (fun _ => rfl) (fun e wx Lx h => by (go_simp; try rfl)) (by intro e; rfl) (by intro e; rfl) (by intro e x; rfl) ?_
      (simp only [Act.put, List.setIfInBounds_toArray, List.set_cons_succ, List.set_cons_zero])
      refine flow_run _ rfl (fun _ => rfl) (fun e wx Lx h => by (go_simp; try rfl)) (by intro e; rfl) (by intro e; rfl) (by intro e x; rfl) ?_
      (simp only [Act.put, List.setIfInBounds_toArray, List.set_cons_succ, List.set_cons_zero])
      refine flow_run _ rfl (fun _ => rfl) (fun e wx Lx h => by (go_simp; try rfl)) (by intro e; rfl) (by intro e; rfl) (by intro e x; rfl) ?_
      (simp only [Act.put, List.setIfInBounds_toArray, List.set_cons_succ, List.set_cons_zero])
      refine flow_run _ rfl (fun _ => rfl) (fun e wx Lx h => by (go_simp; try rfl)) (by intro e; rfl) (by intro e; rfl) (by intro e x; rfl) ?_
      (simp only [Act.put, List.setIfInBounds_toArray, List.set_cons_succ, List.set_cons_zero])
      refine flow_run _ rfl (fun _ => rfl) (fun e wx Lx h => by (go_simp; try rfl)) (by intro e; rfl) (by intro e; rfl) (by intro e x; rfl) ?_
      (simp only [Act.put, List.setIfInBounds_toArray, List.set_cons_succ, List.set_cons_zero])
      refine flow_run _ rfl (fun _ => rfl) (fun e wx Lx h => by (go_simp; try rfl)) (by intro e; rfl) (by intro e; rfl) (by intro e x; rfl) ?_
      (simp only [Act.put, List.setIfInBounds_toArray, List.set_cons_succ, List.set_cons_zero])
      refine flow_run _ rfl (fun _ => rfl) (fun e wx Lx h => by (go_simp; try rfl)) (by intro e; rfl) (by intro e; rfl) (by intro e x; rfl) ?_
      (simp only [Act.put, List.setIfInBounds_toArray, List.set_cons_succ, List.set_cons_zero])
      refine flow_run _ rfl (fun _ => rfl) (fun e wx Lx h => by (go_simp; try rfl)) (by intro e; rfl) (by intro e; rfl) (by intro e x; rfl) ?_
      (simp only [Act.put, List.setIfInBounds_toArray, List.set_cons_succ, List.set_cons_zero])
      refine flow_run _ rfl (fun _ => rfl) (fun e wx Lx h => by (go_simp; try rfl)) (by intro e; rfl) (by intro e; rfl) (by intro e x; rfl) ?_
      (simp only [Act.put, List.setIfInBounds_toArray, List.set_cons_succ, List.set_cons_zero])
      refine flow_run _ rfl (fun _ => rfl) (fun e wx Lx h => by (go_simp; try rfl)) (by intro e; rfl) (by intro e; rfl) (by intro e x; rfl) ?_
      (simp only [Act.put, List.setIfInBounds_toArray, List.set_cons_succ, List.set_cons_zero])
      refine flow_run _ rfl (fun _ => rfl) (fun e wx Lx h => by (go_simp; try rfl)) (by intro e; rfl) (by intro e; rfl) (by intro e x; rfl) ?_
      (simp only [Act.put, List.setIfInBounds_toArray, List.set_cons_succ, List.set_cons_zero])
      refine flow_run _ rfl (fun _ => rfl) (fun e wx Lx h => by (have h : St M0 wx (ownR secC 37 4 (.slice (some ⟨b, 0, none⟩) n c) (xs) :: Lx) := h; have hf := h.flatO (C := secC) (e := 37) (size := 4) (v := .slice (some ⟨b, 0, none⟩) n c) (xs := xs) (by (repeat (first | with_reducible exact At.here | with_reducible apply At.there))); obtain ⟨x0, x1, x2, x3⟩ := cellsSec hf HX.out; obtain ⟨y0, y1, y2, y3⟩ := cellsSec hf HY.out; go_simp; try rfl)) (by intro e; rfl) (by intro e; rfl) (by intro e x; rfl) ?_
      (simp only [Act.put, List.setIfInBounds_toArray, List.set_cons_succ, List.set_cons_zero])
      refine flow_run _ rfl (fun _ => rfl) (fun e wx Lx h => by (go_simp; try rfl)) (by intro e; rfl) (by intro e; rfl) (by intro e x; rfl) ?_
      (simp only [Act.put, List.setIfInBounds_toArray, List.set_cons_succ, List.set_cons_zero])
      refine flow_run _ rfl (fun _ => rfl) (fun e wx Lx h => by (go_simp; try rfl)) (by intro e; rfl) (by intro e; rfl) (by intro e x; rfl) ?_
      (simp only [Act.put, List.setIfInBounds_toArray, List.set_cons_succ, List.set_cons_zero])
      refine flow_run _ rfl (fun _ => rfl) (fun e wx Lx h => by (go_simp; try rfl)) (by intro e; rfl) (by intro e; rfl) (by intro e x; rfl) ?_
      (simp only [Act.put, List.setIfInBounds_toArray, List.set_cons_succ, List.set_cons_zero])
      refine flow_run _ rfl (fun _ => rfl) (fun e wx Lx h => by (go_simp; try rfl)) (by intro e; rfl) (by intro e; rfl) (by intro e x; rfl) ?_
      (simp only [Act.put, List.setIfInBounds_toArray, List.set_cons_succ, List.set_cons_zero])
      refine flow_run _ rfl (fun _ => rfl) (fun e wx Lx h => by (go_simp; try rfl)) (by intro e; rfl) (by intro e; rfl) (by intro e x; rfl) ?_
      (simp only [Act.put, List.setIfInBounds_toArray, List.set_cons_succ, List.set_cons_zero])
      refine flow_run _ rfl (fun _ => rfl) (fun e wx Lx h => by (have h : St M0 wx (ownR secC 37 4 (.slice (some ⟨b, 0, none⟩) n c) (xs) :: Lx) := h; have hf := h.flatO (C := secC) (e := 37) (size := 4) (v := .slice (some ⟨b, 0, none⟩) n c) (xs := xs) (by (repeat (first | with_reducible exact At.here | with_reducible apply At.there))); obtain ⟨x0, x1, x2, x3⟩ := cellsSec hf HX.out; obtain ⟨y0, y1, y2, y3⟩ := cellsSec hf HY.out; go_simp; try rfl)) (by intro e; rfl) (by intro e; rfl) (by intro e x; rfl) ?_
      (simp only [Act.put, List.setIfInBounds_toArray, List.set_cons_succ, List.set_cons_zero])
      refine flow_run _ rfl (fun _ => rfl) (fun e wx Lx h => by (go_simp; try rfl)) (by intro e; rfl) (by intro e; rfl) (by intro e x; rfl) ?_
      (simp only [Act.put, List.setIfInBounds_toArray, List.set_cons_succ, List.set_cons_zero])
      refine flow_store _ _ _ (fun e => .pointer (some ⟨b, ai * 4, none⟩)) (fun e => .agg #[.int .u64 y.t, .slice y.p.a y.p.n y.p.c, .int .i64 y.s, .slice y.k.a y.k.n y.k.c]) rfl (fun _ => rfl) rfl (fun _ => rfl) (fun _ => rfl) (fun e wx Lx h => by (
        have h : St M0 wx (ownR secC 37 4 (.slice (some ⟨b, 0, none⟩) n c) (xs) :: Lx) := h
        have h1 := (h.front (X := ownR secC 37 4 (.slice (some ⟨b, 0, none⟩) n c) (xs)) (by (repeat (first | with_reducible exact At.here | with_reducible apply At.there)))).ownPut secC_len (k := ai) (by exact HLI.out) y
        have hk : St M0 _ (ownR secC 37 4 (.slice (some ⟨b, 0, none⟩) n c) ((xs).set ai y) :: Lx) := h1.1.sub (by (repeat (first | with_reducible exact Sub.refl _ | (with_reducible apply Sub.take; focus (repeat (first | with_reducible exact At.here | with_reducible apply At.there))) | with_reducible apply Sub.drop)))
        exact ⟨_, (sec_store _ _ _ _ h1.2), hk⟩)) ?_
      simp only [Act.put]
      refine flow_run _ rfl (fun _ => rfl) (fun e wx Lx h => by (go_simp; try rfl)) (by intro e; rfl) (by intro e; rfl) (by intro e x; rfl) ?_
      (simp only [Act.put, List.setIfInBounds_toArray, List.set_cons_succ, List.set_cons_zero])
      refine flow_store _ _ _ (fun e => .pointer (some ⟨b, bi * 4, none⟩)) (fun e => .agg #[.int .u64 x.t, .slice x.p.a x.p.n x.p.c, .int .i64 x.s, .slice x.k.a x.k.n x.k.c]) rfl (fun _ => rfl) rfl (fun _ => rfl) (fun _ => rfl) (fun e wx Lx h => by (
        have h : St M0 wx (ownR secC 37 4 (.slice (some ⟨b, 0, none⟩) n c) ((xs).set ai y) :: Lx) := h
        have h1 := (h.front (X := ownR secC 37 4 (.slice (some ⟨b, 0, none⟩) n c) ((xs).set ai y)) (by (repeat (first | with_reducible exact At.here | with_reducible apply At.there)))).ownPut secC_len (k := bi) (by rw [List.length_set]; exact HLJ.out) x
        have hk : St M0 _ (ownR secC 37 4 (.slice (some ⟨b, 0, none⟩) n c) (((xs).set ai y).set bi x) :: Lx) := h1.1.sub (by (repeat (first | with_reducible exact Sub.refl _ | (with_reducible apply Sub.take; focus (repeat (first | with_reducible exact At.here | with_reducible apply At.there))) | with_reducible apply Sub.drop)))
        exact ⟨_, (sec_store _ _ _ _ h1.2), hk⟩)) ?_
      simp only [Act.put]
      refine flow_nil ?_
      intro e w1 h
      have h : St M0 w1 (ownR secC 37 4 (.slice (some ⟨b, 0, none⟩) n c) (((xs).set ai y).set bi x) :: L) := h
      rw [HSW.out] at h
      have H2 := hide h
      clear h h0
      go_wp2_with fail
      go_roundg (k - (i + 1))
      case measure => have := HG.out; omega
      case rel => exact ⟨i + 1, rfl, HKT.out, by go_num, H2.out⟩
    · obtain rfl : i = k := by omega
      have H1 := hide (show St M0 wr (ownR secC 37 4 (.slice (some ⟨b, 0, none⟩) n c) (P ++ (G ++ (M ++ (F ++ Q)))) :: L) by
        rw [List.take_of_length_le (by omega), List.drop_eq_nil_of_le (by omega), List.take_of_length_le (by omega), List.drop_eq_nil_of_le (by omega), List.nil_append, List.nil_append] at h
        exact h)
      clear h
      go_wp2_with fail
      go_end0
      exact ⟨rfl, H1.out⟩
end Go.Proofs.Ytbgknfdaaffeaaa
