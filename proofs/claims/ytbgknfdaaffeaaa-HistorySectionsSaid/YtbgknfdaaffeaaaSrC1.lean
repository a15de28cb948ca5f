/- Sorting sections by their tokens: symMergeCmpFunc, part 1. Printed by gen_src.py. -/
import Derived.Test.YtbgknfdaaffeaaaSrC0
import Derived.Deep.DeepCutAuto
namespace Go.Proofs.Ytbgknfdaaffeaaa
open Go.RowKit Go.Shelf

set_option maxHeartbeats 16000000 in
set_option maxRecDepth 100000 in
theorem sym1_st (M0 : Imm) (L : List Res) (b n c N : Nat) (hmx : n ≤ 1000000) (a m e : Nat) (P F G Q : List SecV) (w : World) (heN : e ≤ a + (N + 1)) (ha : P.length = a) (hm : a + F.length = m) (he : m + G.length = e) (hF : 0 < F.length) (hG : 0 < G.length) (sF : SortedT F) (sG : SortedT G) (h1 : F.length = 1) (h : St M0 w (ownR secC 37 4 (.slice (some ⟨b, 0, none⟩) n c) (P ++ (F ++ (G ++ Q))) :: L)) :
    Calls Try.prog 165 #[.slice (some ⟨b, 0, none⟩) n c, .int .i64 (a : Nat), .int .i64 (m : Nat), .int .i64 (e : Nat), .func (.func 113) #[] #[]] w (SymQ M0 L b n c P F G Q) := by
  obtain ⟨hn, hnc, hcm, _⟩ := (h.flatO At.here).sl
  have hn2 : n = a + F.length + G.length + Q.length := by rw [hn, ← ha]; simp only [List.length_append]; omega
  have hen := fun args W => enters_of Try.func113 (by kernel_rfl) rfl (P := Try.prog) args W
  have HN := hide hn2
  have H := hide h
  have HA := hide ha
  have HM := hide hm
  have HE := hide he
  have HSF := hide sF
  have HSG := hide sG
  have HEN := hide heN
  have HQ0 := hide (show ∀ u w', SymQ M0 L b n c P F G Q u w' ↔ SymQ M0 L b n c P F G Q u w' from fun _ _ => Iff.rfl)
  have wma : IntKind.i64.wrap ((m : Int) - (a : Int)) = ((m - a : Nat) : Int) := (IntWalk.i64_in _ (by omega)).trans (by omega)
  have wem : IntKind.i64.wrap ((e : Int) - (m : Int)) = ((e - m : Nat) : Int) := (IntWalk.i64_in _ (by omega)).trans (by omega)
  obtain ⟨ma, hma⟩ : ∃ ma, ma = m - a := ⟨_, rfl⟩
  obtain ⟨em, hem⟩ : ∃ em, em = e - m := ⟨_, rfl⟩
  rw [← hma] at wma
  rw [← hem] at wem
  have hmaF : ma = F.length := by omega
  have hemG : em = G.length := by omega
  clear h hn hn2 sF sG heN ha hma hem
  go_enter Try.func165, Try.ntmps165
  have d1 : ((ma : Int) == 1) = true := isT (by omega)
  obtain ⟨x, rfl⟩ := List.length_eq_one_iff.1 h1
  clear h1 hF hm hmaF
  have hma1 : a + 1 = m := HM.out
  go_wp2_with fail
  go_loopg [10, 11] G.length (fun gh iv jv wr => ∃ (i j : Nat) (X Y Z : List SecV), gh = Y.length ∧ iv = .int .i64 (i : Nat) ∧ jv = .int .i64 (j : Nat) ∧ G = X ++ (Y ++ Z) ∧ i = m + X.length ∧ j = i + Y.length ∧ (∀ g ∈ X, g.t ≤ x.t) ∧ (∀ g ∈ Z, x.t ≤ g.t) ∧ St M0 wr (ownR secC 37 4 (.slice (some ⟨b, 0, none⟩) n c) (P ++ ([x] ++ (G ++ Q))) :: L))
  case atStart => exact ⟨m, e, [], G, [], rfl, rfl, rfl, by simp, rfl, by have := HE.out; omega, fun _ h => absurd h List.not_mem_nil, fun _ h => absurd h List.not_mem_nil, H.out⟩
  case round =>
    clear H
    obtain ⟨i, j, X, Y, Z, hg, rfl, rfl, hG2, hi, hj, hx, hz, h⟩ := hrel
    have hjn : j ≤ n := by
      have := HN.out
      have := congrArg List.length hG2
      simp only [List.length_append, List.length_cons, List.length_nil] at *
      omega
    have HX0 := hide hx
    have HZ0 := hide hz
    have HGG := hide hG2
    have HI := hide hi
    have HJ := hide hj
    have HG := hide hg
    clear hx hz hg
    by_cases hlt : i < j
    · have d2 : decide ((i : Int) < (j : Int)) = true := decide_eq_true (by omega)
      obtain ⟨hh, hh0⟩ : ∃ hh, hh = (i + j) / 2 := ⟨_, rfl⟩
      have wh1 : IntKind.i64.wrap ((i : Int) + (j : Int)) = ((i + j : Nat) : Int) := (IntWalk.i64_in _ (by have := HN.out; omega)).trans (by omega)
      obtain ⟨hij, hhij⟩ : ∃ hij, hij = i + j := ⟨_, rfl⟩
      rw [← hhij] at wh1
      have hijb : hij ≤ 4000000 := by omega
      have hdiv := half_i (s := hij) (h := hh) (by rw [hhij]; exact hh0)
      obtain ⟨y, hy⟩ : ∃ y, Y[hh - i]? = some y := ⟨Y[hh - i]'(by omega), List.getElem?_eq_getElem (by omega)⟩
      have hYs : Y = Y.take (hh - i) ++ y :: Y.drop (hh - i + 1) := by rw [← drop_consS hy, List.take_append_drop]
      obtain ⟨xs, hxs⟩ : ∃ xs, xs = P ++ ([x] ++ (G ++ Q)) := ⟨_, rfl⟩
      rw [← hxs] at h
      have HXS := hide hxs
      have HY := hide (show xs[a]? = some x by rw [hxs, ← HA.out]; exact at_mid _ _ _)
      have HX := hide (show xs[hh]? = some y by
        have e1 : xs = (P ++ ([x] ++ X)) ++ (Y ++ (Z ++ Q)) := by rw [hxs, hG2]; simp
        have l1 : (P ++ ([x] ++ X)).length = i := by rw [List.length_append, HA.out, hi, ← hma1]; simp; omega
        rw [e1, List.getElem?_append_right (by omega), l1, List.getElem?_append_left (by omega)]
        exact hy)
      have hhn : hh < n := by omega
      have i0 : (0 : Int) ≤ (hh : Int) := by omega
      have i1 : (hh : Int) < (n : Int) := by omega
      have a0 : (0 : Int) ≤ (a : Int) := by omega
      have a1 : (a : Int) < (n : Int) := by omega
      have HYL := hide (show (Y.take (hh - i)).length = hh - i ∧ (Y.drop (hh - i + 1)).length = j - (hh + 1) ∧ i ≤ hh ∧ hh < j by rw [List.length_take, List.length_drop]; omega)
      have hsY := (sortedT_app.1 (show SortedT (X ++ (Y ++ Z)) by rw [← hG2]; exact HSG.out)).2.1
      have HYS := hide hYs
      have HSY := hide (show SortedT ((Y.take (hh - i) ++ y :: Y.drop (hh - i + 1)) ++ Z) by rw [← hYs]; exact hsY)
      have HH := hide hh0
      have H1 := hide h
      by_cases hlt2 : y.t < x.t
      · have hd : decide (cmpI y.t x.t < 0) = true := by rw [cmpI_lt]; exact decide_eq_true hlt2
        have HLT := hide hlt2
        have wi1 : IntKind.i64.wrap ((hh : Int) + 1) = ((hh + 1 : Nat) : Int) := (IntWalk.i64_in _ (by omega)).trans (by omega)
        clear h hlt2 hxs hy hYs hsY hG2 hi hj hh0 hhij
        go_wp2_with fail
        have h0 := H1.out
        clear H1
        refine region_flow (M0 := M0) (L0 := L) [⟨none, none, fun e => ownR secC 37 4 (.slice (some ⟨b, 0, none⟩) n c) (xs)⟩] [[], [], [], [1, 2], [1, 2, 3], [], [], [5, 6], [5, 6, 7], [0, 1, 2, 3, 4, 5, 6, 7, 8], [0, 1, 2, 3, 4, 5, 6, 7, 8, 9]] [0, 1, 2, 3, 4, 5, 6, 7, 8, 9, 10] rfl (by kernel_rfl) (by kernel_rfl) (by kernel_rfl) (by rfl) (fun _ => rfl) (show St M0 _ (ownR secC 37 4 (.slice (some ⟨b, 0, none⟩) n c) (xs) :: L) from h0) ?_
        refine flow_run _ rfl (fun _ => rfl) (fun e wx Lx h => by (go_simp; try rfl)) (by intro e; rfl) (by intro e; rfl) (by intro e x; rfl) ?_
        (simp only [Act.put, List.setIfInBounds_toArray, List.set_cons_succ, List.set_cons_zero])
        refine flow_run _ rfl (fun _ => rfl) (fun e wx Lx h => by (go_simp; try rfl)) (by intro e; rfl) (by intro e; rfl) (by intro e x; rfl) ?_
        (simp only [Act.put, List.setIfInBounds_toArray, List.set_cons_succ, List.set_cons_zero])
        refine flow_run _ rfl (fun _ => rfl) (fun e wx Lx h => by (go_simp; try rfl)) (by intro e; rfl) (by intro e; rfl) (by intro e x; rfl) ?_
        (simp only [Act.put, List.setIfInBounds_toArray, List.set_cons_succ, List.set_cons_zero])
        refine flow_run _ rfl (fun _ => rfl) (fun e wx Lx h => by (go_simp; try rfl)) (by intro e; rfl) (by intro e; rfl) (by intro e x; rfl) ?_
        (simp only [Act.put, List.setIfInBounds_toArray, List.set_cons_succ, List.set_cons_zero])
        refine flow_run _ rfl (fun _ => rfl) (fun e wx Lx h => by (have h : St M0 wx (ownR secC 37 4 (.slice (some ⟨b, 0, none⟩) n c) (xs) :: Lx) := h; have hf := h.flatO (C := secC) (e := 37) (size := 4) (v := .slice (some ⟨b, 0, none⟩) n c) (xs := xs) (by (repeat (first | with_reducible exact At.here | with_reducible apply At.there))); obtain ⟨x0, x1, x2, x3⟩ := cellsSec hf HX.out; obtain ⟨y0, y1, y2, y3⟩ := cellsSec hf HY.out; go_simp; try rfl)) (by intro e; rfl) (by intro e; rfl) (by intro e x; rfl) ?_
        (simp only [Act.put, List.setIfInBounds_toArray, List.set_cons_succ, List.set_cons_zero])
        refine flow_run _ rfl (fun _ => rfl) (fun e wx Lx h => by (go_simp; try rfl)) (by intro e; rfl) (by intro e; rfl) (by intro e x; rfl) ?_
        (simp only [Act.put, List.setIfInBounds_toArray, List.set_cons_succ, List.set_cons_zero])
        refine flow_run _ rfl (fun _ => rfl) (fun e wx Lx h => by (go_simp; try rfl)) (by intro e; rfl) (by intro e; rfl) (by intro e x; rfl) ?_
        (simp only [Act.put, List.setIfInBounds_toArray, List.set_cons_succ, List.set_cons_zero])
        refine flow_run _ rfl (fun _ => rfl) (fun e wx Lx h => by (go_simp; try rfl)) (by intro e; rfl) (by intro e; rfl) (by intro e x; rfl) ?_
        (simp only [Act.put, List.setIfInBounds_toArray, List.set_cons_succ, List.set_cons_zero])
        refine flow_run _ rfl (fun _ => rfl) (fun e wx Lx h => by (have h : St M0 wx (ownR secC 37 4 (.slice (some ⟨b, 0, none⟩) n c) (xs) :: Lx) := h; have hf := h.flatO (C := secC) (e := 37) (size := 4) (v := .slice (some ⟨b, 0, none⟩) n c) (xs := xs) (by (repeat (first | with_reducible exact At.here | with_reducible apply At.there))); obtain ⟨x0, x1, x2, x3⟩ := cellsSec hf HX.out; obtain ⟨y0, y1, y2, y3⟩ := cellsSec hf HY.out; go_simp; try rfl)) (by intro e; rfl) (by intro e; rfl) (by intro e x; rfl) ?_
        (simp only [Act.put, List.setIfInBounds_toArray, List.set_cons_succ, List.set_cons_zero])
        refine flow_call 113 (fun e => #[.agg #[.int .u64 y.t, .slice y.p.a y.p.n y.p.c, .int .i64 y.s, .slice y.k.a y.k.n y.k.c], .agg #[.int .u64 x.t, .slice x.p.a x.p.n x.p.c, .int .i64 x.s, .slice x.k.a x.k.n x.k.c]]) (fun e => .int .i64 (cmpI y.t x.t)) rfl (fun _ => rfl) (by intro e; rfl) (fun e wx => by (first | (go_simp; done) | (go_simp; exact hen _ _) | exact hen _ _)) (fun e wx Lx h => by (
          have h : St M0 wx (ownR secC 37 4 (.slice (some ⟨b, 0, none⟩) n c) (xs) :: Lx) := h
          refine (cmpSec_st y x _ h).mono ?_
          rintro u wy ⟨rfl, h1⟩
          have hk : St M0 wy (ownR secC 37 4 (.slice (some ⟨b, 0, none⟩) n c) (xs) :: Lx) := h1
          exact ⟨⟨none, 0, default⟩, rfl, hk⟩)) ?_
        (simp only [Act.put, List.setIfInBounds_toArray, List.set_cons_succ, List.set_cons_zero])
        refine flow_run (fun e => .bool true) rfl (fun _ => rfl) (fun e wx Lx h => by (go_simp; try rfl)) (by intro e; rfl) (by intro e; rfl) (by intro e x; rfl) ?_
        (simp only [Act.put, List.setIfInBounds_toArray, List.set_cons_succ, List.set_cons_zero])
        refine flow_nil ?_
        intro e w1 h
        have h : St M0 w1 (ownR secC 37 4 (.slice (some ⟨b, 0, none⟩) n c) (xs) :: L) := h
        have H2 := hide h
        clear h h0
        go_wp2_with fail
        rw [HXS.out] at H2
        go_roundg (Y.drop (hh - i + 1)).length
        case measure => have := HG.out; have := HYL.out; have := HJ.out; omega
        case rel =>
          refine ⟨hh + 1, j, X ++ (Y.take (hh - i) ++ [y]), Y.drop (hh - i + 1), Z, rfl, by go_num, rfl, ?_, ?_, ?_, ?_, HZ0.out, H2.out⟩
          · rw [HGG.out]
            conv => lhs; rw [HYS.out]
            simp
          · have := HYL.out; have := HI.out; simp only [List.length_append, List.length_cons, List.length_nil]; omega
          · have := HYL.out; omega
          · intro g hg
            rcases List.mem_append.1 hg with hg | hg
            · exact HX0.out g hg
            · rcases List.mem_append.1 hg with hg | hg
              · have := (SortedT.last (sortedT_app.1 HSY.out).1).1 g hg
                have := HLT.out
                omega
              · rw [List.mem_singleton] at hg
                rw [hg]
                exact Int.le_of_lt HLT.out
      · have hd : decide (cmpI y.t x.t < 0) = false := by rw [cmpI_lt]; exact decide_eq_false hlt2
        have HLT := hide hlt2
        clear h hlt2 hxs hy hYs hsY hG2 hi hj hh0 hhij
        go_wp2_with fail
        have h0 := H1.out
        clear H1
        refine region_flow (M0 := M0) (L0 := L) [⟨none, none, fun e => ownR secC 37 4 (.slice (some ⟨b, 0, none⟩) n c) (xs)⟩] [[], [], [], [1, 2], [1, 2, 3], [], [], [5, 6], [5, 6, 7], [0, 1, 2, 3, 4, 5, 6, 7, 8], [0, 1, 2, 3, 4, 5, 6, 7, 8, 9]] [0, 1, 2, 3, 4, 5, 6, 7, 8, 9, 10] rfl (by kernel_rfl) (by kernel_rfl) (by kernel_rfl) (by rfl) (fun _ => rfl) (show St M0 _ (ownR secC 37 4 (.slice (some ⟨b, 0, none⟩) n c) (xs) :: L) from h0) ?_
        refine flow_run _ rfl (fun _ => rfl) (fun e wx Lx h => by (go_simp; try rfl)) (by intro e; rfl) (by intro e; rfl) (by intro e x; rfl) ?_
        (simp only [Act.put, List.setIfInBounds_toArray, List.set_cons_succ, List.set_cons_zero])
        refine flow_run _ rfl (fun _ => rfl) (fun e wx Lx h => by (go_simp; try rfl)) (by intro e; rfl) (by intro e; rfl) (by intro e x; rfl) ?_
        (simp only [Act.put, List.setIfInBounds_toArray, List.set_cons_succ, List.set_cons_zero])
        refine flow_run _ rfl (fun _ => rfl) (fun e wx Lx h => by (go_simp; try rfl)) (by intro e; rfl) (by intro e; rfl) (by intro e x; rfl) ?_
        (simp only [Act.put, List.setIfInBounds_toArray, List.set_cons_succ, List.set_cons_zero])
        refine flow_run _ rfl (fun _ => rfl) (fun e wx Lx h => by (go_simp; try rfl)) (by intro e; rfl) (by intro e; rfl) (by intro e x; rfl) ?_
        (simp only [Act.put, List.setIfInBounds_toArray, List.set_cons_succ, List.set_cons_zero])
        refine flow_run _ rfl (fun _ => rfl) (fun e wx Lx h => by (have h : St M0 wx (ownR secC 37 4 (.slice (some ⟨b, 0, none⟩) n c) (xs) :: Lx) := h; have hf := h.flatO (C := secC) (e := 37) (size := 4) (v := .slice (some ⟨b, 0, none⟩) n c) (xs := xs) (by (repeat (first | with_reducible exact At.here | with_reducible apply At.there))); obtain ⟨x0, x1, x2, x3⟩ := cellsSec hf HX.out; obtain ⟨y0, y1, y2, y3⟩ := cellsSec hf HY.out; go_simp; try rfl)) (by intro e; rfl) (by intro e; rfl) (by intro e x; rfl) ?_
        (simp only [Act.put, List.setIfInBounds_toArray, List.set_cons_succ, List.set_cons_zero])
        refine flow_run _ rfl (fun _ => rfl) (fun e wx Lx h => by (go_simp; try rfl)) (by intro e; rfl) (by intro e; rfl) (by intro e x; rfl) ?_
        (simp only [Act.put, List.setIfInBounds_toArray, List.set_cons_succ, List.set_cons_zero])
        refine flow_run _ rfl (fun _ => rfl) (fun e wx Lx h => by (go_simp; try rfl)) (by intro e; rfl) (by intro e; rfl) (by intro e x; rfl) ?_
        (simp only [Act.put, List.setIfInBounds_toArray, List.set_cons_succ, List.set_cons_zero])
        refine flow_run _ rfl (fun _ => rfl) (fun e wx Lx h => by (go_simp; try rfl)) (by intro e; rfl) (by intro e; rfl) (by intro e x; rfl) ?_
        (simp only [Act.put, List.setIfInBounds_toArray, List.set_cons_succ, List.set_cons_zero])
        refine flow_run _ rfl (fun _ => rfl) (fun e wx Lx h => by (have h : St M0 wx (ownR secC 37 4 (.slice (some ⟨b, 0, none⟩) n c) (xs) :: Lx) := h; have hf := h.flatO (C := secC) (e := 37) (size := 4) (v := .slice (some ⟨b, 0, none⟩) n c) (xs := xs) (by (repeat (first | with_reducible exact At.here | with_reducible apply At.there))); obtain ⟨x0, x1, x2, x3⟩ := cellsSec hf HX.out; obtain ⟨y0, y1, y2, y3⟩ := cellsSec hf HY.out; go_simp; try rfl)) (by intro e; rfl) (by intro e; rfl) (by intro e x; rfl) ?_
        (simp only [Act.put, List.setIfInBounds_toArray, List.set_cons_succ, List.set_cons_zero])
        refine flow_call 113 (fun e => #[.agg #[.int .u64 y.t, .slice y.p.a y.p.n y.p.c, .int .i64 y.s, .slice y.k.a y.k.n y.k.c], .agg #[.int .u64 x.t, .slice x.p.a x.p.n x.p.c, .int .i64 x.s, .slice x.k.a x.k.n x.k.c]]) (fun e => .int .i64 (cmpI y.t x.t)) rfl (fun _ => rfl) (by intro e; rfl) (fun e wx => by (first | (go_simp; done) | (go_simp; exact hen _ _) | exact hen _ _)) (fun e wx Lx h => by (
          have h : St M0 wx (ownR secC 37 4 (.slice (some ⟨b, 0, none⟩) n c) (xs) :: Lx) := h
          refine (cmpSec_st y x _ h).mono ?_
          rintro u wy ⟨rfl, h1⟩
          have hk : St M0 wy (ownR secC 37 4 (.slice (some ⟨b, 0, none⟩) n c) (xs) :: Lx) := h1
          exact ⟨⟨none, 0, default⟩, rfl, hk⟩)) ?_
        (simp only [Act.put, List.setIfInBounds_toArray, List.set_cons_succ, List.set_cons_zero])
        refine flow_run (fun e => .bool false) rfl (fun _ => rfl) (fun e wx Lx h => by (go_simp; try rfl)) (by intro e; rfl) (by intro e; rfl) (by intro e x; rfl) ?_
        (simp only [Act.put, List.setIfInBounds_toArray, List.set_cons_succ, List.set_cons_zero])
        refine flow_nil ?_
        intro e w1 h
        have h : St M0 w1 (ownR secC 37 4 (.slice (some ⟨b, 0, none⟩) n c) (xs) :: L) := h
        have H2 := hide h
        clear h h0
        go_wp2_with fail
        rw [HXS.out] at H2
        go_roundg (Y.take (hh - i)).length
        case measure => have := HG.out; have := HYL.out; have := HJ.out; omega
        case rel =>
          refine ⟨i, hh, X, Y.take (hh - i), y :: (Y.drop (hh - i + 1) ++ Z), rfl, rfl, rfl, ?_, HI.out, ?_, HX0.out, ?_, H2.out⟩
          · rw [HGG.out]
            conv => lhs; rw [HYS.out]
            simp
          · have := HYL.out; omega
          · have hs2 : SortedT (y :: (Y.drop (hh - i + 1) ++ Z)) := (sortedT_app.1 (show SortedT (Y.take (hh - i) ++ (y :: (Y.drop (hh - i + 1) ++ Z))) by have := HSY.out; simpa using this)).2.1
            exact hs2.head_ge (by have := HLT.out; omega)
    · obtain rfl : i = j := by omega
      have d2 : decide ((i : Int) < (i : Int)) = false := decide_eq_false (by omega)
      have hY0 : Y = [] := List.eq_nil_of_length_eq_zero (by omega)
      subst hY0
      rw [List.nil_append] at hG2
      subst hG2
      have wi1 : IntKind.i64.wrap ((i : Int) - 1) = ((i - 1 : Nat) : Int) := (IntWalk.i64_in _ (by omega)).trans (by omega)
      obtain ⟨ii, hii⟩ : ∃ ii, ii = i - 1 := ⟨_, rfl⟩
      rw [← hii] at wi1
      have HII := hide (show ii = a + X.length by omega)
      have HIIN := hide (show ii ≤ n by omega)
      have H1 := hide h
      clear h hi hj HGG HG hii
      go_wp2_with fail
      go_loopg [13] X.length (fun gh kv wr => ∃ (k : Nat) (G1a G1b : List SecV), gh = G1b.length ∧ k = a + G1a.length ∧ kv = .int .i64 (k : Nat) ∧ X = G1a ++ G1b ∧ St M0 wr (ownR secC 37 4 (.slice (some ⟨b, 0, none⟩) n c) (P ++ (G1a ++ ([x] ++ (G1b ++ (Z ++ Q))))) :: L))
      case atStart => exact ⟨a, [], X, rfl, rfl, rfl, by simp, by have := H1.out; simpa using this⟩
      case round =>
        clear H1
        obtain ⟨k, G1a, G1b, hgk, hk, rfl, hX, h⟩ := hrel
        have HK := hide hgk
        clear hgk
        cases G1b with
        | nil =>
          have hkk : k = ii := by rw [hk, HII.out, hX]; simp
          have d3 : decide ((k : Int) < (ii : Int)) = false := decide_eq_false (by omega)
          have HX1 := hide (show X = G1a by rw [hX]; simp)
          have H2 := hide h
          clear h hX
          go_wp2_with fail
          ((try simp only [Exit.inBlock, Exit.then]); refine bodyPost_ret (results_none rfl _ _ _) rfl ?_)
          refine ⟨rfl, G1a ++ x :: Z, ?_, ?_, ?_⟩
          · rw [HX1.out]
            show (G1a ++ x :: Z).Perm ([x] ++ (G1a ++ Z))
            exact List.perm_middle
          · refine SortedT.put ?_ ?_ HZ0.out
            · have := HSG.out
              rwa [HX1.out] at this
            · have := HX0.out
              rwa [HX1.out] at this
          · have := H2.out
            simpa using this
        | cons y G1b =>
          have hkk : k < ii := by rw [hk, HII.out, hX]; simp
          have d3 : decide ((k : Int) < (ii : Int)) = true := decide_eq_true (by omega)
          have wk : IntKind.i64.wrap ((k : Int) + 1) = ((k + 1 : Nat) : Int) := (IntWalk.i64_in _ (by have := HIIN.out; omega)).trans (by omega)
          obtain ⟨q, hq⟩ : ∃ q, q = k + 1 := ⟨_, rfl⟩
          rw [← hq] at wk
          obtain ⟨xs, hxs⟩ : ∃ xs, xs = (P ++ G1a) ++ x :: y :: (G1b ++ (Z ++ Q)) := ⟨_, rfl⟩
          have lk : (P ++ G1a).length = k := by rw [List.length_append, HA.out, hk]
          rw [show P ++ (G1a ++ ([x] ++ ((y :: G1b) ++ (Z ++ Q)))) = xs by rw [hxs]; simp] at h
          have HX := hide (show xs[k]? = some x by rw [hxs, ← lk]; exact at_mid _ _ _)
          have HY := hide (show xs[q]? = some y by rw [hxs, hq, ← lk]; exact at_mid' _ _ _ _)
          have HSW := hide (show (xs.set k y).set q x = P ++ ((G1a ++ [y]) ++ ([x] ++ (G1b ++ (Z ++ Q)))) by rw [hxs, hq, ← lk, swap_adj']; simp)
          have HLI := hide ((List.getElem?_eq_some_iff.1 HX.out).1)
          have HLJ := hide ((List.getElem?_eq_some_iff.1 HY.out).1)
          have hln : xs.length = n := ((h.flatO At.here).sl.1).symm
          have hl1 := HLI.out
          have hl2 := HLJ.out
          have k0 : (0 : Int) ≤ (k : Int) := by omega
          have k1 : (k : Int) < (n : Int) := by omega
          have q0 : (0 : Int) ≤ (q : Int) := by omega
          have q1 : (q : Int) < (n : Int) := by omega
          have HGG := hide hX
          have HQ := hide (show q = a + G1a.length + 1 by omega)
          have H1 := hide h
          clear h hX hxs lk hq hk hl1 hl2
          go_wp2_with fail
          have h0 := H1.out
          clear H1
          refine region_flow (M0 := M0) (L0 := L) [⟨none, some 15, fun e => ownR secC 37 4 (.slice (some ⟨b, 0, none⟩) n c) (xs)⟩, ⟨some 15, some 17, fun e => ownR secC 37 4 (.slice (some ⟨b, 0, none⟩) n c) ((xs).set k y)⟩, ⟨some 17, none, fun e => ownR secC 37 4 (.slice (some ⟨b, 0, none⟩) n c) (((xs).set k y).set q x)⟩] [[], [], [], [], [3], [], [], [6], [5, 6, 7], [5, 6, 7, 8], [], [], [10, 11], [10, 11, 12], [0, 1, 5, 6, 7, 8, 9, 10, 11, 12, 13], [0, 1, 5, 6, 7, 8, 9, 10, 11, 12, 13, 14], [0, 1, 2, 3, 4, 5, 6, 7, 8, 9, 10, 11, 12, 13, 14, 15], [0, 1, 2, 3, 4, 5, 6, 7, 8, 9, 10, 11, 12, 13, 14, 15, 16]] [0, 1, 2, 3, 4, 5, 6, 7, 8, 9, 10, 11, 12, 13, 14, 15, 16, 17] rfl (by kernel_rfl) (by kernel_rfl) (by kernel_rfl) (by rfl) (fun _ => rfl) (show St M0 _ (ownR secC 37 4 (.slice (some ⟨b, 0, none⟩) n c) (xs) :: L) from h0) ?_
          refine flow_run _ rfl (fun _ => rfl) (fun e wx Lx h => by (go_simp; try rfl)) (by intro e; rfl) (by intro e; rfl) (by intro e x; rfl) ?_
          (simp only [Act.put, List.setIfInBounds_toArray, List.set_cons_succ, List.set_cons_zero])
          refine flow_run _ rfl (fun _ => rfl) (fun e wx Lx h => by (go_simp; try rfl)) (by intro e; rfl) (by intro e; rfl) (by intro e x; rfl) ?_
          (simp only [Act.put, List.setIfInBounds_toArray, List.set_cons_succ, List.set_cons_zero])
          refine flow_run _ rfl (fun _ => rfl) (fun e wx Lx h => by (go_simp; try rfl)) (by intro e; rfl) (by intro e; rfl) (by intro e x; rfl) ?_
          (simp only [Act.put, List.setIfInBounds_toArray, List.set_cons_succ, List.set_cons_zero])
          refine flow_run _ rfl (fun _ => rfl) (fun e wx Lx h => by (go_simp; try rfl)) (by intro e; rfl) (by intro e; rfl) (by intro e x; rfl) ?_
          (simp only [Act.put, List.setIfInBounds_toArray, List.set_cons_succ, List.set_cons_zero])
          refine flow_run _ rfl (fun _ => rfl) (fun e wx Lx h => by (go_simp; try rfl)) (by intro e; rfl) (by intro e; rfl) (by intro e x; rfl) ?_
          (simp only [Act.put, List.setIfInBounds_toArray, List.set_cons_succ, List.set_cons_zero])
          refine flow_run _ rfl (fun _ => rfl) (fun e wx Lx h => by (go_simp; try rfl)) (by intro e; rfl) (by intro e; rfl) (by intro e x; rfl) ?_
          (simp only [Act.put, List.setIfInBounds_toArray, List.set_cons_succ, List.set_cons_zero])
          refine flow_run _ rfl (fun _ => rfl) (fun e wx Lx h => by (go_simp; try rfl)) (by intro e; rfl) (by intro e; rfl) (by intro e x; rfl) ?_
          (simp only [Act.put, List.setIfInBounds_toArray, List.set_cons_succ, List.set_cons_zero])
          refine flow_run _ rfl (fun _ => rfl) (fun e wx Lx h => by (go_simp; try rfl)) (by intro e; rfl) (by intro e; rfl) (by intro e x; rfl) ?_
          (simp only [Act.put, List.setIfInBounds_toArray, List.set_cons_succ, List.set_cons_zero])
          refine flow_run _ rfl (fun _ => rfl) (fun e wx Lx h => by (go_simp; try rfl)) (by intro e; rfl) (by intro e; rfl) (by intro e x; rfl) ?_
          (simp only [Act.put, List.setIfInBounds_toArray, List.set_cons_succ, List.set_cons_zero])
          refine flow_run _ rfl (fun _ => rfl) (fun e wx Lx h => by (have h : St M0 wx (ownR secC 37 4 (.slice (some ⟨b, 0, none⟩) n c) (xs) :: Lx) := h; have hf := h.flatO (C := secC) (e := 37) (size := 4) (v := .slice (some ⟨b, 0, none⟩) n c) (xs := xs) (by (repeat (first | with_reducible exact At.here | with_reducible apply At.there))); obtain ⟨x0, x1, x2, x3⟩ := cellsSec hf HX.out; obtain ⟨y0, y1, y2, y3⟩ := cellsSec hf HY.out; go_simp; try rfl)) (by intro e; rfl) (by intro e; rfl) (by intro e x; rfl) ?_
          (simp only [Act.put, List.setIfInBounds_toArray, List.set_cons_succ, List.set_cons_zero])
          refine flow_run _ rfl (fun _ => rfl) (fun e wx Lx h => by (go_simp; try rfl)) (by intro e; rfl) (by intro e; rfl) (by intro e x; rfl) ?_
          (simp only [Act.put, List.setIfInBounds_toArray, List.set_cons_succ, List.set_cons_zero])
          refine flow_run _ rfl (fun _ => rfl) (fun e wx Lx h => by (go_simp; try rfl)) (by intro e; rfl) (by intro e; rfl) (by intro e x; rfl) ?_
          (simp only [Act.put, List.setIfInBounds_toArray, List.set_cons_succ, List.set_cons_zero])
          refine flow_run _ rfl (fun _ => rfl) (fun e wx Lx h => by (go_simp; try rfl)) (by intro e; rfl) (by intro e; rfl) (by intro e x; rfl) ?_
          (simp only [Act.put, List.setIfInBounds_toArray, List.set_cons_succ, List.set_cons_zero])
          refine flow_run _ rfl (fun _ => rfl) (fun e wx Lx h => by (have h : St M0 wx (ownR secC 37 4 (.slice (some ⟨b, 0, none⟩) n c) (xs) :: Lx) := h; have hf := h.flatO (C := secC) (e := 37) (size := 4) (v := .slice (some ⟨b, 0, none⟩) n c) (xs := xs) (by (repeat (first | with_reducible exact At.here | with_reducible apply At.there))); obtain ⟨x0, x1, x2, x3⟩ := cellsSec hf HX.out; obtain ⟨y0, y1, y2, y3⟩ := cellsSec hf HY.out; go_simp; try rfl)) (by intro e; rfl) (by intro e; rfl) (by intro e x; rfl) ?_
          (simp only [Act.put, List.setIfInBounds_toArray, List.set_cons_succ, List.set_cons_zero])
          refine flow_run _ rfl (fun _ => rfl) (fun e wx Lx h => by (go_simp; try rfl)) (by intro e; rfl) (by intro e; rfl) (by intro e x; rfl) ?_
          (simp only [Act.put, List.setIfInBounds_toArray, List.set_cons_succ, List.set_cons_zero])
          refine flow_store _ _ _ (fun e => .pointer (some ⟨b, k * 4, none⟩)) (fun e => .agg #[.int .u64 y.t, .slice y.p.a y.p.n y.p.c, .int .i64 y.s, .slice y.k.a y.k.n y.k.c]) rfl (fun _ => rfl) rfl (fun _ => rfl) (fun _ => rfl) (fun e wx Lx h => by (
            have h : St M0 wx (ownR secC 37 4 (.slice (some ⟨b, 0, none⟩) n c) (xs) :: Lx) := h
            have h1 := (h.front (X := ownR secC 37 4 (.slice (some ⟨b, 0, none⟩) n c) (xs)) (by (repeat (first | with_reducible exact At.here | with_reducible apply At.there)))).ownPut secC_len (k := k) (by exact HLI.out) y
            have hk : St M0 _ (ownR secC 37 4 (.slice (some ⟨b, 0, none⟩) n c) ((xs).set k y) :: Lx) := h1.1.sub (by (repeat (first | with_reducible exact Sub.refl _ | (with_reducible apply Sub.take; focus (repeat (first | with_reducible exact At.here | with_reducible apply At.there))) | with_reducible apply Sub.drop)))
            exact ⟨_, (sec_store _ _ _ _ h1.2), hk⟩)) ?_
          simp only [Act.put]
          refine flow_run _ rfl (fun _ => rfl) (fun e wx Lx h => by (go_simp; try rfl)) (by intro e; rfl) (by intro e; rfl) (by intro e x; rfl) ?_
          (simp only [Act.put, List.setIfInBounds_toArray, List.set_cons_succ, List.set_cons_zero])
          refine flow_store _ _ _ (fun e => .pointer (some ⟨b, q * 4, none⟩)) (fun e => .agg #[.int .u64 x.t, .slice x.p.a x.p.n x.p.c, .int .i64 x.s, .slice x.k.a x.k.n x.k.c]) rfl (fun _ => rfl) rfl (fun _ => rfl) (fun _ => rfl) (fun e wx Lx h => by (
            have h : St M0 wx (ownR secC 37 4 (.slice (some ⟨b, 0, none⟩) n c) ((xs).set k y) :: Lx) := h
            have h1 := (h.front (X := ownR secC 37 4 (.slice (some ⟨b, 0, none⟩) n c) ((xs).set k y)) (by (repeat (first | with_reducible exact At.here | with_reducible apply At.there)))).ownPut secC_len (k := q) (by rw [List.length_set]; exact HLJ.out) x
            have hk : St M0 _ (ownR secC 37 4 (.slice (some ⟨b, 0, none⟩) n c) (((xs).set k y).set q x) :: Lx) := h1.1.sub (by (repeat (first | with_reducible exact Sub.refl _ | (with_reducible apply Sub.take; focus (repeat (first | with_reducible exact At.here | with_reducible apply At.there))) | with_reducible apply Sub.drop)))
            exact ⟨_, (sec_store _ _ _ _ h1.2), hk⟩)) ?_
          simp only [Act.put]
          refine flow_nil ?_
          intro e w1 h
          have h : St M0 w1 (ownR secC 37 4 (.slice (some ⟨b, 0, none⟩) n c) (((xs).set k y).set q x) :: L) := h
          rw [HSW.out] at h
          have H3 := hide h
          clear h h0
          go_wp2_with fail
          go_roundg G1b.length
          case measure => have := HK.out; simp at this; omega
          case rel => exact ⟨q, G1a ++ [y], G1b, rfl, by have := HQ.out; simp; omega, by go_num, by rw [HGG.out]; simp, H3.out⟩
end Go.Proofs.Ytbgknfdaaffeaaa
