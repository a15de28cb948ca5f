/- Sorting sections by their tokens: symMergeCmpFunc, part 2. Printed by gen_src.py. -/
import Derived.Test.YtbgknfdaaffeaaaSrC0
import Derived.Deep.DeepCutAuto
namespace Go.Proofs.Ytbgknfdaaffeaaa
open Go.RowKit Go.Shelf

set_option maxHeartbeats 16000000 in
set_option maxRecDepth 100000 in
theorem sym2_st (M0 : Imm) (L : List Res) (b n c N : Nat) (hmx : n ≤ 1000000) (a m e : Nat) (P F G Q : List SecV) (w : World) (heN : e ≤ a + (N + 1)) (ha : P.length = a) (hm : a + F.length = m) (he : m + G.length = e) (hF : 0 < F.length) (hG : 0 < G.length) (sF : SortedT F) (sG : SortedT G) (h1 : ¬ F.length = 1) (h2 : G.length = 1) (h : St M0 w (ownR secC 37 4 (.slice (some ⟨b, 0, none⟩) n c) (P ++ (F ++ (G ++ Q))) :: L)) :
    Calls Try.prog 165 #[.slice (some ⟨b, 0, none⟩) n c, .int .i64 (a : Nat), .int .i64 (m : Nat), .int .i64 (e : Nat), .func (.func 113) #[] #[]] w (SymQ M0 L b n c P F G Q) := by
  obtain ⟨hn, hnc, hcm, _⟩ := (h.flatO At.here).sl
  have hn2 : n = a + F.length + G.length + Q.length := by rw [hn, ← ha]; simp only [List.length_append]; omega
  have hen := fun args W => enters_of Try.func113 (by kernel_rfl) rfl (P := Try.prog) args W
  have HN := hide hn2
  have H := hide h
  have HA := hide ha
  have HM := hide hm
  have HE := hide he
  have HSF := hide sF
  have HSG := hide sG
  have HEN := hide heN
  have HQ0 := hide (show ∀ u w', SymQ M0 L b n c P F G Q u w' ↔ SymQ M0 L b n c P F G Q u w' from fun _ _ => Iff.rfl)
  have wma : IntKind.i64.wrap ((m : Int) - (a : Int)) = ((m - a : Nat) : Int) := (IntWalk.i64_in _ (by omega)).trans (by omega)
  have wem : IntKind.i64.wrap ((e : Int) - (m : Int)) = ((e - m : Nat) : Int) := (IntWalk.i64_in _ (by omega)).trans (by omega)
  obtain ⟨ma, hma⟩ : ∃ ma, ma = m - a := ⟨_, rfl⟩
  obtain ⟨em, hem⟩ : ∃ em, em = e - m := ⟨_, rfl⟩
  rw [← hma] at wma
  rw [← hem] at wem
  have hmaF : ma = F.length := by omega
  have hemG : em = G.length := by omega
  clear h hn hn2 sF sG heN ha hma hem
  go_enter Try.func165, Try.ntmps165
  have d1 : ((ma : Int) == 1) = false := isF (by omega)
  have d2 : ((em : Int) == 1) = true := isT (by omega)
  obtain ⟨y, rfl⟩ := List.length_eq_one_iff.1 h2
  clear h1 h2 hG he hmaF hemG
  have hem1 : m + 1 = e := HE.out
  go_wp2_with fail
  go_loopg [14, 15] F.length (fun gh iv jv wr => ∃ (i j : Nat) (X Y Z : List SecV), gh = Y.length ∧ iv = .int .i64 (i : Nat) ∧ jv = .int .i64 (j : Nat) ∧ F = X ++ (Y ++ Z) ∧ i = a + X.length ∧ j = i + Y.length ∧ (∀ g ∈ X, g.t ≤ y.t) ∧ (∀ g ∈ Z, y.t ≤ g.t) ∧ St M0 wr (ownR secC 37 4 (.slice (some ⟨b, 0, none⟩) n c) (P ++ (F ++ ([y] ++ Q))) :: L))
  case atStart => exact ⟨a, m, [], F, [], rfl, rfl, rfl, by simp, rfl, HM.out.symm, fun _ h => absurd h List.not_mem_nil, fun _ h => absurd h List.not_mem_nil, H.out⟩
  case round =>
    clear H
    obtain ⟨i, j, X, Y, Z, hg, rfl, rfl, hF2, hi, hj, hx, hz, h⟩ := hrel
    have hjn : j ≤ m ∧ m < n := by
      have := HN.out
      have := HM.out
      have := congrArg List.length hF2
      simp only [List.length_append, List.length_cons, List.length_nil] at *
      omega
    have HX0 := hide hx
    have HZ0 := hide hz
    have HFF := hide hF2
    have HI := hide hi
    have HJ := hide hj
    have HG := hide hg
    clear hx hz hg
    by_cases hlt : i < j
    · have d3 : decide ((i : Int) < (j : Int)) = true := decide_eq_true (by omega)
      obtain ⟨hh, hh0⟩ : ∃ hh, hh = (i + j) / 2 := ⟨_, rfl⟩
      have wh1 : IntKind.i64.wrap ((i : Int) + (j : Int)) = ((i + j : Nat) : Int) := (IntWalk.i64_in _ (by have := HN.out; omega)).trans (by omega)
      obtain ⟨hij, hhij⟩ : ∃ hij, hij = i + j := ⟨_, rfl⟩
      rw [← hhij] at wh1
      have hijb : hij ≤ 4000000 := by omega
      have hdiv := half_i (s := hij) (h := hh) (by rw [hhij]; exact hh0)
      obtain ⟨z, hy⟩ : ∃ z, Y[hh - i]? = some z := ⟨Y[hh - i]'(by omega), List.getElem?_eq_getElem (by omega)⟩
      have hYs : Y = Y.take (hh - i) ++ z :: Y.drop (hh - i + 1) := by rw [← drop_consS hy, List.take_append_drop]
      obtain ⟨xs, hxs⟩ : ∃ xs, xs = P ++ (F ++ ([y] ++ Q)) := ⟨_, rfl⟩
      rw [← hxs] at h
      have HXS := hide hxs
      have HX := hide (show xs[m]? = some y by
        have l1 : (P ++ F).length = m := by rw [List.length_append, HA.out, HM.out]
        rw [hxs, ← List.append_assoc, ← l1]
        exact at_mid _ _ _)
      have HY := hide (show xs[hh]? = some z by
        have e1 : xs = (P ++ X) ++ (Y ++ (Z ++ ([y] ++ Q))) := by rw [hxs, hF2]; simp
        have l1 : (P ++ X).length = i := by rw [List.length_append, HA.out, hi]
        rw [e1, List.getElem?_append_right (by omega), l1, List.getElem?_append_left (by omega)]
        exact hy)
      have i0 : (0 : Int) ≤ (hh : Int) := by omega
      have i1 : (hh : Int) < (n : Int) := by omega
      have a0 : (0 : Int) ≤ (m : Int) := by omega
      have a1 : (m : Int) < (n : Int) := by omega
      have HYL := hide (show (Y.take (hh - i)).length = hh - i ∧ (Y.drop (hh - i + 1)).length = j - (hh + 1) ∧ i ≤ hh ∧ hh < j by rw [List.length_take, List.length_drop]; omega)
      have hsY := (sortedT_app.1 (show SortedT (X ++ (Y ++ Z)) by rw [← hF2]; exact HSF.out)).2.1
      have HYS := hide hYs
      have HSY := hide (show SortedT ((Y.take (hh - i) ++ z :: Y.drop (hh - i + 1)) ++ Z) by rw [← hYs]; exact hsY)
      have HH := hide hh0
      have H1 := hide h
      by_cases hlt2 : y.t < z.t
      · have hd : decide (cmpI y.t z.t < 0) = true := by rw [cmpI_lt]; exact decide_eq_true hlt2
        have HLT := hide hlt2
        clear h hlt2 hxs hy hYs hsY hF2 hi hj hh0 hhij
        go_wp2_with fail
        have h0 := H1.out
        clear H1
        refine region_flow (M0 := M0) (L0 := L) [⟨none, none, fun e => ownR secC 37 4 (.slice (some ⟨b, 0, none⟩) n c) (xs)⟩] [[], [], [], [1, 2], [1, 2, 3], [], [], [5, 6], [5, 6, 7], [0, 1, 2, 3, 4, 5, 6, 7, 8], [0, 1, 2, 3, 4, 5, 6, 7, 8, 9], [0, 1, 2, 3, 4, 5, 6, 7, 8, 9, 10]] [0, 1, 2, 3, 4, 5, 6, 7, 8, 9, 10, 11] rfl (by kernel_rfl) (by kernel_rfl) (by kernel_rfl) (by rfl) (fun _ => rfl) (show St M0 _ (ownR secC 37 4 (.slice (some ⟨b, 0, none⟩) n c) (xs) :: L) from h0) ?_
        refine flow_run _ rfl (fun _ => rfl) (fun e wx Lx h => by (go_simp; try rfl)) (by intro e; rfl) (by intro e; rfl) (by intro e x; rfl) ?_
        (simp only [Act.put, List.setIfInBounds_toArray, List.set_cons_succ, List.set_cons_zero])
        refine flow_run _ rfl (fun _ => rfl) (fun e wx Lx h => by (go_simp; try rfl)) (by intro e; rfl) (by intro e; rfl) (by intro e x; rfl) ?_
        (simp only [Act.put, List.setIfInBounds_toArray, List.set_cons_succ, List.set_cons_zero])
        refine flow_run _ rfl (fun _ => rfl) (fun e wx Lx h => by (go_simp; try rfl)) (by intro e; rfl) (by intro e; rfl) (by intro e x; rfl) ?_
        (simp only [Act.put, List.setIfInBounds_toArray, List.set_cons_succ, List.set_cons_zero])
        refine flow_run _ rfl (fun _ => rfl) (fun e wx Lx h => by (go_simp; try rfl)) (by intro e; rfl) (by intro e; rfl) (by intro e x; rfl) ?_
        (simp only [Act.put, List.setIfInBounds_toArray, List.set_cons_succ, List.set_cons_zero])
        refine flow_run _ rfl (fun _ => rfl) (fun e wx Lx h => by (have h : St M0 wx (ownR secC 37 4 (.slice (some ⟨b, 0, none⟩) n c) (xs) :: Lx) := h; have hf := h.flatO (C := secC) (e := 37) (size := 4) (v := .slice (some ⟨b, 0, none⟩) n c) (xs := xs) (by (repeat (first | with_reducible exact At.here | with_reducible apply At.there))); obtain ⟨x0, x1, x2, x3⟩ := cellsSec hf HX.out; obtain ⟨y0, y1, y2, y3⟩ := cellsSec hf HY.out; go_simp; try rfl)) (by intro e; rfl) (by intro e; rfl) (by intro e x; rfl) ?_
        (simp only [Act.put, List.setIfInBounds_toArray, List.set_cons_succ, List.set_cons_zero])
        refine flow_run _ rfl (fun _ => rfl) (fun e wx Lx h => by (go_simp; try rfl)) (by intro e; rfl) (by intro e; rfl) (by intro e x; rfl) ?_
        (simp only [Act.put, List.setIfInBounds_toArray, List.set_cons_succ, List.set_cons_zero])
        refine flow_run _ rfl (fun _ => rfl) (fun e wx Lx h => by (go_simp; try rfl)) (by intro e; rfl) (by intro e; rfl) (by intro e x; rfl) ?_
        (simp only [Act.put, List.setIfInBounds_toArray, List.set_cons_succ, List.set_cons_zero])
        refine flow_run _ rfl (fun _ => rfl) (fun e wx Lx h => by (go_simp; try rfl)) (by intro e; rfl) (by intro e; rfl) (by intro e x; rfl) ?_
        (simp only [Act.put, List.setIfInBounds_toArray, List.set_cons_succ, List.set_cons_zero])
        refine flow_run _ rfl (fun _ => rfl) (fun e wx Lx h => by (have h : St M0 wx (ownR secC 37 4 (.slice (some ⟨b, 0, none⟩) n c) (xs) :: Lx) := h; have hf := h.flatO (C := secC) (e := 37) (size := 4) (v := .slice (some ⟨b, 0, none⟩) n c) (xs := xs) (by (repeat (first | with_reducible exact At.here | with_reducible apply At.there))); obtain ⟨x0, x1, x2, x3⟩ := cellsSec hf HX.out; obtain ⟨y0, y1, y2, y3⟩ := cellsSec hf HY.out; go_simp; try rfl)) (by intro e; rfl) (by intro e; rfl) (by intro e x; rfl) ?_
        (simp only [Act.put, List.setIfInBounds_toArray, List.set_cons_succ, List.set_cons_zero])
        refine flow_call 113 (fun e => #[.agg #[.int .u64 y.t, .slice y.p.a y.p.n y.p.c, .int .i64 y.s, .slice y.k.a y.k.n y.k.c], .agg #[.int .u64 z.t, .slice z.p.a z.p.n z.p.c, .int .i64 z.s, .slice z.k.a z.k.n z.k.c]]) (fun e => .int .i64 (cmpI y.t z.t)) rfl (fun _ => rfl) (by intro e; rfl) (fun e wx => by (first | (go_simp; done) | (go_simp; exact hen _ _) | exact hen _ _)) (fun e wx Lx h => by (
          have h : St M0 wx (ownR secC 37 4 (.slice (some ⟨b, 0, none⟩) n c) (xs) :: Lx) := h
          refine (cmpSec_st y z _ h).mono ?_
          rintro u wy ⟨rfl, h1⟩
          have hk : St M0 wy (ownR secC 37 4 (.slice (some ⟨b, 0, none⟩) n c) (xs) :: Lx) := h1
          exact ⟨⟨none, 0, default⟩, rfl, hk⟩)) ?_
        (simp only [Act.put, List.setIfInBounds_toArray, List.set_cons_succ, List.set_cons_zero])
        refine flow_run (fun e => .bool true) rfl (fun _ => rfl) (fun e wx Lx h => by (go_simp; try rfl)) (by intro e; rfl) (by intro e; rfl) (by intro e x; rfl) ?_
        (simp only [Act.put, List.setIfInBounds_toArray, List.set_cons_succ, List.set_cons_zero])
        refine flow_run (fun e => .bool false) rfl (fun _ => rfl) (fun e wx Lx h => by (go_simp; try rfl)) (by intro e; rfl) (by intro e; rfl) (by intro e x; rfl) ?_
        (simp only [Act.put, List.setIfInBounds_toArray, List.set_cons_succ, List.set_cons_zero])
        refine flow_nil ?_
        intro e w1 h
        have h : St M0 w1 (ownR secC 37 4 (.slice (some ⟨b, 0, none⟩) n c) (xs) :: L) := h
        have H2 := hide h
        clear h h0
        go_wp2_with fail
        rw [HXS.out] at H2
        go_roundg (Y.take (hh - i)).length
        case measure => have := HG.out; have := HYL.out; have := HJ.out; omega
        case rel =>
          refine ⟨i, hh, X, Y.take (hh - i), z :: (Y.drop (hh - i + 1) ++ Z), rfl, rfl, rfl, ?_, HI.out, ?_, HX0.out, ?_, H2.out⟩
          · rw [HFF.out]
            conv => lhs; rw [HYS.out]
            simp
          · have := HYL.out; omega
          · have hs2 : SortedT (z :: (Y.drop (hh - i + 1) ++ Z)) := (sortedT_app.1 (show SortedT (Y.take (hh - i) ++ (z :: (Y.drop (hh - i + 1) ++ Z))) by have := HSY.out; simpa using this)).2.1
            exact hs2.head_ge (by have := HLT.out; omega)
      · have hd : decide (cmpI y.t z.t < 0) = false := by rw [cmpI_lt]; exact decide_eq_false hlt2
        have HLT := hide hlt2
        have wi1 : IntKind.i64.wrap ((hh : Int) + 1) = ((hh + 1 : Nat) : Int) := (IntWalk.i64_in _ (by omega)).trans (by omega)
        clear h hlt2 hxs hy hYs hsY hF2 hi hj hh0 hhij
        go_wp2_with fail
        have h0 := H1.out
        clear H1
        refine region_flow (M0 := M0) (L0 := L) [⟨none, none, fun e => ownR secC 37 4 (.slice (some ⟨b, 0, none⟩) n c) (xs)⟩] [[], [], [], [1, 2], [1, 2, 3], [], [], [5, 6], [5, 6, 7], [0, 1, 2, 3, 4, 5, 6, 7, 8], [0, 1, 2, 3, 4, 5, 6, 7, 8, 9], [0, 1, 2, 3, 4, 5, 6, 7, 8, 9, 10]] [0, 1, 2, 3, 4, 5, 6, 7, 8, 9, 10, 11] rfl (by kernel_rfl) (by kernel_rfl) (by kernel_rfl) (by rfl) (fun _ => rfl) (show St M0 _ (ownR secC 37 4 (.slice (some ⟨b, 0, none⟩) n c) (xs) :: L) from h0) ?_
        refine flow_run _ rfl (fun _ => rfl) (fun e wx Lx h => by (go_simp; try rfl)) (by intro e; rfl) (by intro e; rfl) (by intro e x; rfl) ?_
        (simp only [Act.put, List.setIfInBounds_toArray, List.set_cons_succ, List.set_cons_zero])
        refine flow_run _ rfl (fun _ => rfl) (fun e wx Lx h => by (go_simp; try rfl)) (by intro e; rfl) (by intro e; rfl) (by intro e x; rfl) ?_
        (simp only [Act.put, List.setIfInBounds_toArray, List.set_cons_succ, List.set_cons_zero])
        refine flow_run _ rfl (fun _ => rfl) (fun e wx Lx h => by (go_simp; try rfl)) (by intro e; rfl) (by intro e; rfl) (by intro e x; rfl) ?_
        (simp only [Act.put, List.setIfInBounds_toArray, List.set_cons_succ, List.set_cons_zero])
        refine flow_run _ rfl (fun _ => rfl) (fun e wx Lx h => by (go_simp; try rfl)) (by intro e; rfl) (by intro e; rfl) (by intro e x; rfl) ?_
        (simp only [Act.put, List.setIfInBounds_toArray, List.set_cons_succ, List.set_cons_zero])
        refine flow_run _ rfl (fun _ => rfl) (fun e wx Lx h => by (have h : St M0 wx (ownR secC 37 4 (.slice (some ⟨b, 0, none⟩) n c) (xs) :: Lx) := h; have hf := h.flatO (C := secC) (e := 37) (size := 4) (v := .slice (some ⟨b, 0, none⟩) n c) (xs := xs) (by (repeat (first | with_reducible exact At.here | with_reducible apply At.there))); obtain ⟨x0, x1, x2, x3⟩ := cellsSec hf HX.out; obtain ⟨y0, y1, y2, y3⟩ := cellsSec hf HY.out; go_simp; try rfl)) (by intro e; rfl) (by intro e; rfl) (by intro e x; rfl) ?_
        (simp only [Act.put, List.setIfInBounds_toArray, List.set_cons_succ, List.set_cons_zero])
        refine flow_run _ rfl (fun _ => rfl) (fun e wx Lx h => by (go_simp; try rfl)) (by intro e; rfl) (by intro e; rfl) (by intro e x; rfl) ?_
        (simp only [Act.put, List.setIfInBounds_toArray, List.set_cons_succ, List.set_cons_zero])
        refine flow_run _ rfl (fun _ => rfl) (fun e wx Lx h => by (go_simp; try rfl)) (by intro e; rfl) (by intro e; rfl) (by intro e x; rfl) ?_
        (simp only [Act.put, List.setIfInBounds_toArray, List.set_cons_succ, List.set_cons_zero])
        refine flow_run _ rfl (fun _ => rfl) (fun e wx Lx h => by (go_simp; try rfl)) (by intro e; rfl) (by intro e; rfl) (by intro e x; rfl) ?_
        (simp only [Act.put, List.setIfInBounds_toArray, List.set_cons_succ, List.set_cons_zero])
        refine flow_run _ rfl (fun _ => rfl) (fun e wx Lx h => by (have h : St M0 wx (ownR secC 37 4 (.slice (some ⟨b, 0, none⟩) n c) (xs) :: Lx) := h; have hf := h.flatO (C := secC) (e := 37) (size := 4) (v := .slice (some ⟨b, 0, none⟩) n c) (xs := xs) (by (repeat (first | with_reducible exact At.here | with_reducible apply At.there))); obtain ⟨x0, x1, x2, x3⟩ := cellsSec hf HX.out; obtain ⟨y0, y1, y2, y3⟩ := cellsSec hf HY.out; go_simp; try rfl)) (by intro e; rfl) (by intro e; rfl) (by intro e x; rfl) ?_
        (simp only [Act.put, List.setIfInBounds_toArray, List.set_cons_succ, List.set_cons_zero])
        refine flow_call 113 (fun e => #[.agg #[.int .u64 y.t, .slice y.p.a y.p.n y.p.c, .int .i64 y.s, .slice y.k.a y.k.n y.k.c], .agg #[.int .u64 z.t, .slice z.p.a z.p.n z.p.c, .int .i64 z.s, .slice z.k.a z.k.n z.k.c]]) (fun e => .int .i64 (cmpI y.t z.t)) rfl (fun _ => rfl) (by intro e; rfl) (fun e wx => by (first | (go_simp; done) | (go_simp; exact hen _ _) | exact hen _ _)) (fun e wx Lx h => by (
          have h : St M0 wx (ownR secC 37 4 (.slice (some ⟨b, 0, none⟩) n c) (xs) :: Lx) := h
          refine (cmpSec_st y z _ h).mono ?_
          rintro u wy ⟨rfl, h1⟩
          have hk : St M0 wy (ownR secC 37 4 (.slice (some ⟨b, 0, none⟩) n c) (xs) :: Lx) := h1
          exact ⟨⟨none, 0, default⟩, rfl, hk⟩)) ?_
        (simp only [Act.put, List.setIfInBounds_toArray, List.set_cons_succ, List.set_cons_zero])
        refine flow_run (fun e => .bool false) rfl (fun _ => rfl) (fun e wx Lx h => by (go_simp; try rfl)) (by intro e; rfl) (by intro e; rfl) (by intro e x; rfl) ?_
        (simp only [Act.put, List.setIfInBounds_toArray, List.set_cons_succ, List.set_cons_zero])
        refine flow_run (fun e => .bool true) rfl (fun _ => rfl) (fun e wx Lx h => by (go_simp; try rfl)) (by intro e; rfl) (by intro e; rfl) (by intro e x; rfl) ?_
        (simp only [Act.put, List.setIfInBounds_toArray, List.set_cons_succ, List.set_cons_zero])
        refine flow_nil ?_
        intro e w1 h
        have h : St M0 w1 (ownR secC 37 4 (.slice (some ⟨b, 0, none⟩) n c) (xs) :: L) := h
        have H2 := hide h
        clear h h0
        go_wp2_with fail
        rw [HXS.out] at H2
        go_roundg (Y.drop (hh - i + 1)).length
        case measure => have := HG.out; have := HYL.out; have := HJ.out; omega
        case rel =>
          refine ⟨hh + 1, j, X ++ (Y.take (hh - i) ++ [z]), Y.drop (hh - i + 1), Z, rfl, by go_num, rfl, ?_, ?_, ?_, ?_, HZ0.out, H2.out⟩
          · rw [HFF.out]
            conv => lhs; rw [HYS.out]
            simp
          · have := HYL.out; have := HI.out; simp only [List.length_append, List.length_cons, List.length_nil]; omega
          · have := HYL.out; omega
          · intro g hg
            rcases List.mem_append.1 hg with hg | hg
            · exact HX0.out g hg
            · rcases List.mem_append.1 hg with hg | hg
              · have := (SortedT.last (sortedT_app.1 HSY.out).1).1 g hg
                have := HLT.out
                omega
              · rw [List.mem_singleton] at hg
                rw [hg]
                have := HLT.out
                omega
    · obtain rfl : i = j := by omega
      have d3 : decide ((i : Int) < (i : Int)) = false := decide_eq_false (by omega)
      have hY0 : Y = [] := List.eq_nil_of_length_eq_zero (by omega)
      subst hY0
      rw [List.nil_append] at hF2
      subst hF2
      have HZL := hide (show m = i + Z.length by have := HM.out; rw [List.length_append] at this; omega)
      have H1 := hide h
      have HI2 := hide hi
      clear h hi hj HFF HG
      go_wp2_with fail
      go_loopg [17] Z.length (fun gh kv wr => ∃ (k : Nat) (F2a F2b : List SecV), gh = F2a.length ∧ k = i + F2a.length ∧ kv = .int .i64 (k : Nat) ∧ Z = F2a ++ F2b ∧ St M0 wr (ownR secC 37 4 (.slice (some ⟨b, 0, none⟩) n c) (P ++ (X ++ (F2a ++ ([y] ++ (F2b ++ Q))))) :: L))
      case atStart => exact ⟨m, Z, [], rfl, HZL.out, rfl, by simp, by have := H1.out; simpa using this⟩
      case round =>
        clear H1
        obtain ⟨k, F2a, F2b, hgk, hk, rfl, hZ, h⟩ := hrel
        have HK := hide hgk
        clear hgk
        rcases list_last F2a with rfl | ⟨F2a, z, rfl⟩
        · have hkk : k = i := by rw [hk]; simp
          have d4 : decide ((k : Int) > (i : Int)) = false := decide_eq_false (by omega)
          have d4' : decide ((i : Int) < (k : Int)) = false := d4
          have HX1 := hide (show Z = F2b by rw [hZ]; simp)
          have H2 := hide h
          clear h hZ
          go_wp2_with fail
          ((try simp only [Exit.inBlock, Exit.then]); refine bodyPost_ret (results_none rfl _ _ _) rfl ?_)
          refine ⟨rfl, X ++ y :: Z, ?_, ?_, ?_⟩
          · rw [List.append_assoc]
            refine List.Perm.append_left _ ?_
            exact (List.perm_append_singleton y Z).symm
          · exact SortedT.put HSF.out HX0.out HZ0.out
          · have := H2.out
            rw [← HX1.out] at this
            simpa using this
        · obtain ⟨q, hq⟩ : ∃ q, q = i + F2a.length := ⟨_, rfl⟩
          have hkq : k = q + 1 := by rw [hk, hq]; simp; omega
          have d4 : decide ((k : Int) > (i : Int)) = true := decide_eq_true (by omega)
          have d4' : decide ((i : Int) < (k : Int)) = true := d4
          have hik : i < k := by omega
          have wk : IntKind.i64.wrap ((k : Int) - 1) = (q : Int) := (IntWalk.i64_in _ (by have := HZL.out; have := congrArg List.length hZ; simp at this; omega)).trans (by omega)
          obtain ⟨xs, hxs⟩ : ∃ xs, xs = (P ++ (X ++ F2a)) ++ z :: y :: (F2b ++ Q) := ⟨_, rfl⟩
          have lq : (P ++ (X ++ F2a)).length = q := by rw [List.length_append, List.length_append, HA.out, hq, HI2.out]; omega
          rw [show P ++ (X ++ ((F2a ++ [z]) ++ ([y] ++ (F2b ++ Q)))) = xs by rw [hxs]; simp] at h
          have HX := hide (show xs[k]? = some y by rw [hxs, hkq, ← lq]; exact at_mid' _ _ _ _)
          have HY := hide (show xs[q]? = some z by rw [hxs, ← lq]; exact at_mid _ _ _)
          have HSW := hide (show (xs.set k z).set q y = P ++ (X ++ (F2a ++ ([y] ++ ((z :: F2b) ++ Q)))) by rw [hxs, hkq, ← lq, swap_adj]; simp)
          have HLI := hide ((List.getElem?_eq_some_iff.1 HX.out).1)
          have HLJ := hide ((List.getElem?_eq_some_iff.1 HY.out).1)
          have hln : xs.length = n := ((h.flatO At.here).sl.1).symm
          have hl1 := HLI.out
          have hl2 := HLJ.out
          have k0 : (0 : Int) ≤ (k : Int) := by omega
          have k1 : (k : Int) < (n : Int) := by omega
          have q0 : (0 : Int) ≤ (q : Int) := by omega
          have q1 : (q : Int) < (n : Int) := by omega
          have HFF := hide hZ
          have HQ := hide hq
          have H1 := hide h
          clear h hZ hxs lq hkq hk hl1 hl2 hq
          go_wp2_with fail
          have h0 := H1.out
          clear H1
          refine region_flow (M0 := M0) (L0 := L) [⟨none, some 15, fun e => ownR secC 37 4 (.slice (some ⟨b, 0, none⟩) n c) (xs)⟩, ⟨some 15, some 17, fun e => ownR secC 37 4 (.slice (some ⟨b, 0, none⟩) n c) ((xs).set k z)⟩, ⟨some 17, none, fun e => ownR secC 37 4 (.slice (some ⟨b, 0, none⟩) n c) (((xs).set k z).set q y)⟩] [[], [], [], [], [3], [], [], [6], [5, 6, 7], [5, 6, 7, 8], [], [], [10, 11], [10, 11, 12], [0, 1, 5, 6, 7, 8, 9, 10, 11, 12, 13], [0, 1, 5, 6, 7, 8, 9, 10, 11, 12, 13, 14], [0, 1, 2, 3, 4, 5, 6, 7, 8, 9, 10, 11, 12, 13, 14, 15], [0, 1, 2, 3, 4, 5, 6, 7, 8, 9, 10, 11, 12, 13, 14, 15, 16]] [0, 1, 2, 3, 4, 5, 6, 7, 8, 9, 10, 11, 12, 13, 14, 15, 16, 17] rfl (by kernel_rfl) (by kernel_rfl) (by kernel_rfl) (by rfl) (fun _ => rfl) (show St M0 _ (ownR secC 37 4 (.slice (some ⟨b, 0, none⟩) n c) (xs) :: L) from h0) ?_
          refine flow_run _ rfl (fun _ => rfl) (fun e wx Lx h => by (go_simp; try rfl)) (by intro e; rfl) (by intro e; rfl) (by intro e x; rfl) ?_
          (simp only [Act.put, List.setIfInBounds_toArray, List.set_cons_succ, List.set_cons_zero])
          refine flow_run _ rfl (fun _ => rfl) (fun e wx Lx h => by (go_simp; try rfl)) (by intro e; rfl) (by intro e; rfl) (by intro e x; rfl) ?_
          (simp only [Act.put, List.setIfInBounds_toArray, List.set_cons_succ, List.set_cons_zero])
          refine flow_run _ rfl (fun _ => rfl) (fun e wx Lx h => by (go_simp; try rfl)) (by intro e; rfl) (by intro e; rfl) (by intro e x; rfl) ?_
          (simp only [Act.put, List.setIfInBounds_toArray, List.set_cons_succ, List.set_cons_zero])
          refine flow_run _ rfl (fun _ => rfl) (fun e wx Lx h => by (go_simp; try rfl)) (by intro e; rfl) (by intro e; rfl) (by intro e x; rfl) ?_
          (simp only [Act.put, List.setIfInBounds_toArray, List.set_cons_succ, List.set_cons_zero])
          refine flow_run _ rfl (fun _ => rfl) (fun e wx Lx h => by (go_simp; try rfl)) (by intro e; rfl) (by intro e; rfl) (by intro e x; rfl) ?_
          (simp only [Act.put, List.setIfInBounds_toArray, List.set_cons_succ, List.set_cons_zero])
          refine flow_run _ rfl (fun _ => rfl) (fun e wx Lx h => by (go_simp; try rfl)) (by intro e; rfl) (by intro e; rfl) (by intro e x; rfl) ?_
          (simp only [Act.put, List.setIfInBounds_toArray, List.set_cons_succ, List.set_cons_zero])
          refine flow_run _ rfl (fun _ => rfl) (fun e wx Lx h => by (go_simp; try rfl)) (by intro e; rfl) (by intro e; rfl) (by intro e x; rfl) ?_
          (simp only [Act.put, List.setIfInBounds_toArray, List.set_cons_succ, List.set_cons_zero])
          refine flow_run _ rfl (fun _ => rfl) (fun e wx Lx h => by (go_simp; try rfl)) (by intro e; rfl) (by intro e; rfl) (by intro e x; rfl) ?_
          (simp only [Act.put, List.setIfInBounds_toArray, List.set_cons_succ, List.set_cons_zero])
          refine flow_run _ rfl (fun _ => rfl) (fun e wx Lx h => by (go_simp; try rfl)) (by intro e; rfl) (by intro e; rfl) (by intro e x; rfl) ?_
          (simp only [Act.put, List.setIfInBounds_toArray, List.set_cons_succ, List.set_cons_zero])
          refine flow_run _ rfl (fun _ => rfl) (fun e wx Lx h => by (have h : St M0 wx (ownR secC 37 4 (.slice (some ⟨b, 0, none⟩) n c) (xs) :: Lx) := h; have hf := h.flatO (C := secC) (e := 37) (size := 4) (v := .slice (some ⟨b, 0, none⟩) n c) (xs := xs) (by (repeat (first | with_reducible exact At.here | with_reducible apply At.there))); obtain ⟨x0, x1, x2, x3⟩ := cellsSec hf HX.out; obtain ⟨y0, y1, y2, y3⟩ := cellsSec hf HY.out; go_simp; try rfl)) (by intro e; rfl) (by intro e; rfl) (by intro e x; rfl) ?_
          (simp only [Act.put, List.setIfInBounds_toArray, List.set_cons_succ, List.set_cons_zero])
          refine flow_run _ rfl (fun _ => rfl) (fun e wx Lx h => by (go_simp; try rfl)) (by intro e; rfl) (by intro e; rfl) (by intro e x; rfl) ?_
          (simp only [Act.put, List.setIfInBounds_toArray, List.set_cons_succ, List.set_cons_zero])
          refine flow_run _ rfl (fun _ => rfl) (fun e wx Lx h => by (go_simp; try rfl)) (by intro e; rfl) (by intro e; rfl) (by intro e x; rfl) ?_
          (simp only [Act.put, List.setIfInBounds_toArray, List.set_cons_succ, List.set_cons_zero])
          refine flow_run _ rfl (fun _ => rfl) (fun e wx Lx h => by (go_simp; try rfl)) (by intro e; rfl) (by intro e; rfl) (by intro e x; rfl) ?_
          (simp only [Act.put, List.setIfInBounds_toArray, List.set_cons_succ, List.set_cons_zero])
          refine flow_run _ rfl (fun _ => rfl) (fun e wx Lx h => by (have h : St M0 wx (ownR secC 37 4 (.slice (some ⟨b, 0, none⟩) n c) (xs) :: Lx) := h; have hf := h.flatO (C := secC) (e := 37) (size := 4) (v := .slice (some ⟨b, 0, none⟩) n c) (xs := xs) (by (repeat (first | with_reducible exact At.here | with_reducible apply At.there))); obtain ⟨x0, x1, x2, x3⟩ := cellsSec hf HX.out; obtain ⟨y0, y1, y2, y3⟩ := cellsSec hf HY.out; go_simp; try rfl)) (by intro e; rfl) (by intro e; rfl) (by intro e x; rfl) ?_
          (simp only [Act.put, List.setIfInBounds_toArray, List.set_cons_succ, List.set_cons_zero])
          refine flow_run _ rfl (fun _ => rfl) (fun e wx Lx h => by (go_simp; try rfl)) (by intro e; rfl) (by intro e; rfl) (by intro e x; rfl) ?_
          (simp only [Act.put, List.setIfInBounds_toArray, List.set_cons_succ, List.set_cons_zero])
          refine flow_store _ _ _ (fun e => .pointer (some ⟨b, k * 4, none⟩)) (fun e => .agg #[.int .u64 z.t, .slice z.p.a z.p.n z.p.c, .int .i64 z.s, .slice z.k.a z.k.n z.k.c]) rfl (fun _ => rfl) rfl (fun _ => rfl) (fun _ => rfl) (fun e wx Lx h => by (
            have h : St M0 wx (ownR secC 37 4 (.slice (some ⟨b, 0, none⟩) n c) (xs) :: Lx) := h
            have h1 := (h.front (X := ownR secC 37 4 (.slice (some ⟨b, 0, none⟩) n c) (xs)) (by (repeat (first | with_reducible exact At.here | with_reducible apply At.there)))).ownPut secC_len (k := k) (by exact HLI.out) z
            have hk : St M0 _ (ownR secC 37 4 (.slice (some ⟨b, 0, none⟩) n c) ((xs).set k z) :: Lx) := h1.1.sub (by (repeat (first | with_reducible exact Sub.refl _ | (with_reducible apply Sub.take; focus (repeat (first | with_reducible exact At.here | with_reducible apply At.there))) | with_reducible apply Sub.drop)))
            exact ⟨_, (sec_store _ _ _ _ h1.2), hk⟩)) ?_
          simp only [Act.put]
          refine flow_run _ rfl (fun _ => rfl) (fun e wx Lx h => by (go_simp; try rfl)) (by intro e; rfl) (by intro e; rfl) (by intro e x; rfl) ?_
          (simp only [Act.put, List.setIfInBounds_toArray, List.set_cons_succ, List.set_cons_zero])
          refine flow_store _ _ _ (fun e => .pointer (some ⟨b, q * 4, none⟩)) (fun e => .agg #[.int .u64 y.t, .slice y.p.a y.p.n y.p.c, .int .i64 y.s, .slice y.k.a y.k.n y.k.c]) rfl (fun _ => rfl) rfl (fun _ => rfl) (fun _ => rfl) (fun e wx Lx h => by (
            have h : St M0 wx (ownR secC 37 4 (.slice (some ⟨b, 0, none⟩) n c) ((xs).set k z) :: Lx) := h
            have h1 := (h.front (X := ownR secC 37 4 (.slice (some ⟨b, 0, none⟩) n c) ((xs).set k z)) (by (repeat (first | with_reducible exact At.here | with_reducible apply At.there)))).ownPut secC_len (k := q) (by rw [List.length_set]; exact HLJ.out) y
            have hk : St M0 _ (ownR secC 37 4 (.slice (some ⟨b, 0, none⟩) n c) (((xs).set k z).set q y) :: Lx) := h1.1.sub (by (repeat (first | with_reducible exact Sub.refl _ | (with_reducible apply Sub.take; focus (repeat (first | with_reducible exact At.here | with_reducible apply At.there))) | with_reducible apply Sub.drop)))
            exact ⟨_, (sec_store _ _ _ _ h1.2), hk⟩)) ?_
          simp only [Act.put]
          refine flow_nil ?_
          intro e w1 h
          have h : St M0 w1 (ownR secC 37 4 (.slice (some ⟨b, 0, none⟩) n c) (((xs).set k z).set q y) :: L) := h
          rw [HSW.out] at h
          have H3 := hide h
          clear h h0
          go_wp2_with fail
          go_roundg F2a.length
          case measure => have := HK.out; simp at this; omega
          case rel => exact ⟨q, F2a, z :: F2b, rfl, HQ.out, by go_num, by rw [HFF.out]; simp, H3.out⟩
end Go.Proofs.Ytbgknfdaaffeaaa
