/- Sorting sections by their tokens: symMergeCmpFunc, part 3. Printed by gen_src.py. -/
import Derived.Test.YtbgknfdaaffeaaaSrC0
import Derived.Deep.DeepCutAuto
namespace Go.Proofs.Ytbgknfdaaffeaaa
open Go.RowKit Go.Shelf

set_option maxHeartbeats 16000000 in
set_option maxRecDepth 100000 in
theorem sym3_st (M0 : Imm) (L : List Res) (b n c N : Nat) (hmx : n ≤ 1000000) (hIH : SymAll M0 L b n c N) (a m e : Nat) (P F G Q : List SecV) (w : World) (heN : e ≤ a + (N + 1)) (ha : P.length = a) (hm : a + F.length = m) (he : m + G.length = e) (hF : 0 < F.length) (hG : 0 < G.length) (sF : SortedT F) (sG : SortedT G) (h1 : ¬ F.length = 1) (h2 : ¬ G.length = 1) (h : St M0 w (ownR secC 37 4 (.slice (some ⟨b, 0, none⟩) n c) (P ++ (F ++ (G ++ Q))) :: L)) :
    Calls Try.prog 165 #[.slice (some ⟨b, 0, none⟩) n c, .int .i64 (a : Nat), .int .i64 (m : Nat), .int .i64 (e : Nat), .func (.func 113) #[] #[]] w (SymQ M0 L b n c P F G Q) := by
  have IH := hide (hIH hmx)
  obtain ⟨hn, hnc, hcm, _⟩ := (h.flatO At.here).sl
  have hn2 : n = a + F.length + G.length + Q.length := by rw [hn, ← ha]; simp only [List.length_append]; omega
  have hen := fun args W => enters_of Try.func113 (by kernel_rfl) rfl (P := Try.prog) args W
  have HN := hide hn2
  have H := hide h
  have HA := hide ha
  have HM := hide hm
  have HE := hide he
  have HSF := hide sF
  have HSG := hide sG
  have HEN := hide heN
  have HQ0 := hide (show ∀ u w', SymQ M0 L b n c P F G Q u w' ↔ SymQ M0 L b n c P F G Q u w' from fun _ _ => Iff.rfl)
  have wma : IntKind.i64.wrap ((m : Int) - (a : Int)) = ((m - a : Nat) : Int) := (IntWalk.i64_in _ (by omega)).trans (by omega)
  have wem : IntKind.i64.wrap ((e : Int) - (m : Int)) = ((e - m : Nat) : Int) := (IntWalk.i64_in _ (by omega)).trans (by omega)
  obtain ⟨ma, hma⟩ : ∃ ma, ma = m - a := ⟨_, rfl⟩
  obtain ⟨em, hem⟩ : ∃ em, em = e - m := ⟨_, rfl⟩
  rw [← hma] at wma
  rw [← hem] at wem
  have hmaF : ma = F.length := by omega
  have hemG : em = G.length := by omega
  clear h hn hn2 sF sG heN ha hma hem
  go_enter Try.func165, Try.ntmps165
  have d1 : ((ma : Int) == 1) = false := isF (by omega)
  have d2 : ((em : Int) == 1) = false := isF (by omega)
  obtain ⟨md, hmd0⟩ : ∃ md, md = (a + e) / 2 := ⟨_, rfl⟩
  have hen1 : e ≤ n := by have := HN.out; have := HM.out; have := HE.out; omega
  have hmd : 2 * md ≤ a + e ∧ a + e ≤ 2 * md + 1 := by omega
  have wh1 : IntKind.i64.wrap ((a : Int) + (e : Int)) = ((a + e : Nat) : Int) := (IntWalk.i64_in _ (by omega)).trans (by omega)
  obtain ⟨ae, hae⟩ : ∃ ae, ae = a + e := ⟨_, rfl⟩
  rw [← hae] at wh1
  have haeb : ae ≤ 4000000 := by omega
  have hdiv := half_i (s := ae) (h := md) (by rw [hae]; exact hmd0)
  obtain ⟨nn, hnn⟩ : ∃ nn, nn = md + m := ⟨_, rfl⟩
  have wnn : IntKind.i64.wrap ((md : Int) + (m : Int)) = (nn : Int) := (IntWalk.i64_in _ (by omega)).trans (by omega)
  obtain ⟨pp, hpp⟩ : ∃ pp, pp = nn - 1 := ⟨_, rfl⟩
  have wpp : IntKind.i64.wrap ((nn : Int) - 1) = (pp : Int) := (IntWalk.i64_in _ (by omega)).trans (by omega)
  obtain ⟨ne, hne⟩ : ∃ ne, ne = nn - e := ⟨_, rfl⟩
  have HNB := hide (show e ≤ n ∧ md ≤ e ∧ m ≤ e by omega)
  have HPP := hide (show pp + 1 = md + m by omega)
  have HMD := hide hmd
  have HNN := hide hnn
  have HF0 := hide hF
  have HG0 := hide hG
  obtain ⟨s0, r0, hsr⟩ : ∃ s0 r0, (md < m ∧ s0 + e = md + m ∧ r0 = md) ∨ (m ≤ md ∧ s0 = a ∧ r0 = m) := by
    by_cases hh : md < m
    · exact ⟨md + m - e, md, .inl ⟨hh, by omega, rfl⟩⟩
    · exact ⟨a, m, .inr ⟨by omega, rfl, rfl⟩⟩
  have HSR := hide hsr
  clear h1 h2 hF hG hmd0 hae hnn hpp hne hmaF hemG hm he
  clear ne
  go_upto_if 140 with fail
  go_cut [20, 21] (fun sv rv wx => sv = .int .i64 (s0 : Nat) ∧ rv = .int .i64 (r0 : Nat) ∧ wx = w)
  case first =>
    as_aux_lemma =>
      rcases hsr with ⟨k1, k2, k3⟩ | ⟨k1, k2, k3⟩
      · have d3 : decide ((m : Int) > (md : Int)) = true := decide_eq_true (by omega)
        have d3' : decide ((md : Int) < (m : Int)) = true := d3
        have wne : IntKind.i64.wrap ((nn : Int) - (e : Int)) = (s0 : Int) := (IntWalk.i64_in _ (by have := HNN.out; have := HNB.out; omega)).trans (by have := HNN.out; have := HNB.out; omega)
        subst k3
        go_wp2_with fail
        go_meet
        exact ⟨rfl, rfl, rfl⟩
      · have d3 : decide ((m : Int) > (md : Int)) = false := decide_eq_false (by omega)
        have d3' : decide ((md : Int) < (m : Int)) = false := d3
        subst k2
        subst k3
        go_wp2_with fail
        go_meet
        exact ⟨rfl, rfl, rfl⟩
  case rest =>
    as_aux_lemma =>
      obtain ⟨rfl, rfl, rfl⟩ := hcut
      obtain ⟨xs, hxs⟩ : ∃ xs, xs = P ++ (F ++ (G ++ Q)) := ⟨_, rfl⟩
      have H0 := H.out
      rw [← hxs] at H0
      have H2 := hide H0
      have HXS := hide hxs
      clear H H0 hxs hsr
      go_wp2_with fail
      go_loopg [20, 21] (r0 - s0) (fun gh sv rv wr => ∃ (s r : Nat), gh = r - s ∧ sv = .int .i64 (s : Nat) ∧ rv = .int .i64 (r : Nat) ∧ s0 ≤ s ∧ s ≤ r ∧ r ≤ r0 ∧ (s = s0 ∨ ∃ k q x y, s = k + 1 ∧ q + k = pp ∧ xs[k]? = some x ∧ xs[q]? = some y ∧ x.t ≤ y.t) ∧ (r = r0 ∨ ∃ q x y, q + r = pp ∧ xs[q]? = some x ∧ xs[r]? = some y ∧ x.t ≤ y.t) ∧ St M0 wr (ownR secC 37 4 (.slice (some ⟨b, 0, none⟩) n c) (xs) :: L))
      case atStart => exact ⟨s0, r0, rfl, rfl, rfl, Nat.le_refl _, by rcases HSR.out with ⟨k1, k2, k3⟩ | ⟨k1, k2, k3⟩ <;> (have := HMD.out; have := HM.out; have := HE.out; have := HF0.out; have := HG0.out; omega), Nat.le_refl _, .inl rfl, .inl rfl, H2.out⟩
      case round =>
        clear H2
        obtain ⟨s, r, hg, rfl, rfl, hs0, hsr, hr0, i1, i2, h⟩ := hrel
        have HG := hide hg
        have HI1 := hide i1
        have HI2 := hide i2
        have HB := hide (show s0 ≤ s ∧ s ≤ r ∧ r ≤ r0 ∧ r ≤ m ∧ m < e from ⟨hs0, hsr, hr0, by rcases HSR.out with ⟨k1, k2, k3⟩ | ⟨k1, k2, k3⟩ <;> omega, by have := HE.out; have := HG0.out; omega⟩)
        clear hg i1 i2
        by_cases hlt : s < r
        · have d3 : decide ((s : Int) < (r : Int)) = true := decide_eq_true (by omega)
          obtain ⟨hh, hh0⟩ : ∃ hh, hh = (s + r) / 2 := ⟨_, rfl⟩
          have ws1 : IntKind.i64.wrap ((s : Int) + (r : Int)) = ((s + r : Nat) : Int) := (IntWalk.i64_in _ (by have := HB.out; omega)).trans (by omega)
          obtain ⟨sr, hsr2⟩ : ∃ sr, sr = s + r := ⟨_, rfl⟩
          rw [← hsr2] at ws1
          have hsrb : sr ≤ 4000000 := by have := HB.out; omega
          have hdiv2 := half_i (s := sr) (h := hh) (by rw [hsr2]; exact hh0)
          have hbb : a ≤ hh ∧ hh < m ∧ m + hh ≤ pp ∧ pp < e + hh := by
            have := HMD.out
            have := HPP.out
            have := HM.out
            have := HE.out
            have := HF0.out
            have := HG0.out
            rcases HSR.out with ⟨k1, k2, k3⟩ | ⟨k1, k2, k3⟩ <;> omega
          obtain ⟨q, hq⟩ : ∃ q, q = pp - hh := ⟨_, rfl⟩
          have wq : IntKind.i64.wrap ((pp : Int) - (hh : Int)) = (q : Int) := (IntWalk.i64_in _ (by omega)).trans (by omega)
          have hln : xs.length = n := ((h.flatO At.here).sl.1).symm
          obtain ⟨u, hu⟩ : ∃ u, xs[q]? = some u := ⟨xs[q]'(by omega), List.getElem?_eq_getElem (by omega)⟩
          obtain ⟨v, hv⟩ : ∃ v, xs[hh]? = some v := ⟨xs[hh]'(by omega), List.getElem?_eq_getElem (by omega)⟩
          have HX := hide hu
          have HY := hide hv
          have i0 : (0 : Int) ≤ (hh : Int) := by omega
          have i1 : (hh : Int) < (n : Int) := by omega
          have q0 : (0 : Int) ≤ (q : Int) := by omega
          have q1 : (q : Int) < (n : Int) := by omega
          have HH := hide (show s ≤ hh ∧ hh < r ∧ q + hh = pp by omega)
          have H1 := hide h
          by_cases hlt2 : u.t < v.t
          · as_aux_lemma =>
              have hd : decide (cmpI u.t v.t < 0) = true := by rw [cmpI_lt]; exact decide_eq_true hlt2
              have HLT := hide hlt2
              clear h hlt2 hu hv hq hbb hh0 hsr2 hs0 hsr hr0 hln
              go_wp2_with fail
              have h0 := H1.out
              clear H1
              refine region_flow (M0 := M0) (L0 := L) [⟨none, none, fun e => ownR secC 37 4 (.slice (some ⟨b, 0, none⟩) n c) (xs)⟩] [[], [], [], [], [2, 3], [1, 2, 3, 4], [1, 2, 3, 4, 5], [], [], [7, 8], [7, 8, 9], [0, 1, 2, 3, 4, 5, 6, 7, 8, 9, 10], [0, 1, 2, 3, 4, 5, 6, 7, 8, 9, 10, 11], [0, 1, 2, 3, 4, 5, 6, 7, 8, 9, 10, 11, 12]] [0, 1, 2, 3, 4, 5, 6, 7, 8, 9, 10, 11, 12, 13] rfl (by kernel_rfl) (by kernel_rfl) (by kernel_rfl) (by rfl) (fun _ => rfl) (show St M0 _ (ownR secC 37 4 (.slice (some ⟨b, 0, none⟩) n c) (xs) :: L) from h0) ?_
              refine flow_run _ rfl (fun _ => rfl) (fun e wx Lx h => by (go_simp; try rfl)) (by intro e; rfl) (by intro e; rfl) (by intro e x; rfl) ?_
              (simp only [Act.put, List.setIfInBounds_toArray, List.set_cons_succ, List.set_cons_zero])
              refine flow_run _ rfl (fun _ => rfl) (fun e wx Lx h => by (go_simp; try rfl)) (by intro e; rfl) (by intro e; rfl) (by intro e x; rfl) ?_
              (simp only [Act.put, List.setIfInBounds_toArray, List.set_cons_succ, List.set_cons_zero])
              refine flow_run _ rfl (fun _ => rfl) (fun e wx Lx h => by (go_simp; try rfl)) (by intro e; rfl) (by intro e; rfl) (by intro e x; rfl) ?_
              (simp only [Act.put, List.setIfInBounds_toArray, List.set_cons_succ, List.set_cons_zero])
              refine flow_run _ rfl (fun _ => rfl) (fun e wx Lx h => by (go_simp; try rfl)) (by intro e; rfl) (by intro e; rfl) (by intro e x; rfl) ?_
              (simp only [Act.put, List.setIfInBounds_toArray, List.set_cons_succ, List.set_cons_zero])
              refine flow_run _ rfl (fun _ => rfl) (fun e wx Lx h => by (go_simp; try rfl)) (by intro e; rfl) (by intro e; rfl) (by intro e x; rfl) ?_
              (simp only [Act.put, List.setIfInBounds_toArray, List.set_cons_succ, List.set_cons_zero])
              refine flow_run _ rfl (fun _ => rfl) (fun e wx Lx h => by (go_simp; try rfl)) (by intro e; rfl) (by intro e; rfl) (by intro e x; rfl) ?_
              (simp only [Act.put, List.setIfInBounds_toArray, List.set_cons_succ, List.set_cons_zero])
              refine flow_run _ rfl (fun _ => rfl) (fun e wx Lx h => by (have h : St M0 wx (ownR secC 37 4 (.slice (some ⟨b, 0, none⟩) n c) (xs) :: Lx) := h; have hf := h.flatO (C := secC) (e := 37) (size := 4) (v := .slice (some ⟨b, 0, none⟩) n c) (xs := xs) (by (repeat (first | with_reducible exact At.here | with_reducible apply At.there))); obtain ⟨x0, x1, x2, x3⟩ := cellsSec hf HX.out; obtain ⟨y0, y1, y2, y3⟩ := cellsSec hf HY.out; go_simp; try rfl)) (by intro e; rfl) (by intro e; rfl) (by intro e x; rfl) ?_
              (simp only [Act.put, List.setIfInBounds_toArray, List.set_cons_succ, List.set_cons_zero])
              refine flow_run _ rfl (fun _ => rfl) (fun e wx Lx h => by (go_simp; try rfl)) (by intro e; rfl) (by intro e; rfl) (by intro e x; rfl) ?_
              (simp only [Act.put, List.setIfInBounds_toArray, List.set_cons_succ, List.set_cons_zero])
              refine flow_run _ rfl (fun _ => rfl) (fun e wx Lx h => by (go_simp; try rfl)) (by intro e; rfl) (by intro e; rfl) (by intro e x; rfl) ?_
              (simp only [Act.put, List.setIfInBounds_toArray, List.set_cons_succ, List.set_cons_zero])
              refine flow_run _ rfl (fun _ => rfl) (fun e wx Lx h => by (go_simp; try rfl)) (by intro e; rfl) (by intro e; rfl) (by intro e x; rfl) ?_
              (simp only [Act.put, List.setIfInBounds_toArray, List.set_cons_succ, List.set_cons_zero])
              refine flow_run _ rfl (fun _ => rfl) (fun e wx Lx h => by (have h : St M0 wx (ownR secC 37 4 (.slice (some ⟨b, 0, none⟩) n c) (xs) :: Lx) := h; have hf := h.flatO (C := secC) (e := 37) (size := 4) (v := .slice (some ⟨b, 0, none⟩) n c) (xs := xs) (by (repeat (first | with_reducible exact At.here | with_reducible apply At.there))); obtain ⟨x0, x1, x2, x3⟩ := cellsSec hf HX.out; obtain ⟨y0, y1, y2, y3⟩ := cellsSec hf HY.out; go_simp; try rfl)) (by intro e; rfl) (by intro e; rfl) (by intro e x; rfl) ?_
              (simp only [Act.put, List.setIfInBounds_toArray, List.set_cons_succ, List.set_cons_zero])
              refine flow_call 113 (fun e => #[.agg #[.int .u64 u.t, .slice u.p.a u.p.n u.p.c, .int .i64 u.s, .slice u.k.a u.k.n u.k.c], .agg #[.int .u64 v.t, .slice v.p.a v.p.n v.p.c, .int .i64 v.s, .slice v.k.a v.k.n v.k.c]]) (fun e => .int .i64 (cmpI u.t v.t)) rfl (fun _ => rfl) (by intro e; rfl) (fun e wx => by (first | (go_simp; done) | (go_simp; exact hen _ _) | exact hen _ _)) (fun e wx Lx h => by (
                have h : St M0 wx (ownR secC 37 4 (.slice (some ⟨b, 0, none⟩) n c) (xs) :: Lx) := h
                refine (cmpSec_st u v _ h).mono ?_
                rintro u wy ⟨rfl, h1⟩
                have hk : St M0 wy (ownR secC 37 4 (.slice (some ⟨b, 0, none⟩) n c) (xs) :: Lx) := h1
                exact ⟨⟨none, 0, default⟩, rfl, hk⟩)) ?_
              (simp only [Act.put, List.setIfInBounds_toArray, List.set_cons_succ, List.set_cons_zero])
              refine flow_run (fun e => .bool true) rfl (fun _ => rfl) (fun e wx Lx h => by (go_simp; try rfl)) (by intro e; rfl) (by intro e; rfl) (by intro e x; rfl) ?_
              (simp only [Act.put, List.setIfInBounds_toArray, List.set_cons_succ, List.set_cons_zero])
              refine flow_run (fun e => .bool false) rfl (fun _ => rfl) (fun e wx Lx h => by (go_simp; try rfl)) (by intro e; rfl) (by intro e; rfl) (by intro e x; rfl) ?_
              (simp only [Act.put, List.setIfInBounds_toArray, List.set_cons_succ, List.set_cons_zero])
              refine flow_nil ?_
              intro e w1 h
              have h : St M0 w1 (ownR secC 37 4 (.slice (some ⟨b, 0, none⟩) n c) (xs) :: L) := h
              have H2 := hide h
              clear h h0
              go_wp2_with fail
              go_roundg (hh - s)
              case measure => have := HG.out; have := HH.out; omega
              case rel => exact ⟨s, hh, rfl, rfl, rfl, HB.out.1, HH.out.1, by have := HH.out; have := HB.out; omega, HI1.out, .inr ⟨q, u, v, HH.out.2.2, HX.out, HY.out, Int.le_of_lt HLT.out⟩, H2.out⟩
          · as_aux_lemma =>
              have hd : decide (cmpI u.t v.t < 0) = false := by rw [cmpI_lt]; exact decide_eq_false hlt2
              have HLT := hide hlt2
              have wi1 : IntKind.i64.wrap ((hh : Int) + 1) = ((hh + 1 : Nat) : Int) := (IntWalk.i64_in _ (by omega)).trans (by omega)
              clear h hlt2 hu hv hq hbb hh0 hsr2 hs0 hsr hr0 hln
              go_wp2_with fail
              have h0 := H1.out
              clear H1
              refine region_flow (M0 := M0) (L0 := L) [⟨none, none, fun e => ownR secC 37 4 (.slice (some ⟨b, 0, none⟩) n c) (xs)⟩] [[], [], [], [], [2, 3], [1, 2, 3, 4], [1, 2, 3, 4, 5], [], [], [7, 8], [7, 8, 9], [0, 1, 2, 3, 4, 5, 6, 7, 8, 9, 10], [0, 1, 2, 3, 4, 5, 6, 7, 8, 9, 10, 11], [0, 1, 2, 3, 4, 5, 6, 7, 8, 9, 10, 11, 12]] [0, 1, 2, 3, 4, 5, 6, 7, 8, 9, 10, 11, 12, 13] rfl (by kernel_rfl) (by kernel_rfl) (by kernel_rfl) (by rfl) (fun _ => rfl) (show St M0 _ (ownR secC 37 4 (.slice (some ⟨b, 0, none⟩) n c) (xs) :: L) from h0) ?_
              refine flow_run _ rfl (fun _ => rfl) (fun e wx Lx h => by (go_simp; try rfl)) (by intro e; rfl) (by intro e; rfl) (by intro e x; rfl) ?_
              (simp only [Act.put, List.setIfInBounds_toArray, List.set_cons_succ, List.set_cons_zero])
              refine flow_run _ rfl (fun _ => rfl) (fun e wx Lx h => by (go_simp; try rfl)) (by intro e; rfl) (by intro e; rfl) (by intro e x; rfl) ?_
              (simp only [Act.put, List.setIfInBounds_toArray, List.set_cons_succ, List.set_cons_zero])
              refine flow_run _ rfl (fun _ => rfl) (fun e wx Lx h => by (go_simp; try rfl)) (by intro e; rfl) (by intro e; rfl) (by intro e x; rfl) ?_
              (simp only [Act.put, List.setIfInBounds_toArray, List.set_cons_succ, List.set_cons_zero])
              refine flow_run _ rfl (fun _ => rfl) (fun e wx Lx h => by (go_simp; try rfl)) (by intro e; rfl) (by intro e; rfl) (by intro e x; rfl) ?_
              (simp only [Act.put, List.setIfInBounds_toArray, List.set_cons_succ, List.set_cons_zero])
              refine flow_run _ rfl (fun _ => rfl) (fun e wx Lx h => by (go_simp; try rfl)) (by intro e; rfl) (by intro e; rfl) (by intro e x; rfl) ?_
              (simp only [Act.put, List.setIfInBounds_toArray, List.set_cons_succ, List.set_cons_zero])
              refine flow_run _ rfl (fun _ => rfl) (fun e wx Lx h => by (go_simp; try rfl)) (by intro e; rfl) (by intro e; rfl) (by intro e x; rfl) ?_
              (simp only [Act.put, List.setIfInBounds_toArray, List.set_cons_succ, List.set_cons_zero])
              refine flow_run _ rfl (fun _ => rfl) (fun e wx Lx h => by (have h : St M0 wx (ownR secC 37 4 (.slice (some ⟨b, 0, none⟩) n c) (xs) :: Lx) := h; have hf := h.flatO (C := secC) (e := 37) (size := 4) (v := .slice (some ⟨b, 0, none⟩) n c) (xs := xs) (by (repeat (first | with_reducible exact At.here | with_reducible apply At.there))); obtain ⟨x0, x1, x2, x3⟩ := cellsSec hf HX.out; obtain ⟨y0, y1, y2, y3⟩ := cellsSec hf HY.out; go_simp; try rfl)) (by intro e; rfl) (by intro e; rfl) (by intro e x; rfl) ?_
              (simp only [Act.put, List.setIfInBounds_toArray, List.set_cons_succ, List.set_cons_zero])
              refine flow_run _ rfl (fun _ => rfl) (fun e wx Lx h => by (go_simp; try rfl)) (by intro e; rfl) (by intro e; rfl) (by intro e x; rfl) ?_
              (simp only [Act.put, List.setIfInBounds_toArray, List.set_cons_succ, List.set_cons_zero])
              refine flow_run _ rfl (fun _ => rfl) (fun e wx Lx h => by (go_simp; try rfl)) (by intro e; rfl) (by intro e; rfl) (by intro e x; rfl) ?_
              (simp only [Act.put, List.setIfInBounds_toArray, List.set_cons_succ, List.set_cons_zero])
              refine flow_run _ rfl (fun _ => rfl) (fun e wx Lx h => by (go_simp; try rfl)) (by intro e; rfl) (by intro e; rfl) (by intro e x; rfl) ?_
              (simp only [Act.put, List.setIfInBounds_toArray, List.set_cons_succ, List.set_cons_zero])
              refine flow_run _ rfl (fun _ => rfl) (fun e wx Lx h => by (have h : St M0 wx (ownR secC 37 4 (.slice (some ⟨b, 0, none⟩) n c) (xs) :: Lx) := h; have hf := h.flatO (C := secC) (e := 37) (size := 4) (v := .slice (some ⟨b, 0, none⟩) n c) (xs := xs) (by (repeat (first | with_reducible exact At.here | with_reducible apply At.there))); obtain ⟨x0, x1, x2, x3⟩ := cellsSec hf HX.out; obtain ⟨y0, y1, y2, y3⟩ := cellsSec hf HY.out; go_simp; try rfl)) (by intro e; rfl) (by intro e; rfl) (by intro e x; rfl) ?_
              (simp only [Act.put, List.setIfInBounds_toArray, List.set_cons_succ, List.set_cons_zero])
              refine flow_call 113 (fun e => #[.agg #[.int .u64 u.t, .slice u.p.a u.p.n u.p.c, .int .i64 u.s, .slice u.k.a u.k.n u.k.c], .agg #[.int .u64 v.t, .slice v.p.a v.p.n v.p.c, .int .i64 v.s, .slice v.k.a v.k.n v.k.c]]) (fun e => .int .i64 (cmpI u.t v.t)) rfl (fun _ => rfl) (by intro e; rfl) (fun e wx => by (first | (go_simp; done) | (go_simp; exact hen _ _) | exact hen _ _)) (fun e wx Lx h => by (
                have h : St M0 wx (ownR secC 37 4 (.slice (some ⟨b, 0, none⟩) n c) (xs) :: Lx) := h
                refine (cmpSec_st u v _ h).mono ?_
                rintro u wy ⟨rfl, h1⟩
                have hk : St M0 wy (ownR secC 37 4 (.slice (some ⟨b, 0, none⟩) n c) (xs) :: Lx) := h1
                exact ⟨⟨none, 0, default⟩, rfl, hk⟩)) ?_
              (simp only [Act.put, List.setIfInBounds_toArray, List.set_cons_succ, List.set_cons_zero])
              refine flow_run (fun e => .bool false) rfl (fun _ => rfl) (fun e wx Lx h => by (go_simp; try rfl)) (by intro e; rfl) (by intro e; rfl) (by intro e x; rfl) ?_
              (simp only [Act.put, List.setIfInBounds_toArray, List.set_cons_succ, List.set_cons_zero])
              refine flow_run (fun e => .bool true) rfl (fun _ => rfl) (fun e wx Lx h => by (go_simp; try rfl)) (by intro e; rfl) (by intro e; rfl) (by intro e x; rfl) ?_
              (simp only [Act.put, List.setIfInBounds_toArray, List.set_cons_succ, List.set_cons_zero])
              refine flow_nil ?_
              intro e w1 h
              have h : St M0 w1 (ownR secC 37 4 (.slice (some ⟨b, 0, none⟩) n c) (xs) :: L) := h
              have H2 := hide h
              clear h h0
              go_wp2_with fail
              go_roundg (r - (hh + 1))
              case measure => have := HG.out; have := HH.out; omega
              case rel => exact ⟨hh + 1, r, rfl, by go_num, rfl, by have := HH.out; have := HB.out; omega, by have := HH.out; omega, HB.out.2.2.1, .inr ⟨hh, q, v, u, rfl, HH.out.2.2, HY.out, HX.out, by have := HLT.out; omega⟩, HI2.out, H2.out⟩
        · obtain rfl : s = r := by omega
          have d3 : decide ((s : Int) < (s : Int)) = false := decide_eq_false (by omega)
          obtain ⟨en, he1, he2, he3, he4, he5, hh1, hh2⟩ := symSplit HXS.out HA.out HM.out HE.out HF0.out HG0.out HMD.out HPP.out HSR.out HB.out.1 HB.out.2.2.1 HI1.out HI2.out
          obtain ⟨L1, hL1⟩ : ∃ L1, L1 = F.take (s - a) := ⟨_, rfl⟩
          obtain ⟨L2, hL2⟩ : ∃ L2, L2 = F.drop (s - a) := ⟨_, rfl⟩
          obtain ⟨R1, hR1⟩ : ∃ R1, R1 = G.take (en - m) := ⟨_, rfl⟩
          obtain ⟨R2, hR2⟩ : ∃ R2, R2 = G.drop (en - m) := ⟨_, rfl⟩
          have hFs : F = L1 ++ L2 := by rw [hL1, hL2, List.take_append_drop]
          have hGs : G = R1 ++ R2 := by rw [hR1, hR2, List.take_append_drop]
          have hl : a + L1.length = s ∧ s + L2.length = m ∧ m + R1.length = en ∧ en + R2.length = e := by
            have := HM.out
            have := HE.out
            rw [hL1, hL2, hR1, hR2, List.length_take, List.length_drop, List.length_take, List.length_drop]
            omega
          rw [← hL1, ← hR2] at hh1
          rw [← hL2, ← hR1] at hh2
          have wen : IntKind.i64.wrap ((nn : Int) - (s : Int)) = (en : Int) := (IntWalk.i64_in _ (by have := HNN.out; have := HNB.out; omega)).trans (by have := HNN.out; have := HNB.out; omega)
          have HHH := hide (And.intro hh1 hh2)
          have HLL := hide hl
          have HFS := hide hFs
          have HGS := hide hGs
          have HEN1 := hide he1
          have HBB := hide (show a ≤ s ∧ s ≤ m ∧ m ≤ en ∧ en ≤ e from ⟨he2, he3, he4, he5⟩)
          rw [HXS.out, hFs, hGs, show P ++ ((L1 ++ L2) ++ ((R1 ++ R2) ++ Q)) = (P ++ L1) ++ (L2 ++ (R1 ++ (R2 ++ Q))) by simp] at h
          have H1 := hide h
          have HS12 := hide (show SortedT (L1 ++ L2) ∧ SortedT (R1 ++ R2) from ⟨by rw [← hFs]; exact HSF.out, by rw [← hGs]; exact HSG.out⟩)
          clear h hh1 hh2 hl hFs hGs hL1 hL2 hR1 hR2 he1 he2 he3 he4 he5 hlt HI1 HI2 hs0 hsr hr0 HG HXS HB
          have lPL : (P ++ L1).length = s := by rw [List.length_append, HA.out]; exact HLL.out.1
          go_upto_region 39 with fail
          go_cut [185] (fun v wx => ∃ bb : Bool, v = .bool bb ∧ (bb = true → s < m ∧ m < en) ∧ (bb = false → s = m ∨ m = en) ∧ St M0 wx (ownR secC 37 4 (.slice (some ⟨b, 0, none⟩) n c) ((P ++ L1) ++ (L2 ++ (R1 ++ (R2 ++ Q)))) :: L))
          case first =>
            as_aux_lemma =>
              by_cases k1 : s < m
              · have e1 : decide ((s : Int) < (m : Int)) = true := decide_eq_true (by omega)
                by_cases k2 : m < en
                · have e2 : decide ((m : Int) < (en : Int)) = true := decide_eq_true (by omega)
                  have HKK := hide (And.intro k1 k2)
                  go_wp2_with fail
                  go_meet
                  exact ⟨true, rfl, fun _ => HKK.out, fun h => Bool.noConfusion h, H1.out⟩
                · have e2 : decide ((m : Int) < (en : Int)) = false := decide_eq_false (by omega)
                  have HKK := hide (show s = m ∨ m = en by have := HBB.out; have := HEN1.out; omega)
                  go_wp2_with fail
                  go_meet
                  exact ⟨false, rfl, fun h => Bool.noConfusion h, fun _ => HKK.out, H1.out⟩
              · have e1 : decide ((s : Int) < (m : Int)) = false := decide_eq_false (by omega)
                have HKK := hide (show s = m ∨ m = en by have := HBB.out; have := HEN1.out; omega)
                go_wp2_with fail
                go_meet
                exact ⟨false, rfl, fun h => Bool.noConfusion h, fun _ => HKK.out, H1.out⟩
          case rest =>
            as_aux_lemma =>
              clear H1
              obtain ⟨bb, rfl, hyes, hno, hst⟩ := hcut
              have H1 := hide hst
              clear hst
              go_upto_if 185 with fail
              go_cut [] (fun wx => St M0 wx (ownR secC 37 4 (.slice (some ⟨b, 0, none⟩) n c) ((P ++ L1) ++ (R1 ++ (L2 ++ (R2 ++ Q)))) :: L))
              case first =>
                as_aux_lemma =>
                  cases bb with
                  | true =>
                    obtain ⟨k1, k2⟩ := hyes rfl
                    have HK := hide (And.intro k1 k2)
                    clear hyes hno k1 k2
                    go_wp2_with fail
                    refine (rotate_st b n c s m en (P ++ L1) L2 R1 (R2 ++ Q) _ _ lPL HLL.out.2.1 HLL.out.2.2.1 (by have := HLL.out; have := HK.out; omega) (by have := HLL.out; have := HK.out; omega) H1.out).mono ?_
                    rintro u w2 ⟨rfl, h2⟩
                    have H2 := hide h2
                    clear h2 H1
                    go_wp2_with fail
                    go_meet
                    exact H2.out
                  | false =>
                    have hk := hno rfl
                    have h2 : L2 = [] ∨ R1 = [] := by
                      have := HLL.out
                      rcases hk with hk | hk
                      · exact .inl (List.eq_nil_of_length_eq_zero (by omega))
                      · exact .inr (List.eq_nil_of_length_eq_zero (by omega))
                    have h3 := H1.out
                    rw [show (P ++ L1) ++ (L2 ++ (R1 ++ (R2 ++ Q))) = (P ++ L1) ++ (R1 ++ (L2 ++ (R2 ++ Q))) by rcases h2 with e | e <;> simp [e]] at h3
                    have H2 := hide h3
                    clear h3
                    clear H1 h2 hk hyes hno
                    go_wp2_with fail
                    go_meet
                    exact H2.out
              case rest =>
                as_aux_lemma =>
                  clear H1 hyes hno
                  rw [show (P ++ L1) ++ (R1 ++ (L2 ++ (R2 ++ Q))) = P ++ (L1 ++ (R1 ++ (L2 ++ (R2 ++ Q)))) by simp] at hcut
                  have H3 := hide hcut
                  clear hcut lPL
                  clear bb
                  go_upto_region 41 with fail
                  go_cut [199] (fun v wx => ∃ bb : Bool, v = .bool bb ∧ (bb = true → a < s ∧ s < md) ∧ (bb = false → a = s ∨ md ≤ s) ∧ St M0 wx (ownR secC 37 4 (.slice (some ⟨b, 0, none⟩) n c) (P ++ (L1 ++ (R1 ++ (L2 ++ (R2 ++ Q))))) :: L))
                  case first =>
                    as_aux_lemma =>
                      by_cases k1 : a < s
                      · have e1 : decide ((a : Int) < (s : Int)) = true := decide_eq_true (by omega)
                        by_cases k2 : s < md
                        · have e2 : decide ((s : Int) < (md : Int)) = true := decide_eq_true (by omega)
                          have HKK := hide (And.intro k1 k2)
                          go_wp2_with fail
                          go_meet
                          exact ⟨true, rfl, fun _ => HKK.out, fun h => Bool.noConfusion h, H3.out⟩
                        · have e2 : decide ((s : Int) < (md : Int)) = false := decide_eq_false (by omega)
                          have HKK := hide (show a = s ∨ md ≤ s by have := HBB.out; have := HEN1.out; omega)
                          go_wp2_with fail
                          go_meet
                          exact ⟨false, rfl, fun h => Bool.noConfusion h, fun _ => HKK.out, H3.out⟩
                      · have e1 : decide ((a : Int) < (s : Int)) = false := decide_eq_false (by omega)
                        have HKK := hide (show a = s ∨ md ≤ s by have := HBB.out; have := HEN1.out; omega)
                        go_wp2_with fail
                        go_meet
                        exact ⟨false, rfl, fun h => Bool.noConfusion h, fun _ => HKK.out, H3.out⟩
                  case rest =>
                    as_aux_lemma =>
                      clear H3
                      obtain ⟨bb, rfl, hyes, hno, hst⟩ := hcut
                      have H3 := hide hst
                      clear hst
                      go_upto_if 199 with fail
                      go_cut [] (fun wx => ∃ S1, S1.Perm (L1 ++ R1) ∧ SortedT S1 ∧ St M0 wx (ownR secC 37 4 (.slice (some ⟨b, 0, none⟩) n c) (P ++ (S1 ++ (L2 ++ (R2 ++ Q)))) :: L))
                      case first =>
                        as_aux_lemma =>
                          cases bb with
                          | true =>
                            obtain ⟨k1, k2⟩ := hyes rfl
                            have HK := hide (And.intro k1 k2)
                            clear hyes hno k1 k2
                            go_wp2_with fail
                            refine (IH.out a s md P L1 R1 (L2 ++ (R2 ++ Q)) _ (by have := HEN.out; have := HMD.out; have := HM.out; have := HE.out; have := HF0.out; have := HG0.out; omega) HA.out HLL.out.1 (by have := HLL.out; have := HEN1.out; omega) (by have := HLL.out; have := HK.out; omega) (by have := HLL.out; have := HEN1.out; have := HK.out; omega) (sortedT_app.1 HS12.out.1).1 (sortedT_app.1 HS12.out.2).1 H3.out).mono ?_
                            rintro u w2 ⟨rfl, S1, p1, s1, h2⟩
                            have H2 := hide h2
                            have HP1 := hide p1
                            have HS1 := hide s1
                            clear h2 H3 p1 s1
                            go_wp2_with fail
                            go_meet
                            exact ⟨S1, HP1.out, HS1.out, H2.out⟩
                          | false =>
                            have hk := hno rfl
                            have h3 := H3.out
                            have H2 := hide (show ∃ S1, S1.Perm (L1 ++ R1) ∧ SortedT S1 ∧ P ++ (L1 ++ (R1 ++ (L2 ++ (R2 ++ Q)))) = P ++ (S1 ++ (L2 ++ (R2 ++ Q))) by
                              have := HLL.out
                              have := HEN1.out
                              have := HBB.out
                              rcases hk with hk | hk
                              · have e : L1 = [] := List.eq_nil_of_length_eq_zero (by omega)
                                exact ⟨R1, by rw [e, List.nil_append], (sortedT_app.1 HS12.out.2).1, by simp [e]⟩
                              · have e : R1 = [] := List.eq_nil_of_length_eq_zero (by omega)
                                exact ⟨L1, by rw [e, List.append_nil], (sortedT_app.1 HS12.out.1).1, by simp [e]⟩)
                            obtain ⟨S1, p1, s1, e1⟩ := H2.out
                            rw [e1] at h3
                            clear H2
                            have HH3 := hide h3
                            have HP1 := hide p1
                            have HS1 := hide s1
                            clear h3 p1 s1 e1 H3 hk hyes hno
                            go_wp2_with fail
                            go_meet
                            exact ⟨S1, HP1.out, HS1.out, HH3.out⟩
                      case rest =>
                        as_aux_lemma =>
                          clear H3 hyes hno
                          obtain ⟨S1, p1, s1, h3⟩ := hcut
                          have HP1 := hide p1
                          have HS1 := hide s1
                          have lS : (P ++ S1).length = md := by have := p1.length_eq; rw [List.length_append] at this; have := HLL.out; have := HEN1.out; have := HA.out; rw [List.length_append]; omega
                          rw [show P ++ (S1 ++ (L2 ++ (R2 ++ Q))) = (P ++ S1) ++ (L2 ++ (R2 ++ Q)) by simp] at h3
                          have H3 := hide h3
                          clear h3 p1 s1
                          clear bb
                          have HFIN := hide (show ∀ S2, S2.Perm (L2 ++ R2) → SortedT S2 → (S1 ++ S2).Perm (F ++ G) ∧ SortedT (S1 ++ S2) from fun S2 p2 s2 => by
                            have := symMerge_ok HS12.out.1 HS12.out.2 HHH.out.1 HHH.out.2 HP1.out p2 HS1.out s2
                            rw [HFS.out, HGS.out]
                            exact ⟨this.2, this.1⟩)
                          go_upto_region 43 with fail
                          go_cut [213] (fun v wx => ∃ bb : Bool, v = .bool bb ∧ (bb = true → md < en ∧ en < e) ∧ (bb = false → en ≤ md ∨ en = e) ∧ St M0 wx (ownR secC 37 4 (.slice (some ⟨b, 0, none⟩) n c) ((P ++ S1) ++ (L2 ++ (R2 ++ Q))) :: L))
                          case first =>
                            as_aux_lemma =>
                              by_cases k1 : md < en
                              · have e1 : decide ((md : Int) < (en : Int)) = true := decide_eq_true (by omega)
                                by_cases k2 : en < e
                                · have e2 : decide ((en : Int) < (e : Int)) = true := decide_eq_true (by omega)
                                  have HKK := hide (And.intro k1 k2)
                                  go_wp2_with fail
                                  go_meet
                                  exact ⟨true, rfl, fun _ => HKK.out, fun h => Bool.noConfusion h, H3.out⟩
                                · have e2 : decide ((en : Int) < (e : Int)) = false := decide_eq_false (by omega)
                                  have HKK := hide (show en ≤ md ∨ en = e by have := HBB.out; have := HEN1.out; omega)
                                  go_wp2_with fail
                                  go_meet
                                  exact ⟨false, rfl, fun h => Bool.noConfusion h, fun _ => HKK.out, H3.out⟩
                              · have e1 : decide ((md : Int) < (en : Int)) = false := decide_eq_false (by omega)
                                have HKK := hide (show en ≤ md ∨ en = e by have := HBB.out; have := HEN1.out; omega)
                                go_wp2_with fail
                                go_meet
                                exact ⟨false, rfl, fun h => Bool.noConfusion h, fun _ => HKK.out, H3.out⟩
                          case rest =>
                            as_aux_lemma =>
                              clear H3
                              obtain ⟨bb, rfl, hyes, hno, hst⟩ := hcut
                              have H3 := hide hst
                              clear hst
                              cases bb with
                              | true =>
                                obtain ⟨k1, k2⟩ := hyes rfl
                                have HK := hide (And.intro k1 k2)
                                clear hyes hno k1 k2
                                go_wp2_with fail
                                refine (IH.out md en e (P ++ S1) L2 R2 Q _ (by have := HEN.out; have := HMD.out; have := HM.out; have := HE.out; have := HF0.out; have := HG0.out; omega) lS (by have := HLL.out; have := HEN1.out; omega) HLL.out.2.2.2 (by have := HLL.out; have := HEN1.out; have := HK.out; omega) (by have := HLL.out; have := HK.out; omega) (sortedT_app.1 HS12.out.1).2.1 (sortedT_app.1 HS12.out.2).2.1 H3.out).mono ?_
                                rintro u w2 ⟨rfl, S2, p2, s2, h2⟩
                                have H2 := hide h2
                                have HP2 := hide p2
                                have HS2 := hide s2
                                clear h2 H3 p2 s2
                                go_wp2_with fail
                                go_end0
                                exact ⟨rfl, S1 ++ S2, (HFIN.out S2 HP2.out HS2.out).1, (HFIN.out S2 HP2.out HS2.out).2, by have := H2.out; simpa using this⟩
                              | false =>
                                have hk := hno rfl
                                have H2 := hide (show ∃ S2, S2.Perm (L2 ++ R2) ∧ SortedT S2 ∧ (P ++ S1) ++ (L2 ++ (R2 ++ Q)) = (P ++ S1) ++ (S2 ++ Q) by
                                  have := HLL.out
                                  have := HEN1.out
                                  have := HBB.out
                                  rcases hk with hk | hk
                                  · have e : L2 = [] := List.eq_nil_of_length_eq_zero (by omega)
                                    exact ⟨R2, by rw [e, List.nil_append], (sortedT_app.1 HS12.out.2).2.1, by simp [e]⟩
                                  · have e : R2 = [] := List.eq_nil_of_length_eq_zero (by omega)
                                    exact ⟨L2, by rw [e, List.append_nil], (sortedT_app.1 HS12.out.1).2.1, by simp [e]⟩)
                                clear hk hyes hno
                                go_wp2_with fail
                                go_end0
                                obtain ⟨S2, p2, s2, e4⟩ := H2.out
                                have h4 := H3.out
                                rw [e4] at h4
                                exact ⟨rfl, S1 ++ S2, (HFIN.out S2 p2 s2).1, (HFIN.out S2 p2 s2).2, by simpa using h4⟩
end Go.Proofs.Ytbgknfdaaffeaaa
