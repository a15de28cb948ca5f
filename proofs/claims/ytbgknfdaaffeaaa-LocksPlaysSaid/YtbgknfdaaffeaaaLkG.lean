/- Locks: until, give. Printed by gen_lkg.py. -/
import Derived.Test.YtbgknfdaaffeaaaLkT
namespace Go.Proofs.Ytbgknfdaaffeaaa
open Go.RowKit Go.Shelf

set_option maxHeartbeats 400000 in
theorem until_st {M0 : Imm} {L : List Res} (g : Nat) (now : Int) (w : World) (h0 : 0 ≤ now) (h1 : now ≤ 18446744073709551615) (hc : w.cell? ⟨g, 0, none⟩ = some (.int .u64 now)) (h : St M0 w L) :
    Calls Try.prog 100 #[.pointer (some ⟨g, 0, none⟩)] w fun e w' => e = .returned (.int .u64 (untilI now)) ∧ St M0 w' L := by
  have H := hide h
  clear h
  by_cases hb : now > 18446744073709551605
  · have d1 : decide (now > 18446744073709551605) = true := decide_eq_true hb
    have d2 : decide (18446744073709551605 < now) = true := d1
    have E := hide (show untilI now = 18446744073709551615 from if_pos hb)
    clear hb h1
    go_enter Try.func100, Try.ntmps100
    go_wp2_with fail
    go_ret
    exact ⟨by rw [E.out]; try rfl, H.out⟩
  · have d1 : decide (now > 18446744073709551605) = false := decide_eq_false hb
    have d2 : decide (18446744073709551605 < now) = false := d1
    have E := hide (show untilI now = now + 10 from if_neg hb)
    have w1 : IntKind.u64.wrap (now + 10) = now + 10 := IntWalk.u64_in _ (by omega)
    clear hb h1
    go_enter Try.func100, Try.ntmps100
    go_wp2_with fail
    go_ret
    exact ⟨by rw [E.out]; try rfl, H.out⟩
theorem sl_blkT {w : World} {b : Nat} {t : TypeId} {cs : List Value} (h : Blk w b t cs.toArray) : Sl w Any cs.length (some ⟨b, 0, none⟩) 1 cs :=
  ⟨by simp, fun _ => ⟨_, rfl, trivial, h.lt, fun j u hu => by
    rw [show (⟨b, 0, none⟩ : Addr).add j = ⟨b, j, none⟩ by simp [Addr.add]; exact Eq.symm, h.cell]
    simpa using hu⟩⟩
theorem St.own1 {α : Type} {C : α → List Value} {P : Program} {M0 : Imm} {w : World} {L : List Res} {t e : TypeId} {z : Value} {size bytes q c : Nat} {A : Option Addr} {xs : List α} (hE : ElemOf P t e z size bytes) (h : St M0 w (ownR C e size (.slice A q c) xs :: L)) (ty : TypeId) (a : Addr) (k : Nat) (x : α) (hc : Sl w Any size (some a) 1 (C x)) (h1 : ∀ u ∈ C x, u.oneCell' = true) (_hl : (C x).length = size)
    (hb : (q + 1) * bytes ≤ 140737488355328) (hn : q + 1 ≤ 140737488355328) :
    ∃ A' c' w', (Builtin.append_ #[t, t] ty #[.slice A q c, .slice (some a) 1 k]).run P w = .ok (.slice A' (q + 1) c') w' ∧ St M0 w' (ownR C e size (.slice A' (q + 1) c') (xs ++ [x]) :: L) := by
  obtain ⟨hq, h2⟩ := h.ownOpen
  obtain ⟨v', w', hr, h3⟩ := h2.run_app hE ty (some a) 1 k (C x) hc h1 hb hn
  obtain ⟨A', c', rfl⟩ := h3.slice
  exact ⟨A', c', w', hr, h3.ownSnoc hq⟩
/-- the table out of one region's parts, whose values are known -/
theorem St.tabV {M0 : Imm} {w : World} {L : List Res} {g i : Nat} {now last : Int} {r : Nat → RegM} {vs vs0 : Nat → RegV} {hv wv : SlV} {hs : List HoldM} {ws : List WantM} (hi : i < 4) (hvi : vs i = ⟨hv, wv⟩) (hoth : ∀ j, j ≠ i → vs j = vs0 j) (h : St M0 w (tabB g now last vs :: holdsR hv hs :: wantsR wv ws :: othT vs0 r i :: L)) : St M0 w (tabR g ⟨now, last, upd r i ⟨hs, ws⟩⟩ :: L) := by
  refine St.tabC_ (vs := vs) hi ?_
  rw [hvi, othT_congr hoth (fun _ _ => rfl)]
  exact h
theorem addW0 (ad : Addr) : ad.add (0 * 2) = ad := rfl
set_option maxHeartbeats 8000000 in
set_option maxRecDepth 100000 in
theorem give_st {M0 : Imm} {L : List Res} (g i : Nat) (now last : Int) (r : Nat → RegM) (hs0 : List HoldM) (ws0 : List WantM) (vs : Nat → RegV) (w : World) (hi4 : i < 4) (hnow : 0 ≤ now ∧ now ≤ 18446744073709551615) (hlast : 0 ≤ last ∧ last ≤ 18446744073709551615)
    (h : St M0 w (tabB g now last vs :: holdsR (vs i).h hs0 :: wantsR (vs i).w ws0 :: othT vs r i :: L)) :
    Calls Try.prog 98 #[.pointer (some ⟨g, 0, none⟩), .pointer (some ⟨g, 2 + i * 2, none⟩)] w fun e w' => e = .returned (.tuple #[]) ∧ St M0 w' (tabR g ⟨now, (giveL now ws0 hs0 last).2.2, upd r i ⟨(giveL now ws0 hs0 last).2.1, (giveL now ws0 hs0 last).1⟩⟩ :: L) := by
  obtain ⟨o, ho⟩ : ∃ o, o = 2 + i * 2 := ⟨_, rfl⟩
  rw [← ho]
  have HO := hide ho
  have HNOW := hide hnow
  obtain ⟨last0, hl0⟩ : ∃ l0, l0 = last := ⟨_, rfl⟩
  obtain ⟨gv, hgv⟩ : ∃ gv, gv = giveL now ws0 hs0 last := ⟨_, rfl⟩
  rw [← hgv]
  have H := hide h
  have HGV := hide hgv
  clear h ho hgv hl0 last0
  go_enter Try.func98, Try.ntmps98
  go_wp2_with fail
  go_loopg [4] ws0.length (fun gh xv wr => ∃ (vs1 : Nat → RegV) (hv wv : SlV) (hs : List HoldM) (ws : List WantM) (la : Int), gh = ws.length ∧ gv = giveL now ws hs la ∧ vs1 i = ⟨hv, wv⟩ ∧ (∀ j, j ≠ i → vs1 j = vs j) ∧ 0 ≤ la ∧ la ≤ 18446744073709551615 ∧ St M0 wr (tabB g now la vs1 :: holdsR hv hs :: wantsR wv ws :: othT vs r i :: L))
  case atStart => exact ⟨vs, (vs i).h, (vs i).w, hs0, ws0, last, rfl, HGV.out, rfl, fun _ _ => rfl, hlast.1, hlast.2, H.out⟩
  case round =>
    clear H HGV hlast
    clear last
    obtain ⟨vs1, ⟨A, n, c⟩, ⟨B, m, d⟩, hs, wsa, last, hg, hgv, hvi, hoth, hl0, hl1, h⟩ := hrel
    have HOT := hide hoth
    have HG := hide hg
    have HVI := hide hvi
    have HCH := hide (show (tabC now last vs1)[o]? = some (.slice A n c) by rw [HO.out]; refine (tabC_h now last vs1 hi4).trans ?_; rw [hvi])
    have HCW := hide (show (tabC now last vs1)[o + 1]? = some (.slice B m d) by rw [HO.out]; refine (tabC_w now last vs1 hi4).trans ?_; rw [hvi])
    have c1 : wr.cell? ⟨g, 1, none⟩ = some (.int .u64 last) := (h.blk 0 rfl).cell 1
    have ch : wr.cell? ⟨g, o, none⟩ = some (.slice A n c) := ((h.blk 0 rfl).cell o).trans HCH.out
    have cw : wr.cell? ⟨g, o + 1, none⟩ = some (.slice B m d) := ((h.blk 0 rfl).cell (o + 1)).trans HCW.out
    obtain ⟨hn, _, hcm, _⟩ := (h.flatO (C := holdC) (e := 91) (size := 4) (v := .slice A n c) (xs := hs) (by (repeat (first | with_reducible exact At.here | with_reducible apply At.there)))).sl
    obtain ⟨hm, hmd, hdm, _⟩ := (h.flatK (C := wantC) (size := 2) (v := .slice B m d) (xs := wsa) (by (repeat (first | with_reducible exact At.here | with_reducible apply At.there)))).sl
    have HM := hide hm
    have HN := hide hn
    have HGV := hide hgv
    clear hg hvi hgv hm hn hoth
    cases wsa with
    | nil =>
      have hm0 : m = 0 := HM.out
      subst hm0
      have E := hide (show gv = ([], hs, last) from HGV.out)
      have H1 := hide h
      clear h
      go_wp2_with fail
      go_end0
      refine ⟨rfl, ?_⟩
      rw [E.out]
      exact H1.out.tabV hi4 HVI.out HOT.out
    | cons x ws =>
      have hm1 : m = ws.length + 1 := HM.out
      have m0 : (0 : Int) < (m : Int) := by omega
      have EX := hide (show ¬ (hs.length < 4 ∧ hs.any (hardB x.m) = false ∧ last < 18446744073709551615) → gv = (x :: ws, hs, last) from fun hno => HGV.out.trans (if_neg hno))
      have EY := hide (show (hs.length < 4 ∧ hs.any (hardB x.m) = false ∧ last < 18446744073709551615) → gv = giveL now ws (hs ++ [⟨x.c, x.m, last + 1, untilI now⟩]) (last + 1) from fun hy => HGV.out.trans (if_pos hy))
      have HM1 := hide hm1
      have m1 : decide ((m : Int) > 0) = true := decide_eq_true m0
      clear HM HGV hm1
      by_cases h4 : n < 4
      · have n4 : decide ((n : Int) < 4) = true := decide_eq_true (by omega)
        obtain ⟨ad, rfl, hcs⟩ := (h.flatK (C := wantC) (size := 2) (v := .slice B m d) (xs := x :: ws) (by (repeat (first | with_reducible exact At.here | with_reducible apply At.there)))).at_ wantC_len (k := 0) (x := x) rfl
        rw [addW0] at hcs
        obtain ⟨e0, e1⟩ := cells2F hcs
        have H1 := hide h
        clear h hcs
        go_wp2_with fail
        refine (bears_st g o A n c hs x.m _ ch (fun W hW => hW.flatO (by (repeat (first | with_reducible exact At.here | with_reducible apply At.there)))) H1.out).mono ?_
        rintro e w2 ⟨rfl, h2⟩
        clear c1 ch cw e0 e1
        cases hany : hs.any (hardB x.m) with
        | true =>
          have E := hide (EX.out (fun hy => by rw [hany] at hy; exact Bool.noConfusion hy.2.1))
          have H2 := hide h2
          clear h2 H1 hany
          go_wp2_with fail
          go_end0
          refine ⟨rfl, ?_⟩
          rw [E.out]
          exact H2.out.tabV hi4 HVI.out HOT.out
        | false =>
          have c1 : w2.cell? ⟨g, 1, none⟩ = some (.int .u64 last) := (h2.blk 0 rfl).cell 1
          by_cases hl : last < 18446744073709551615
          · have hd1 : decide (last < 18446744073709551615) = true := decide_eq_true hl
            have HGV2 := hide (EY.out ⟨by rw [← HN.out]; exact h4, hany, hl⟩)
            have cw : w2.cell? ⟨g, o + 1, none⟩ = some (.slice (some ad) m d) := ((h2.blk 0 rfl).cell (o + 1)).trans HCW.out
            obtain ⟨ad', hae, hcs⟩ := (h2.flatK (C := wantC) (size := 2) (v := .slice (some ad) m d) (xs := x :: ws) (by (repeat (first | with_reducible exact At.here | with_reducible apply At.there)))).at_ wantC_len (k := 0) (x := x) rfl
            injection hae with hae
            subst hae
            rw [addW0] at hcs
            obtain ⟨e0, e1⟩ := cells2F hcs
            have f := (h2.blk 0 rfl).frozen
            have wl : IntKind.u64.wrap (last + 1) = last + 1 := IntWalk.u64_in _ (by omega)
            have hmd1 : (1 : Int) ≤ (m : Int) := by omega
            have hmd2 : (m : Int) ≤ (d : Int) := by omega
            have hmd3 : (1 : Int) ≤ (d : Int) := by omega
            have hmd4 : (0 : Int) ≤ (m : Int) := by omega
            by_cases hd : d = 1
            case' pos =>
              subst hd
              obtain ⟨B', hB'⟩ : ∃ B', B' = some ad := ⟨_, rfl⟩
              obtain rfl : m = 1 := by omega
              obtain ⟨dd, hdd⟩ : ∃ dd, dd = 1 - 1 := ⟨_, rfl⟩
              obtain ⟨mm, hmm⟩ : ∃ mm, mm = 1 - 1 := ⟨_, rfl⟩
              have h2t : St M0 w2 (keepR wantC 2 (.slice B' mm dd) ws :: tabB g now last vs1 :: holdsR ⟨A, n, c⟩ hs :: wantsR ⟨some ad, 1, 1⟩ (x :: ws) :: othT vs r i :: L) := by
                rw [hdd, hmm]
                exact h2.keepTail wantC_len (by omega) (A' := B') (by (repeat (first | with_reducible exact At.here | with_reducible apply At.there))) (fun ad' e hd => absurd rfl hd)
            case' neg =>
              obtain ⟨B', hB'⟩ : ∃ B', B' = some (⟨ad.block, ad.off + 2, none⟩ : Addr) := ⟨_, rfl⟩
              obtain ⟨dd, hdd⟩ : ∃ dd, dd = d - 1 := ⟨_, rfl⟩
              obtain ⟨mm, hmm⟩ : ∃ mm, mm = m - 1 := ⟨_, rfl⟩
              have h2t : St M0 w2 (keepR wantC 2 (.slice B' mm dd) ws :: tabB g now last vs1 :: holdsR ⟨A, n, c⟩ hs :: wantsR ⟨some ad, m, d⟩ (x :: ws) :: othT vs r i :: L) := by
                rw [hdd, hmm]
                exact h2.keepTail wantC_len (by omega) (A' := B') (by (repeat (first | with_reducible exact At.here | with_reducible apply At.there))) (fun ad' e _ => by injection e with e; subst e; rw [hB']; rfl)
            all_goals
              have h3 := h2t.alloc 87 #[.int .i64 x.c, .int .i64 x.m]
              have cw3 : (w2.alloc (.cells #[.int .i64 x.c, .int .i64 x.m] 87)).cell? ⟨g, o + 1, none⟩ = _ := ((h3.blkA (g := g) (t := 79) (cs := tabC now last vs1) (by (repeat (first | with_reducible exact At.here | with_reducible apply At.there)))).cell (o + 1)).trans HCW.out
              have c13 : (w2.alloc (.cells #[.int .i64 x.c, .int .i64 x.m] 87)).cell? ⟨g, 1, none⟩ = some (.int .u64 last) := (h3.blkA (g := g) (t := 79) (cs := tabC now last vs1) (by (repeat (first | with_reducible exact At.here | with_reducible apply At.there)))).cell 1
              have f3 := (h3.blkA (g := g) (t := 79) (cs := tabC now last vs1) (by (repeat (first | with_reducible exact At.here | with_reducible apply At.there)))).frozen
              have ho1 : ¬ (o + 1 = 1) := by have := HO.out; omega
              generalize hy : w2.heap.size = y at h3
              obtain ⟨vs2, hvs2⟩ : ∃ vs2, vs2 = upd vs1 i ⟨(vs1 i).h, ⟨B', mm, dd⟩⟩ := ⟨_, rfl⟩
              have h4 := (h3.front (X := tabB g now last vs1) (by (repeat (first | with_reducible exact At.here | with_reducible apply At.there)))).put_ (o + 1) (.slice B' mm dd) (tabC now last vs2) (by rw [HO.out, hvs2]; exact tabC_setw now last vs1 hi4 ⟨B', mm, dd⟩)
              have h5 := h4.put_ 1 (.int .u64 (last + 1)) (tabC now (last + 1) vs2) rfl
              have HCO := hide (show (tabC now (last + 1) vs2)[o]? = some (.slice A n c) by rw [HO.out]; refine (tabC_h now (last + 1) vs2 hi4).trans ?_; rw [hvs2, updT_same, HVI.out])
              have HV2 := hide (show (vs2 i).w = ⟨B', mm, dd⟩ by rw [hvs2, updT_same])
              have HOT2 := hide (show ∀ j, j ≠ i → vs2 j = vs j from fun j hj => by rw [hvs2, updT_ne _ _ hj]; exact HOT.out j hj)
              have HB' := hide hB'
              have HDD := hide hdd
              have HMM := hide hmm
              have H5 := hide (h5.sub (L' := tabB g now (last + 1) vs2 :: blkR y 87 #[.int .i64 x.c, .int .i64 x.m] :: ownR holdC 91 4 (.slice A n c) hs :: wantsR ⟨B', mm, dd⟩ ws :: othT vs r i :: L) (by (repeat (first | with_reducible exact Sub.refl _ | (with_reducible apply Sub.take; focus (repeat (first | with_reducible exact At.here | with_reducible apply At.there))) | with_reducible apply Sub.drop))))
              have HY := hide hy
              clear h2 h2t h3 h4 h5 H1 hany hB' hdd hmm hcs hy hvs2
              go_wp2_with fail
              generalize hW : World.setCell _ _ _ = w5
              have hW2 : (((w2.alloc (.cells #[.int .i64 x.c, .int .i64 x.m] 87)).setCell ⟨g, o + 1, none⟩ (.slice B' mm dd)).setCell ⟨g, 1, none⟩ (.int .u64 (last + 1))) = w5 := by rw [HB'.out, HDD.out, HMM.out]; exact hW
              have h0 := H5.out
              rw [hW2] at h0
              rw [HY.out]
              clear hW hW2 H5 cw3 c13 f3 f c1 cw e0 e1 HB' HDD HMM HY
              refine region_flow (M0 := M0) (L0 := wantsR ⟨B', mm, dd⟩ ws :: othT vs r i :: L) [⟨none, some 20, fun e => tabB g now (last + 1) vs2⟩, ⟨none, none, fun e => blkR y 87 #[.int .i64 x.c, .int .i64 x.m]⟩, ⟨none, some 17, fun e => ownR holdC 91 4 (.slice A n c) hs⟩, ⟨some 16, none, fun e => blkR (e 16).n 91 #[.int .i64 x.c, .int .i64 x.m, .int .u64 (last + 1), .int .u64 (untilI now)]⟩, ⟨some 17, none, fun e => ownR holdC 91 4 (.slice (e 17).A (n + 1) (e 17).n) (hs ++ [(⟨x.c, x.m, last + 1, untilI now⟩ : HoldM)])⟩, ⟨some 20, none, fun e => tabB g now (last + 1) (upd vs2 i ⟨⟨(e 17).A, n + 1, (e 17).n⟩, (vs2 i).w⟩)⟩] [[], [], [1], [1, 2], [1, 2, 3], [], [5], [], [7], [], [9], [9, 10], [9, 10, 11], [], [13], [5, 6, 7, 8, 9, 10, 11, 12, 13, 14], [5, 6, 7, 8, 9, 10, 11, 12, 13, 14, 15], [1, 2, 3, 4, 5, 6, 7, 8, 9, 10, 11, 12, 13, 14, 15, 16], [0, 1, 2, 3, 4, 5, 6, 7, 8, 9, 10, 11, 12, 13, 14, 15, 16, 17], [0, 1, 2, 3, 4, 5, 6, 7, 8, 9, 10, 11, 12, 13, 14, 15, 16, 17, 18], [0, 1, 2, 3, 4, 5, 6, 7, 8, 9, 10, 11, 12, 13, 14, 15, 16, 17, 18, 19]] [0, 1, 2, 3, 4, 5, 6, 7, 8, 9, 10, 11, 12, 13, 14, 15, 16, 17, 18, 19, 20] rfl (by kernel_rfl) (by kernel_rfl) (by kernel_rfl) (by rfl) (fun _ => rfl) (show St M0 _ (tabB g now (last + 1) vs2 :: blkR y 87 #[.int .i64 x.c, .int .i64 x.m] :: ownR holdC 91 4 (.slice A n c) hs :: wantsR ⟨B', mm, dd⟩ ws :: othT vs r i :: L) from h0) ?_
              refine flow_run _ rfl (fun _ => rfl) (fun e wx Lx h => by (go_simp; try rfl)) (by intro e; rfl) (by intro e; rfl) (by intro e x; rfl) ?_
              (simp only [Act.put, List.setIfInBounds_toArray, List.set_cons_succ, List.set_cons_zero])
              refine flow_run _ rfl (fun _ => rfl) (fun e wx Lx h => by (go_simp; try rfl)) (by intro e; rfl) (by intro e; rfl) (by intro e x; rfl) ?_
              (simp only [Act.put, List.setIfInBounds_toArray, List.set_cons_succ, List.set_cons_zero])
              refine flow_run _ rfl (fun _ => rfl) (fun e wx Lx h => by (go_simp; try rfl)) (by intro e; rfl) (by intro e; rfl) (by intro e x; rfl) ?_
              (simp only [Act.put, List.setIfInBounds_toArray, List.set_cons_succ, List.set_cons_zero])
              refine flow_run _ rfl (fun _ => rfl) (fun e wx Lx h => by (go_simp; try rfl)) (by intro e; rfl) (by intro e; rfl) (by intro e x; rfl) ?_
              (simp only [Act.put, List.setIfInBounds_toArray, List.set_cons_succ, List.set_cons_zero])
              refine flow_run _ rfl (fun _ => rfl) (fun e wx Lx h => by (have h : St M0 wx (tabB g now (last + 1) vs2 :: blkR y 87 #[.int .i64 x.c, .int .i64 x.m] :: ownR holdC 91 4 (.slice A n c) hs :: Lx) := h; have b0 := (h.blkA (g := g) (t := 79) (cs := tabC now (last + 1) vs2) (by (repeat (first | with_reducible exact At.here | with_reducible apply At.there)))).cell 0; have b1 := (h.blkA (g := g) (t := 79) (cs := tabC now (last + 1) vs2) (by (repeat (first | with_reducible exact At.here | with_reducible apply At.there)))).cell 1; have bo : wx.cell? ⟨g, o, none⟩ = some (.slice A n c) := ((h.blkA (g := g) (t := 79) (cs := tabC now (last + 1) vs2) (by (repeat (first | with_reducible exact At.here | with_reducible apply At.there)))).cell o).trans HCO.out; have y0 := (h.blkA (g := y) (t := 87) (cs := #[.int .i64 x.c, .int .i64 x.m]) (by (repeat (first | with_reducible exact At.here | with_reducible apply At.there)))).cell 0; have y1 := (h.blkA (g := y) (t := 87) (cs := #[.int .i64 x.c, .int .i64 x.m]) (by (repeat (first | with_reducible exact At.here | with_reducible apply At.there)))).cell 1; go_simp; try rfl)) (by intro e; rfl) (by intro e; rfl) (by intro e x; rfl) ?_
              (simp only [Act.put, List.setIfInBounds_toArray, List.set_cons_succ, List.set_cons_zero])
              refine flow_run _ rfl (fun _ => rfl) (fun e wx Lx h => by (go_simp; try rfl)) (by intro e; rfl) (by intro e; rfl) (by intro e x; rfl) ?_
              (simp only [Act.put, List.setIfInBounds_toArray, List.set_cons_succ, List.set_cons_zero])
              refine flow_run _ rfl (fun _ => rfl) (fun e wx Lx h => by (have h : St M0 wx (tabB g now (last + 1) vs2 :: blkR y 87 #[.int .i64 x.c, .int .i64 x.m] :: ownR holdC 91 4 (.slice A n c) hs :: Lx) := h; have b0 := (h.blkA (g := g) (t := 79) (cs := tabC now (last + 1) vs2) (by (repeat (first | with_reducible exact At.here | with_reducible apply At.there)))).cell 0; have b1 := (h.blkA (g := g) (t := 79) (cs := tabC now (last + 1) vs2) (by (repeat (first | with_reducible exact At.here | with_reducible apply At.there)))).cell 1; have bo : wx.cell? ⟨g, o, none⟩ = some (.slice A n c) := ((h.blkA (g := g) (t := 79) (cs := tabC now (last + 1) vs2) (by (repeat (first | with_reducible exact At.here | with_reducible apply At.there)))).cell o).trans HCO.out; have y0 := (h.blkA (g := y) (t := 87) (cs := #[.int .i64 x.c, .int .i64 x.m]) (by (repeat (first | with_reducible exact At.here | with_reducible apply At.there)))).cell 0; have y1 := (h.blkA (g := y) (t := 87) (cs := #[.int .i64 x.c, .int .i64 x.m]) (by (repeat (first | with_reducible exact At.here | with_reducible apply At.there)))).cell 1; go_simp; try rfl)) (by intro e; rfl) (by intro e; rfl) (by intro e x; rfl) ?_
              (simp only [Act.put, List.setIfInBounds_toArray, List.set_cons_succ, List.set_cons_zero])
              refine flow_run _ rfl (fun _ => rfl) (fun e wx Lx h => by (go_simp; try rfl)) (by intro e; rfl) (by intro e; rfl) (by intro e x; rfl) ?_
              (simp only [Act.put, List.setIfInBounds_toArray, List.set_cons_succ, List.set_cons_zero])
              refine flow_run _ rfl (fun _ => rfl) (fun e wx Lx h => by (have h : St M0 wx (tabB g now (last + 1) vs2 :: blkR y 87 #[.int .i64 x.c, .int .i64 x.m] :: ownR holdC 91 4 (.slice A n c) hs :: Lx) := h; have b0 := (h.blkA (g := g) (t := 79) (cs := tabC now (last + 1) vs2) (by (repeat (first | with_reducible exact At.here | with_reducible apply At.there)))).cell 0; have b1 := (h.blkA (g := g) (t := 79) (cs := tabC now (last + 1) vs2) (by (repeat (first | with_reducible exact At.here | with_reducible apply At.there)))).cell 1; have bo : wx.cell? ⟨g, o, none⟩ = some (.slice A n c) := ((h.blkA (g := g) (t := 79) (cs := tabC now (last + 1) vs2) (by (repeat (first | with_reducible exact At.here | with_reducible apply At.there)))).cell o).trans HCO.out; have y0 := (h.blkA (g := y) (t := 87) (cs := #[.int .i64 x.c, .int .i64 x.m]) (by (repeat (first | with_reducible exact At.here | with_reducible apply At.there)))).cell 0; have y1 := (h.blkA (g := y) (t := 87) (cs := #[.int .i64 x.c, .int .i64 x.m]) (by (repeat (first | with_reducible exact At.here | with_reducible apply At.there)))).cell 1; go_simp; try rfl)) (by intro e; rfl) (by intro e; rfl) (by intro e x; rfl) ?_
              (simp only [Act.put, List.setIfInBounds_toArray, List.set_cons_succ, List.set_cons_zero])
              refine flow_run _ rfl (fun _ => rfl) (fun e wx Lx h => by (go_simp; try rfl)) (by intro e; rfl) (by intro e; rfl) (by intro e x; rfl) ?_
              (simp only [Act.put, List.setIfInBounds_toArray, List.set_cons_succ, List.set_cons_zero])
              refine flow_run _ rfl (fun _ => rfl) (fun e wx Lx h => by (go_simp; try rfl)) (by intro e; rfl) (by intro e; rfl) (by intro e x; rfl) ?_
              (simp only [Act.put, List.setIfInBounds_toArray, List.set_cons_succ, List.set_cons_zero])
              refine flow_run _ rfl (fun _ => rfl) (fun e wx Lx h => by (go_simp; try rfl)) (by intro e; rfl) (by intro e; rfl) (by intro e x; rfl) ?_
              (simp only [Act.put, List.setIfInBounds_toArray, List.set_cons_succ, List.set_cons_zero])
              refine flow_run _ rfl (fun _ => rfl) (fun e wx Lx h => by (have h : St M0 wx (tabB g now (last + 1) vs2 :: blkR y 87 #[.int .i64 x.c, .int .i64 x.m] :: ownR holdC 91 4 (.slice A n c) hs :: Lx) := h; have b0 := (h.blkA (g := g) (t := 79) (cs := tabC now (last + 1) vs2) (by (repeat (first | with_reducible exact At.here | with_reducible apply At.there)))).cell 0; have b1 := (h.blkA (g := g) (t := 79) (cs := tabC now (last + 1) vs2) (by (repeat (first | with_reducible exact At.here | with_reducible apply At.there)))).cell 1; have bo : wx.cell? ⟨g, o, none⟩ = some (.slice A n c) := ((h.blkA (g := g) (t := 79) (cs := tabC now (last + 1) vs2) (by (repeat (first | with_reducible exact At.here | with_reducible apply At.there)))).cell o).trans HCO.out; have y0 := (h.blkA (g := y) (t := 87) (cs := #[.int .i64 x.c, .int .i64 x.m]) (by (repeat (first | with_reducible exact At.here | with_reducible apply At.there)))).cell 0; have y1 := (h.blkA (g := y) (t := 87) (cs := #[.int .i64 x.c, .int .i64 x.m]) (by (repeat (first | with_reducible exact At.here | with_reducible apply At.there)))).cell 1; go_simp; try rfl)) (by intro e; rfl) (by intro e; rfl) (by intro e x; rfl) ?_
              (simp only [Act.put, List.setIfInBounds_toArray, List.set_cons_succ, List.set_cons_zero])
              refine flow_run _ rfl (fun _ => rfl) (fun e wx Lx h => by (go_simp; try rfl)) (by intro e; rfl) (by intro e; rfl) (by intro e x; rfl) ?_
              (simp only [Act.put, List.setIfInBounds_toArray, List.set_cons_succ, List.set_cons_zero])
              refine flow_call 100 (fun e => #[.pointer (some ⟨g, 0, none⟩)]) (fun e => .int .u64 (untilI now)) rfl (fun _ => rfl) (by intro e; rfl) (fun e wx => by (go_simp; try rfl)) (fun e wx Lx h => by (
                have h : St M0 wx (tabB g now (last + 1) vs2 :: blkR y 87 #[.int .i64 x.c, .int .i64 x.m] :: ownR holdC 91 4 (.slice A n c) hs :: Lx) := h
                refine (until_st g now _ HNOW.out.1 HNOW.out.2 ((h.blkA (g := g) (t := 79) (cs := tabC now (last + 1) vs2) (by (repeat (first | with_reducible exact At.here | with_reducible apply At.there)))).cell 0) h).mono ?_
                rintro u wy ⟨rfl, h1⟩
                have hk : St M0 wy (tabB g now (last + 1) vs2 :: blkR y 87 #[.int .i64 x.c, .int .i64 x.m] :: ownR holdC 91 4 (.slice A n c) hs :: Lx) := h1.sub (by (repeat (first | with_reducible exact Sub.refl _ | (with_reducible apply Sub.take; focus (repeat (first | with_reducible exact At.here | with_reducible apply At.there))) | with_reducible apply Sub.drop)))
                exact ⟨⟨none, 0, default⟩, rfl, hk⟩)) ?_
              (simp only [Act.put, List.setIfInBounds_toArray, List.set_cons_succ, List.set_cons_zero])
              refine flow_run _ rfl (fun _ => rfl) (fun e wx Lx h => by (go_simp; try rfl)) (by intro e; rfl) (by intro e; rfl) (by intro e x; rfl) ?_
              (simp only [Act.put, List.setIfInBounds_toArray, List.set_cons_succ, List.set_cons_zero])
              refine flow_do (fun e => .slice (some ⟨(e 16).n, 0, none⟩) 1 1) rfl (fun _ => rfl) (by intro e; rfl) (fun e wx Lx h => by (
                have h : St M0 wx (tabB g now (last + 1) vs2 :: blkR y 87 #[.int .i64 x.c, .int .i64 x.m] :: ownR holdC 91 4 (.slice A n c) hs :: Lx) := h
                have hk : St M0 _ (tabB g now (last + 1) vs2 :: blkR y 87 #[.int .i64 x.c, .int .i64 x.m] :: ownR holdC 91 4 (.slice A n c) hs :: blkR wx.heap.size 91 #[.int .i64 x.c, .int .i64 x.m, .int .u64 (last + 1), .int .u64 (untilI now)] :: Lx) := (h.alloc 91 #[.int .i64 x.c, .int .i64 x.m, .int .u64 (last + 1), .int .u64 (untilI now)]).sub (by (repeat (first | with_reducible exact Sub.refl _ | (with_reducible apply Sub.take; focus (repeat (first | with_reducible exact At.here | with_reducible apply At.there))) | with_reducible apply Sub.drop)))
                exact ⟨⟨none, wx.heap.size, default⟩, _, exec_buildSlice1 rfl rfl (hold_build _ _ _ _ _), hk⟩)) ?_
              (simp only [Act.put, List.setIfInBounds_toArray, List.set_cons_succ, List.set_cons_zero])
              refine flow_do (fun e => .slice (e 17).A (n + 1) (e 17).n) rfl (fun _ => rfl) (by intro e; rfl) (fun e wx Lx h => by (
                have h : St M0 wx (tabB g now (last + 1) vs2 :: blkR y 87 #[.int .i64 x.c, .int .i64 x.m] :: ownR holdC 91 4 (.slice A n c) hs :: blkR (e 16).n 91 #[.int .i64 x.c, .int .i64 x.m, .int .u64 (last + 1), .int .u64 (untilI now)] :: Lx) := h
                have hz := sl_blkT (cs := [.int .i64 x.c, .int .i64 x.m, .int .u64 (last + 1), .int .u64 (untilI now)]) (h.blkA (g := (e 16).n) (t := 91) (cs := #[.int .i64 x.c, .int .i64 x.m, .int .u64 (last + 1), .int .u64 (untilI now)]) (by (repeat (first | with_reducible exact At.here | with_reducible apply At.there))))
                obtain ⟨A', c', w', hr, h2⟩ := (h.front (X := ownR holdC 91 4 (.slice A n c) hs) (by (repeat (first | with_reducible exact At.here | with_reducible apply At.there)))).own1 hold_elem _ ⟨(e 16).n, 0, none⟩ 1 (⟨x.c, x.m, last + 1, untilI now⟩ : HoldM) hz (hold_one _) rfl (by omega) (by omega)
                have hk : St M0 _ (tabB g now (last + 1) vs2 :: blkR y 87 #[.int .i64 x.c, .int .i64 x.m] :: blkR (e 16).n 91 #[.int .i64 x.c, .int .i64 x.m, .int .u64 (last + 1), .int .u64 (untilI now)] :: ownR holdC 91 4 (.slice A' (n + 1) c') (hs ++ [(⟨x.c, x.m, last + 1, untilI now⟩ : HoldM)]) :: Lx) := h2.sub (by (repeat (first | with_reducible exact Sub.refl _ | (with_reducible apply Sub.take; focus (repeat (first | with_reducible exact At.here | with_reducible apply At.there))) | with_reducible apply Sub.drop)))
                exact ⟨⟨A', c', default⟩, _, exec_append rfl rfl rfl hr, hk⟩)) ?_
              (simp only [Act.put, List.setIfInBounds_toArray, List.set_cons_succ, List.set_cons_zero])
              refine flow_run _ rfl (fun _ => rfl) (fun e wx Lx h => by (go_simp; try rfl)) (by intro e; rfl) (by intro e; rfl) (by intro e x; rfl) ?_
              (simp only [Act.put, List.setIfInBounds_toArray, List.set_cons_succ, List.set_cons_zero])
              refine flow_run _ rfl (fun _ => rfl) (fun e wx Lx h => by (go_simp; try rfl)) (by intro e; rfl) (by intro e; rfl) (by intro e x; rfl) ?_
              (simp only [Act.put, List.setIfInBounds_toArray, List.set_cons_succ, List.set_cons_zero])
              refine flow_store _ _ _ (fun e => .pointer (some ⟨g, o, none⟩)) (fun e => .slice (e 17).A (n + 1) (e 17).n) rfl (fun _ => rfl) rfl (fun _ => rfl) (fun _ => rfl) (fun e wx Lx h => by (
                have h : St M0 wx (tabB g now (last + 1) vs2 :: blkR y 87 #[.int .i64 x.c, .int .i64 x.m] :: blkR (e 16).n 91 #[.int .i64 x.c, .int .i64 x.m, .int .u64 (last + 1), .int .u64 (untilI now)] :: ownR holdC 91 4 (.slice (e 17).A (n + 1) (e 17).n) (hs ++ [(⟨x.c, x.m, last + 1, untilI now⟩ : HoldM)]) :: Lx) := h
                have b0 := (h.blkA (g := g) (t := 79) (cs := tabC now (last + 1) vs2) (by (repeat (first | with_reducible exact At.here | with_reducible apply At.there)))).cell 0; have b1 := (h.blkA (g := g) (t := 79) (cs := tabC now (last + 1) vs2) (by (repeat (first | with_reducible exact At.here | with_reducible apply At.there)))).cell 1; have bo : wx.cell? ⟨g, o, none⟩ = some (.slice A n c) := ((h.blkA (g := g) (t := 79) (cs := tabC now (last + 1) vs2) (by (repeat (first | with_reducible exact At.here | with_reducible apply At.there)))).cell o).trans HCO.out
                have f := (h.blkA (g := g) (t := 79) (cs := tabC now (last + 1) vs2) (by (repeat (first | with_reducible exact At.here | with_reducible apply At.there)))).frozen
                have h1 := (h.front (X := tabB g now (last + 1) vs2) (by (repeat (first | with_reducible exact At.here | with_reducible apply At.there)))).put_ o (.slice (e 17).A (n + 1) (e 17).n) (tabC now (last + 1) (upd vs2 i ⟨⟨(e 17).A, n + 1, (e 17).n⟩, (vs2 i).w⟩)) (by rw [HO.out]; exact tabC_seth now (last + 1) vs2 hi4 ⟨(e 17).A, n + 1, (e 17).n⟩)
                have hk : St M0 _ (blkR y 87 #[.int .i64 x.c, .int .i64 x.m] :: blkR (e 16).n 91 #[.int .i64 x.c, .int .i64 x.m, .int .u64 (last + 1), .int .u64 (untilI now)] :: ownR holdC 91 4 (.slice (e 17).A (n + 1) (e 17).n) (hs ++ [(⟨x.c, x.m, last + 1, untilI now⟩ : HoldM)]) :: tabB g now (last + 1) (upd vs2 i ⟨⟨(e 17).A, n + 1, (e 17).n⟩, (vs2 i).w⟩) :: Lx) := h1.sub (by (repeat (first | with_reducible exact Sub.refl _ | (with_reducible apply Sub.take; focus (repeat (first | with_reducible exact At.here | with_reducible apply At.there))) | with_reducible apply Sub.drop)))
                exact ⟨_, (by (go_simp; try rfl)), hk⟩)) ?_
              simp only [Act.put]
              refine flow_nil ?_
              intro e w1 h
              have h : St M0 w1 (blkR y 87 #[.int .i64 x.c, .int .i64 x.m] :: blkR (e 16).n 91 #[.int .i64 x.c, .int .i64 x.m, .int .u64 (last + 1), .int .u64 (untilI now)] :: ownR holdC 91 4 (.slice (e 17).A (n + 1) (e 17).n) (hs ++ [(⟨x.c, x.m, last + 1, untilI now⟩ : HoldM)]) :: tabB g now (last + 1) (upd vs2 i ⟨⟨(e 17).A, n + 1, (e 17).n⟩, (vs2 i).w⟩) :: wantsR ⟨B', mm, dd⟩ ws :: othT vs r i :: L) := h
              obtain ⟨A', hA'⟩ : ∃ A', (e 17).A = A' := ⟨_, rfl⟩
              obtain ⟨c', hc'⟩ : ∃ c', (e 17).n = c' := ⟨_, rfl⟩
              have h5 := h.sub (L' := tabB g now (last + 1) (upd vs2 i ⟨⟨(e 17).A, n + 1, (e 17).n⟩, (vs2 i).w⟩) :: ownR holdC 91 4 (.slice (e 17).A (n + 1) (e 17).n) (hs ++ [(⟨x.c, x.m, last + 1, untilI now⟩ : HoldM)]) :: wantsR ⟨B', mm, dd⟩ ws :: othT vs r i :: L) (by (repeat (first | with_reducible exact Sub.refl _ | (with_reducible apply Sub.take; focus (repeat (first | with_reducible exact At.here | with_reducible apply At.there))) | with_reducible apply Sub.drop)))
              rw [hA', hc'] at h5
              have H5 := hide h5
              clear h0 h h5 hA' hc'
              go_wp2_with fail
              go_roundg ws.length
              case measure => have := HG.out; simp at this; omega
              case rel => exact ⟨_, ⟨A', n + 1, c'⟩, ⟨B', mm, dd⟩, _, ws, last + 1, rfl, HGV2.out, by rw [updT_same, HV2.out], fun j hj => by rw [updT_ne _ _ hj]; exact HOT2.out j hj, by omega, by omega, H5.out⟩
          · have hd1 : decide (last < 18446744073709551615) = false := decide_eq_false hl
            have E := hide (EX.out (fun hy => hl hy.2.2))
            have H2 := hide h2
            clear h2 H1 hany
            go_wp2_with fail
            go_end0
            refine ⟨rfl, ?_⟩
            rw [E.out]
            exact H2.out.tabV hi4 HVI.out HOT.out
      · have n4 : decide ((n : Int) < 4) = false := decide_eq_false (by omega)
        have E := hide (EX.out (fun hy => h4 (by rw [HN.out]; exact hy.1)))
        have H1 := hide h
        clear h
        go_wp2_with fail
        go_end0
        refine ⟨rfl, ?_⟩
        rw [E.out]
        exact H1.out.tabV hi4 HVI.out HOT.out
end Go.Proofs.Ytbgknfdaaffeaaa
