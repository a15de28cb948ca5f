/- Locks: Acquire. -/
import Derived.Test.YtbgknfdaaffeaaaLkR
namespace Go.Proofs.Ytbgknfdaaffeaaa
open Go.RowKit Go.Shelf

theorem St.full_step {P : Program} {M0 : Imm} {w : World} {L : List Res} {t e : TypeId} {z : Value} {size bytes n : Nat} {xs : List Value} {ops : Array Oper} {rest : List Oper} {o : Oper} {ac : Act} {Q : Exit → Act → World → Prop} (hE : ElemOf P t e z size bytes) (h : St M0 w L) (hgd : o.guard = none) (s x : Operand)
    (ho : o.op = .call { callee := .builtin .append, args := #[s, x], argTypes := #[t, t] }) {B : Option Addr} (hs : ac.eval s = .slice B n n) (hxs : Sl w Any size B n xs)
    (A : Option Addr) (m c : Nat) (hx : ac.eval x = .slice A m c) (ys : List Value) (hy : Sl w Any size A m ys) (h1 : ∀ u ∈ ys, u.oneCell' = true) (hm : 0 < m)
    (hb : (n + m) * bytes ≤ 140737488355328) (hn : n + m ≤ 140737488355328)
    (k : ∀ A' c' w', St M0 w' (rowR e size (.slice A' (n + m) c') (n + m) (xs ++ ys) :: L) → wpList P ops Q rest (ac.put o.dst (.slice A' (n + m) c')) w') : wpList P ops Q (o :: rest) ac w := by
  obtain ⟨v', w', hrun, h2⟩ := St.run_full hE h o.type hxs A m c ys hy h1 hm hb hn
  obtain ⟨A', c', rfl⟩ := h2.slice
  refine wpList_plain hgd fun K hK => ?_
  unfold Oper.wp execOp
  simp only [ho, resolve, invoke, builtin, Sem.run_bind, Sem.run_pure, Result.andThen_ok, List.map_toArray, List.map_cons, List.map_nil, hs, hx, hrun]
  exact hK _ _ (k A' c' w' h2)
theorem clipW (A : Option Addr) (n c : Nat) (w : World) (_hn : n ≤ c) (_hc : c ≤ 9223372036854775807) : Calls Try.prog 97 #[.slice A n c] w fun e w' => e = .returned (.slice A n n) ∧ w = w' := by
  go_enter Try.func97, Try.ntmps97
  go_wp2
  go_ret
  exact ⟨rfl, rfl⟩
theorem give_setW (T : TabM) (i : Nat) (ws : List WantM) : (T.setW i ws).give i = ⟨T.now, (giveL T.now ws (T.r i).h T.last).2.2, upd T.r i ⟨(giveL T.now ws (T.r i).h T.last).2.1, (giveL T.now ws (T.r i).h T.last).1⟩⟩ := by
  unfold TabM.give TabM.setW
  simp only [updT_same, updT_upd]
theorem give_setH (T : TabM) (i : Nat) (hs : List HoldM) : (T.setH i hs).give i = ⟨T.now, (giveL T.now (T.r i).w hs T.last).2.2, upd T.r i ⟨(giveL T.now (T.r i).w hs T.last).2.1, (giveL T.now (T.r i).w hs T.last).1⟩⟩ := by
  unfold TabM.give TabM.setH
  simp only [updT_same, updT_upd]
/-- the table as it was -/
theorem St.tabBack {M0 : Imm} {w : World} {L : List Res} {g i : Nat} {T : TabM} {vs : Nat → RegV} {hv wv : SlV} (hi : i < 4) (hvi : vs i = ⟨hv, wv⟩) (h : St M0 w (tabB g T.now T.last vs :: holdsR hv (T.r i).h :: wantsR wv (T.r i).w :: othT vs T.r i :: L)) : St M0 w (tabR g T :: L) := by
  have h5 := h.tabV hi hvi (fun _ _ => rfl)
  rwa [tab_self T i] at h5
set_option maxHeartbeats 4000000 in
set_option maxRecDepth 100000 in
theorem acquire_st {M0 : Imm} {L : List Res} (g : Nat) (T : TabM) (c r how : Int) (w : World) (hok : TabOk T) (h : St M0 w (tabR g T :: L)) :
    Calls Try.prog 46 #[.pointer (some ⟨g, 0, none⟩), .int .i64 c, .int .i64 r, .int .i64 how] w fun e w' => e = .returned (.tuple #[.int .u64 (T.acquire c r how).2.1, .int .i64 (T.acquire c r how).2.2]) ∧ St M0 w' (tabR g (T.acquire c r how).1 :: L) := by
  have H := hide h
  obtain ⟨av, hav⟩ : ∃ av, av = T.acquire c r how := ⟨_, rfl⟩
  rw [← hav]
  have HAV := hide hav
  have HOK := hide hok
  clear h hav hok
  go_enter Try.func46, Try.ntmps46
  go_wp2_with fail
  refine (right_st c r _ H.out).mono ?_
  rintro e w1 ⟨rfl, h1⟩
  by_cases hr : rightE c r = 0
  · have HA1 := hide (HAV.out.trans (show T.acquire c r how = if modeB how = false then (T, 0, 91) else T.acqIn c r.toNat how from if_neg (by rw [hr]; simp)))
    have hb := rightE_ok hr
    rw [hr]
    have H1 := hide h1
    clear h1 H hr
    go_wp2_with fail
    refine (mode_st how _ H1.out).mono ?_
    rintro e w2 ⟨rfl, h2⟩
    cases hm : modeB how with
    | false =>
      have E := hide (HA1.out.trans (if_pos hm))
      have H2 := hide h2
      clear h2 H1 hm
      go_wp2_with fail
      go_ret2
      exact ⟨by rw [E.out]; try rfl, by rw [E.out]; exact H2.out⟩
    | true =>
      obtain ⟨i, rfl⟩ := Int.eq_ofNat_of_zero_le hb.2.2.1
      have hi4 : i < 4 := by omega
      have HA2 := hide (HA1.out.trans (show _ = T.acqIn c i how from if_neg (by rw [hm]; exact Bool.noConfusion)))
      obtain ⟨vs, h3⟩ := h2.tabO hi4
      obtain ⟨⟨A, n, cc⟩, ⟨B, m, d⟩, hvi⟩ : ∃ hv wv, vs i = ⟨hv, wv⟩ := ⟨_, _, rfl⟩
      have HVI := hide hvi
      rw [show (vs i).h = ⟨A, n, cc⟩ by rw [hvi], show (vs i).w = ⟨B, m, d⟩ by rw [hvi]] at h3
      have HTH := hide (show (tabC T.now T.last vs)[2 + i * 2]? = some (.slice A n cc) by refine (tabC_h T.now T.last vs hi4).trans ?_; rw [hvi])
      have HTW := hide (show (tabC T.now T.last vs)[2 + i * 2 + 1]? = some (.slice B m d) by refine (tabC_w T.now T.last vs hi4).trans ?_; rw [hvi])
      have ch : w2.cell? ⟨g, 2 + i * 2, none⟩ = some (.slice A n cc) := ((h3.blk 0 rfl).cell (2 + i * 2)).trans HTH.out
      have i0 : (0 : Int) ≤ (i : Int) := by omega
      have i1 : (i : Int) < 4 := by omega
      have H3 := hide h3
      clear h2 h3 H1 hm hvi HA1 hb
      go_wp2_with fail
      refine (holdAt_st g (2 + i * 2) A n cc (T.r i).h c _ ch (fun W hW => hW.flatO (by (repeat (first | with_reducible exact At.here | with_reducible apply At.there)))) H3.out).mono ?_
      rintro e w3 ⟨rfl, h4⟩
      clear ch
      have cw : w3.cell? ⟨g, 2 + i * 2 + 1, none⟩ = some (.slice B m d) := ((h4.blk 0 rfl).cell (2 + i * 2 + 1)).trans HTW.out
      have H4 := hide h4
      obtain ⟨zh, hzh⟩ : ∃ zh, zh = idxL (fun h : HoldM => h.c == c) 0 (T.r i).h := ⟨_, rfl⟩
      have HZH := hide (show (zh = -1 ∧ findH (T.r i).h c = none) ∨ ∃ (k : Nat) (x : HoldM), zh = (k : Int) ∧ (T.r i).h[k]? = some x ∧ findH (T.r i).h c = some x by
        rw [hzh]
        rcases idxL_find (fun h : HoldM => h.c == c) (T.r i).h with ⟨a, b⟩ | ⟨k, x, a, b, _, d, _⟩
        · exact .inl ⟨a, b⟩
        · exact .inr ⟨k, x, a, b, d⟩)
      rw [← hzh]
      clear h4 H3 hzh
      go_wp2_with fail
      refine (wantAt_st g (2 + i * 2) B m d (T.r i).w c _ cw (fun W hW => hW.flatK (by (repeat (first | with_reducible exact At.here | with_reducible apply At.there)))) H4.out).mono ?_
      rintro e w4 ⟨rfl, h5⟩
      clear cw
      obtain ⟨zw, hzw⟩ : ∃ zw, zw = idxL (fun w : WantM => w.c == c) 0 (T.r i).w := ⟨_, rfl⟩
      have HZW := hide (show (zw = -1 ∧ findW (T.r i).w c = none) ∨ ∃ (k : Nat) (x : WantM), zw = (k : Int) ∧ (T.r i).w[k]? = some x ∧ findW (T.r i).w c = some x by
        rw [hzw]
        rcases idxL_find (fun w : WantM => w.c == c) (T.r i).w with ⟨a, b⟩ | ⟨k, x, a, b, _, d, _⟩
        · exact .inl ⟨a, b⟩
        · exact .inr ⟨k, x, a, b, d⟩)
      rw [← hzw]
      have ch : w4.cell? ⟨g, 2 + i * 2, none⟩ = some (.slice A n cc) := ((h5.blk 0 rfl).cell (2 + i * 2)).trans HTH.out
      have cw : w4.cell? ⟨g, 2 + i * 2 + 1, none⟩ = some (.slice B m d) := ((h5.blk 0 rfl).cell (2 + i * 2 + 1)).trans HTW.out
      have c1 : w4.cell? ⟨g, 1, none⟩ = some (.int .u64 T.last) := (h5.blk 0 rfl).cell 1
      obtain ⟨hn, hncc, hccm, _⟩ := (h5.flatO (C := holdC) (e := 91) (size := 4) (v := .slice A n cc) (xs := (T.r i).h) (by (repeat (first | with_reducible exact At.here | with_reducible apply At.there)))).sl
      obtain ⟨hmw, hmd, hdm, hsw⟩ := (h5.flatK (C := wantC) (size := 2) (v := .slice B m d) (xs := (T.r i).w) (by (repeat (first | with_reducible exact At.here | with_reducible apply At.there)))).sl
      have HN := hide hn
      have HMW := hide hmw
      clear H4 hzw hn hmw
      rcases HZH.out with ⟨rfl, hf⟩ | ⟨k, x, rfl, hk, hf⟩
      · have hneg : decide ((-1 : Int) ≥ 0) = false := by decide
        rcases HZW.out with ⟨rfl, hfw⟩ | ⟨q, y, rfl, hq, hfw⟩
        · have EX := hide (HA2.out.trans (show T.acqIn c i how = if 4 ≤ (T.r i).w.length ∨ T.last = 18446744073709551615 then (T, 0, 42) else T.acqNew c i how by unfold TabM.acqIn; rw [hf]; simp only [hfw]))
          clear hf hfw HZH HZW
          by_cases hfull : 4 ≤ (T.r i).w.length ∨ T.last = 18446744073709551615
          · have E := hide (EX.out.trans (if_pos hfull))
            have H5 := hide (h5.tabBack hi4 HVI.out)
            clear h5 hsw EX
            by_cases h4 : 4 ≤ m
            · have d1 : decide ((m : Int) ≥ 4) = true := decide_eq_true (by omega)
              have d2 : decide ((4 : Int) ≤ (m : Int)) = true := d1
              clear hfull
              go_wp2_with fail
              go_ret2
              exact ⟨by rw [E.out]; try rfl, by rw [E.out]; exact H5.out⟩
            · have d1 : decide ((m : Int) ≥ 4) = false := decide_eq_false (by omega)
              have d2 : decide ((4 : Int) ≤ (m : Int)) = false := d1
              have hl : T.last = 18446744073709551615 := by
                rcases hfull with hh | hh
                · rw [← HMW.out] at hh
                  exact absurd hh h4
                · exact hh
              have d3 : (T.last == 18446744073709551615) = true := isT hl
              obtain ⟨la, hla⟩ : ∃ la, la = T.last := ⟨_, rfl⟩
              rw [← hla] at d3 c1
              clear hfull hl hla
              go_wp2_with fail
              go_ret2
              exact ⟨by rw [E.out]; try rfl, by rw [E.out]; exact H5.out⟩
          · have E := hide (EX.out.trans (if_neg hfull))
            have h4 : m < 4 := by have := HMW.out; omega
            have d1 : decide ((m : Int) ≥ 4) = false := decide_eq_false (by omega)
            have d2 : decide ((4 : Int) ≤ (m : Int)) = false := d1
            have d3 : (T.last == 18446744073709551615) = false := isF (fun e => hfull (.inr e))
            have H5 := hide h5
            have HS := hide hsw
            obtain ⟨la, hla⟩ : ∃ la, la = T.last := ⟨_, rfl⟩
            rw [← hla] at d3 c1
            have HLA := hide hla
            clear hfull EX h5 hsw hla
            go_wp2_with fail
            refine (clipW B m d w4 hmd hdm).mono ?_
            rintro e w5 ⟨rfl, rfl⟩
            have h6 := H5.out.alloc 87 #[.int .i64 c, .int .i64 how]
            have HB := hide (h6.blk 0 rfl)
            have H6 := hide h6
            have HS6 := hide (HS.out.non ((Fr.refl Non w4).alloc (.cells #[.int .i64 c, .int .i64 how] 87)))
            clear H5 HS h6
            go_wp2_with (at_builtin; refine St.full_step want_elem H6.out rfl _ _ rfl rfl HS6.out (some ⟨w4.heap.size, 0, none⟩) 1 1 rfl [.int .i64 c, .int .i64 how] (sl_blkT (cs := [.int .i64 c, .int .i64 how]) HB.out) (want_one ⟨c, how⟩) (by omega) (by omega) (by omega) ?_; intro A6 c6 w6 h7; have cw6 : w6.cell? ⟨g, 2 + i * 2 + 1, none⟩ = some (.slice B m d) := ((h7.blkA (g := g) (t := 79) (cs := tabC T.now T.last vs) (by (repeat (first | with_reducible exact At.here | with_reducible apply At.there)))).cell (2 + i * 2 + 1)).trans HTW.out; have f6 := (h7.blkA (g := g) (t := 79) (cs := tabC T.now T.last vs) (by (repeat (first | with_reducible exact At.here | with_reducible apply At.there)))).frozen)
            obtain ⟨ws, hws⟩ : ∃ ws, ws = (T.r i).w ++ [⟨c, how⟩] := ⟨_, rfl⟩
            have h8 := (St.ownSnoc (C := wantC) (x := ⟨c, how⟩) h7 HMW.out).ownKeep
            rw [← hws] at h8
            obtain ⟨vs2, hvs2⟩ : ∃ vs2, vs2 = upd vs i ⟨(vs i).h, ⟨A6, m + 1, c6⟩⟩ := ⟨_, rfl⟩
            have h9 := (h8.front (X := tabB g T.now T.last vs) (by (repeat (first | with_reducible exact At.here | with_reducible apply At.there)))).put_ (2 + i * 2 + 1) (.slice A6 (m + 1) c6) (tabC T.now T.last vs2) (by rw [hvs2]; exact tabC_setw T.now T.last vs hi4 ⟨A6, m + 1, c6⟩)
            have h10 := h9.sub (L' := tabB g T.now T.last vs2 :: holdsR ⟨A, n, cc⟩ (T.r i).h :: wantsR ⟨A6, m + 1, c6⟩ ws :: othT vs T.r i :: L) (by (repeat (first | with_reducible exact Sub.refl _ | (with_reducible apply Sub.take; focus (repeat (first | with_reducible exact At.here | with_reducible apply At.there))) | with_reducible apply Sub.drop)))
            rw [show (⟨A, n, cc⟩ : SlV) = (vs2 i).h by rw [hvs2, updT_same, HVI.out], show (⟨A6, m + 1, c6⟩ : SlV) = (vs2 i).w by rw [hvs2, updT_same], show othT vs T.r i = othT vs2 T.r i from othT_congr (fun j hj => by rw [hvs2, updT_ne _ _ hj]) (fun _ _ => rfl)] at h10
            have H10 := hide h10
            have HWS := hide hws
            clear h7 h8 h9 h10 H6 HS6 HB hvs2 hws ch cw c1 d1 d2 d3 cw6 f6
            try go_wp2_with fail
            refine (give_st g i T.now T.last T.r (T.r i).h ws vs2 _ hi4 ⟨HOK.out.now0, HOK.out.now1⟩ ⟨HOK.out.last0, HOK.out.last1⟩ H10.out).mono ?_
            rintro e w7 ⟨rfl, h11⟩
            obtain ⟨T2, hT2⟩ : ∃ T2, T2 = (T.setW i ((T.r i).w ++ [⟨c, how⟩])).give i := ⟨_, rfl⟩
            rw [← give_setW, HWS.out, ← hT2] at h11
            have E2 := hide (show av = match findH (T2.r i).h c with
              | some h => (T2, h.t, 0)
              | none => (T2, 0, 90) by rw [hT2]; exact E.out)
            obtain ⟨vs3, h12⟩ := h11.tabO hi4
            obtain ⟨⟨A, n, cc⟩, ⟨B, m, d⟩, hvi⟩ : ∃ hv wv, vs3 i = ⟨hv, wv⟩ := ⟨_, _, rfl⟩
            have HVI := hide hvi
            rw [show (vs3 i).h = ⟨A, n, cc⟩ by rw [hvi], show (vs3 i).w = ⟨B, m, d⟩ by rw [hvi]] at h12
            have HTH := hide (show (tabC T2.now T2.last vs3)[2 + i * 2]? = some (.slice A n cc) by refine (tabC_h T2.now T2.last vs3 hi4).trans ?_; rw [hvi])
            have ch : w7.cell? ⟨g, 2 + i * 2, none⟩ = some (.slice A n cc) := ((h12.blk 0 rfl).cell (2 + i * 2)).trans HTH.out
            have H11 := hide h12
            clear h11 h12 H10 hT2 hvi E
            go_wp2_with fail
            refine (holdAt_st g (2 + i * 2) A n cc (T2.r i).h c _ ch (fun W hW => hW.flatO (by (repeat (first | with_reducible exact At.here | with_reducible apply At.there)))) H11.out).mono ?_
            rintro e w8 ⟨rfl, h13⟩
            clear ch
            rcases idxL_find (fun h : HoldM => h.c == c) (T2.r i).h with ⟨hz, hf⟩ | ⟨k, x, hz, hk, _, hf, _⟩
            · rw [hz]
              have E := hide (E2.out.trans (show _ = (T2, (0 : Int), (90 : Int)) by unfold findH; rw [hf]))
              have H13 := hide (h13.tabBack hi4 HVI.out)
              clear h13 H11 hz hf E2
              go_wp2_with fail
              go_ret2
              exact ⟨by rw [E.out]; try rfl, by rw [E.out]; exact H13.out⟩
            · rw [hz]
              have E := hide (E2.out.trans (show _ = (T2, x.t, (0 : Int)) by unfold findH; rw [hf]))
              have ch : w8.cell? ⟨g, 2 + i * 2, none⟩ = some (.slice A n cc) := ((h13.blk 0 rfl).cell (2 + i * 2)).trans HTH.out
              have hlk := (List.getElem?_eq_some_iff.1 hk).1
              obtain ⟨hn, hncc, hccm, _⟩ := (h13.flatO (C := holdC) (e := 91) (size := 4) (v := .slice A n cc) (xs := (T2.r i).h) (by (repeat (first | with_reducible exact At.here | with_reducible apply At.there)))).sl
              obtain ⟨ad, rfl, hcs⟩ := (h13.flatO (C := holdC) (e := 91) (size := 4) (v := .slice A n cc) (xs := (T2.r i).h) (by (repeat (first | with_reducible exact At.here | with_reducible apply At.there)))).at_ holdC_len hk
              obtain ⟨e0, e1, e2, e3⟩ := cells4F hcs
              have k0 : (0 : Int) ≤ (k : Int) := by omega
              have k1 : (k : Int) < (n : Int) := by omega
              have kg : decide ((k : Int) ≥ 0) = true := decide_eq_true k0
              have kg' : decide (0 ≤ (k : Int)) = true := kg
              have H13 := hide (h13.tabBack hi4 HVI.out)
              clear h13 H11 hz hf E2 hcs hk hn hlk
              go_wp2_with fail
              go_ret2
              exact ⟨by rw [E.out]; try rfl, by rw [E.out]; exact H13.out⟩
        · have EX := hide (HA2.out.trans (show T.acqIn c i how = if y.m = how then (T, 0, 90) else (T, 0, 91) by unfold TabM.acqIn; rw [hf]; simp only [hfw]))
          have hlq := (List.getElem?_eq_some_iff.1 hq).1
          obtain ⟨ad, rfl, hcs⟩ := (h5.flatK (C := wantC) (size := 2) (v := .slice B m d) (xs := (T.r i).w) (by (repeat (first | with_reducible exact At.here | with_reducible apply At.there)))).at_ wantC_len hq
          obtain ⟨e0, e1⟩ := cells2F hcs
          have k0 : (0 : Int) ≤ (q : Int) := by omega
          have k1 : (q : Int) < (m : Int) := by have := HMW.out; omega
          have kg : decide ((q : Int) ≥ 0) = true := decide_eq_true k0
          have kg' : decide (0 ≤ (q : Int)) = true := kg
          have H5 := hide (h5.tabBack hi4 HVI.out)
          clear h5 hcs hf hq hfw HZH HZW hsw hlq
          by_cases he : y.m = how
          · have b1 := isNF he
            have E := hide (EX.out.trans (if_pos he))
            clear he EX
            go_wp2_with fail
            go_ret2
            exact ⟨by rw [E.out]; try rfl, by rw [E.out]; exact H5.out⟩
          · have b1 := isN he
            have E := hide (EX.out.trans (if_neg he))
            clear he EX
            go_wp2_with fail
            go_ret2
            exact ⟨by rw [E.out]; try rfl, by rw [E.out]; exact H5.out⟩
      · have EX := hide (HA2.out.trans (show T.acqIn c i how = if x.m = how then (T, x.t, 0) else (T, 0, 91) by unfold TabM.acqIn; rw [hf]))
        have hlk := (List.getElem?_eq_some_iff.1 hk).1
        obtain ⟨ad, rfl, hcs⟩ := (h5.flatO (C := holdC) (e := 91) (size := 4) (v := .slice A n cc) (xs := (T.r i).h) (by (repeat (first | with_reducible exact At.here | with_reducible apply At.there)))).at_ holdC_len hk
        obtain ⟨e0, e1, e2, e3⟩ := cells4F hcs
        have k0 : (0 : Int) ≤ (k : Int) := by omega
        have k1 : (k : Int) < (n : Int) := by have := HN.out; omega
        have kg : decide ((k : Int) ≥ 0) = true := decide_eq_true k0
        have kg' : decide (0 ≤ (k : Int)) = true := kg
        have H5 := hide (h5.tabBack hi4 HVI.out)
        clear h5 hcs hf hk HZH HZW hsw hlk
        by_cases he : x.m = how
        · have b1 := isT he
          have E := hide (EX.out.trans (if_pos he))
          clear he EX
          go_wp2_with fail
          go_ret2
          exact ⟨by rw [E.out]; try rfl, by rw [E.out]; exact H5.out⟩
        · have b1 := isF he
          have E := hide (EX.out.trans (if_neg he))
          clear he EX
          go_wp2_with fail
          go_ret2
          exact ⟨by rw [E.out]; try rfl, by rw [E.out]; exact H5.out⟩
  · have E := hide (HAV.out.trans (show T.acquire c r how = (T, 0, rightE c r) from if_pos hr))
    obtain ⟨z, hz⟩ : ∃ z, z = rightE c r := ⟨_, rfl⟩
    rw [← hz] at hr E ⊢
    have b1 := isN hr
    have H1 := hide h1
    clear h1 H hz hr
    go_wp2_with fail
    go_ret2
    exact ⟨by rw [E.out]; try rfl, by rw [E.out]; exact H1.out⟩
end Go.Proofs.Ytbgknfdaaffeaaa
