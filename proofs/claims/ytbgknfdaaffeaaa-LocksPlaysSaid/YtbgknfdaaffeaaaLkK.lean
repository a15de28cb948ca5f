/- Locks: Asked. -/
import Derived.Test.YtbgknfdaaffeaaaLkI
namespace Go.Proofs.Ytbgknfdaaffeaaa
open Go.RowKit Go.Shelf

theorem intK_row : ElemOf Try.prog 25 3 (.int .i64 0) 1 8 := ⟨Try.underlying25, by kernel_rfl, by kernel_rfl, by omega⟩
set_option maxHeartbeats 4000000 in
set_option maxRecDepth 100000 in
theorem asked_st {M0 : Imm} {L : List Res} (g : Nat) (T : TabM) (r : Int) (w : World) (hok : TabOk T) (h : St M0 w (tabR g T :: L)) :
    Calls Try.prog 87 #[.pointer (some ⟨g, 0, none⟩), .int .i64 r] w fun e w' => ∃ v, e = .returned v ∧ St M0 w' (intsR .i64 v (T.asked r) :: tabR g T :: L) := by
  have H := hide h
  have HOK := hide hok
  clear h hok
  go_enter Try.func87, Try.ntmps87
  go_wp2_with fail
  refine (there_st r _ H.out).mono ?_
  rintro e w1 ⟨rfl, h1⟩
  cases ht : thereB r with
  | false =>
    have E := hide (show T.asked r = [] from if_neg (by rw [ht]; exact Bool.false_ne_true))
    have H1 := hide h1
    clear h1 H ht
    go_wp2_with fail
    go_ret
    exact ⟨_, rfl, by rw [E.out]; exact H1.out.pers0 (fun w' _ => Ints.none_ w' _)⟩
  | true =>
    obtain ⟨i, rfl, hi4⟩ := there_ok ht
    have E0 := hide (show T.asked (i : Int) = match (T.r i).w with
      | [] => []
      | w :: _ => ((T.r i).h.filter (hardB w.m)).map HoldM.c from if_pos ht)
    obtain ⟨vs, h3⟩ := h1.tabO hi4
    obtain ⟨⟨A, n, cc⟩, ⟨B, m, d⟩, hvi⟩ : ∃ hv wv, vs i = ⟨hv, wv⟩ := ⟨_, _, rfl⟩
    have HVI := hide hvi
    rw [show (vs i).h = ⟨A, n, cc⟩ by rw [hvi], show (vs i).w = ⟨B, m, d⟩ by rw [hvi]] at h3
    have HTH := hide (show (tabC T.now T.last vs)[2 + i * 2]? = some (.slice A n cc) by refine (tabC_h T.now T.last vs hi4).trans ?_; rw [hvi])
    have HTW := hide (show (tabC T.now T.last vs)[2 + i * 2 + 1]? = some (.slice B m d) by refine (tabC_w T.now T.last vs hi4).trans ?_; rw [hvi])
    have cw : w1.cell? ⟨g, 2 + i * 2 + 1, none⟩ = some (.slice B m d) := ((h3.blk 0 rfl).cell (2 + i * 2 + 1)).trans HTW.out
    obtain ⟨hn, hncc, hccm, _⟩ := (h3.flatO (C := holdC) (e := 91) (size := 4) (v := .slice A n cc) (xs := (T.r i).h) (by (repeat (first | with_reducible exact At.here | with_reducible apply At.there)))).sl
    obtain ⟨hmw, hmd, hdm, _⟩ := (h3.flatK (C := wantC) (size := 2) (v := .slice B m d) (xs := (T.r i).w) (by (repeat (first | with_reducible exact At.here | with_reducible apply At.there)))).sl
    have hh4 := HOK.out.hl i hi4
    have hn4 : n ≤ 4 := by omega
    have HN := hide hn
    have i0 : (0 : Int) ≤ (i : Int) := by omega
    have i1 : (i : Int) < 4 := by omega
    have HMW := hide hmw
    clear h1 H hvi ht hn hh4 hmw
    cases hws : (T.r i).w with
    | nil =>
      have hm0 : m = 0 := by have := HMW.out; rw [hws] at this; exact this
      subst hm0
      have E := hide (E0.out.trans (by rw [hws]))
      have H3 := hide (h3.tabBack hi4 HVI.out)
      clear h3 hws E0
      go_wp2_with fail
      go_ret
      exact ⟨_, rfl, by rw [E.out]; exact H3.out.pers0 (fun w' _ => Ints.none_ w' _)⟩
    | cons x ws =>
      have hm1 : m = ws.length + 1 := by have := HMW.out; rw [hws] at this; exact this
      have m0 : (0 : Int) < (m : Int) := by omega
      have m1 : ((m : Int) == 0) = false := isF (by omega)
      have HE := hide (E0.out.trans (show _ = ((T.r i).h.filter (hardB x.m)).map HoldM.c by rw [hws]))
      rw [hws] at h3
      obtain ⟨ad, rfl, hcs⟩ := (h3.flatK (C := wantC) (size := 2) (v := .slice B m d) (xs := x :: ws) (by (repeat (first | with_reducible exact At.here | with_reducible apply At.there)))).at_ wantC_len (k := 0) (x := x) rfl
      rw [addW0] at hcs
      obtain ⟨e0, e1⟩ := cells2F hcs
      have h4 := h3.alloc 87 #[.int .i64 x.c, .int .i64 x.m]
      have ch : (w1.alloc (.cells #[.int .i64 x.c, .int .i64 x.m] 87)).cell? ⟨g, 2 + i * 2, none⟩ = some (.slice A n cc) := ((h4.blk 1 rfl).cell (2 + i * 2)).trans HTH.out
      generalize hy : w1.heap.size = y at h4
      have HY := hide hy
      have HWS := hide hws
      have H4 := hide (h4.nilRow 3 1)
      clear h3 h4 hcs E0 hws hm1 hy
      go_wp2_with fail
      rw [HY.out]
      clear ch cw e0 e1 HY
      go_loopg [5, 40] n (fun gh ov iv wr => ∃ (k q : Nat) (C : Option Addr) (ce : Nat) (xs : List Int), gh = n - k ∧ k ≤ n ∧ ov = .slice C q ce ∧ iv = .int .i64 (k : Nat) ∧ q = xs.length ∧ q ≤ k ∧ xs = (((T.r i).h.take k).filter (hardB x.m)).map HoldM.c ∧
        St M0 wr (rowR 3 1 (.slice C q ce) q (xs.map (.int .i64)) :: blkR y 87 #[.int .i64 x.c, .int .i64 x.m] :: tabB g T.now T.last vs :: holdsR ⟨A, n, cc⟩ (T.r i).h :: wantsR ⟨some ad, m, d⟩ (x :: ws) :: othT vs T.r i :: L))
      case atStart => exact ⟨0, 0, none, 0, [], rfl, by omega, rfl, rfl, rfl, by omega, rfl, H4.out⟩
      case round =>
        clear H4
        obtain ⟨k, q, C, ce, xs, hg, hk, rfl, rfl, hq, hqk, hxs, h⟩ := hrel
        have HG := hide hg
        have HQ := hide hq
        have HXS := hide hxs
        clear hg hq hxs
        by_cases hlt : k < n
        · have hx := List.getElem?_eq_getElem (l := (T.r i).h) (i := k) (by rw [← HN.out]; exact hlt)
          generalize (T.r i).h[k]'(by rw [← HN.out]; exact hlt) = z at hx
          obtain ⟨ad2, rfl, hcs⟩ := (h.flatO (C := holdC) (e := 91) (size := 4) (v := .slice A n cc) (xs := (T.r i).h) (by (repeat (first | with_reducible exact At.here | with_reducible apply At.there)))).at_ holdC_len hx
          obtain ⟨e0, e1, e2, e3⟩ := cells4F hcs
          have HT := hide (show (((T.r i).h.take (k + 1)).filter (hardB x.m)).map HoldM.c = xs ++ if hardB x.m z = true then [z.c] else [] by
            rw [List.take_add_one, hx, List.filter_append, List.map_append, ← HXS.out]
            show xs ++ (List.filter (hardB x.m) [z]).map HoldM.c = _
            cases hb : hardB x.m z <;> simp [List.filter, hb])
          have h4 := h.alloc 91 #[.int .i64 z.c, .int .i64 z.m, .int .u64 z.t, .int .u64 z.u]
          have y1 : (wr.alloc (.cells #[.int .i64 z.c, .int .i64 z.m, .int .u64 z.t, .int .u64 z.u] 91)).cell? ⟨y, 1, none⟩ = some (.int .i64 x.m) := (h4.blk 2 rfl).cell 1
          have k0 : (0 : Int) ≤ (k : Int) := by omega
          have k1 : (k : Int) < (n : Int) := by omega
          obtain ⟨d1, hd1⟩ : ∃ d1, (z.m == 2) = d1 := ⟨_, rfl⟩
          obtain ⟨d2, hd2⟩ : ∃ d2, (x.m == 2) = d2 := ⟨_, rfl⟩
          have hhb : hardB x.m z = (d1 || d2) := by unfold hardB; rw [hd1, hd2]
          cases hb : (d1 || d2) with
          | true =>
            have HT2 := hide (show (((T.r i).h.take (k + 1)).filter (hardB x.m)).map HoldM.c = xs ++ [z.c] by rw [HT.out, hhb, hb]; rfl)
            have h5 := ((h4.front (X := rowR 3 1 (.slice C q ce) q (xs.map (.int .i64))) (by (repeat (first | with_reducible exact At.here | with_reducible apply At.there)))).alloc 3 #[.int .i64 z.c]).swap
            rw [World.size_alloc] at h5
            have HB := hide (h5.blk 1 rfl)
            have H5 := hide h5
            clear h h4 h5 hx hcs HT hhb
            cases d1 <;> cases d2 <;> first | cases hb | skip
            all_goals
              go_wp2_with (at_builtin; refine St.app_step intK_row H5.out rfl _ _ rfl rfl (some ⟨wr.heap.size + 1, 0, none⟩) 1 1 rfl [.int .i64 z.c] (sl_blkT (cs := [.int .i64 z.c]) HB.out) (by intro u hu; simp at hu; subst hu; rfl) (by omega) (by omega) ?_; intro A6 c6 w7 h9)
              have h10 := h9.sub (L' := rowR 3 1 (.slice A6 (q + 1) c6) (q + 1) (xs.map (.int .i64) ++ [.int .i64 z.c]) :: blkR y 87 #[.int .i64 x.c, .int .i64 x.m] :: tabB g T.now T.last vs :: holdsR ⟨some ad2, n, cc⟩ (T.r i).h :: wantsR ⟨some ad, m, d⟩ (x :: ws) :: othT vs T.r i :: L) (by (repeat (first | with_reducible exact Sub.refl _ | (with_reducible apply Sub.take; focus (repeat (first | with_reducible exact At.here | with_reducible apply At.there))) | with_reducible apply Sub.drop)))
              rw [show xs.map (Value.int .i64) ++ [.int .i64 z.c] = (xs ++ [z.c]).map (.int .i64) by rw [List.map_append]; rfl] at h10
              have H10 := hide h10
              clear h9 h10 H5 HB y1 e0 e1 e2 e3
              go_wp2_with fail
              go_roundg (n - (k + 1))
              case measure => have := HG.out; omega
              case rel => exact ⟨k + 1, q + 1, A6, c6, xs ++ [z.c], rfl, by omega, rfl, by go_num, by rw [List.length_append, ← HQ.out]; rfl, by omega, HT2.out.symm, H10.out⟩
          | false =>
            have HT2 := hide (show (((T.r i).h.take (k + 1)).filter (hardB x.m)).map HoldM.c = xs by rw [HT.out, hhb, hb]; exact List.append_nil _)
            have H5 := hide h4.tail
            clear h h4 hx hcs HT hhb
            cases d1 <;> cases d2 <;> first | cases hb | skip
            go_wp2_with fail
            go_roundg (n - (k + 1))
            case measure => have := HG.out; omega
            case rel => exact ⟨k + 1, q, C, ce, xs, rfl, by omega, rfl, by go_num, HQ.out, by omega, HT2.out.symm, H5.out⟩
        · obtain rfl : n = k := by omega
          have E := hide (HE.out.trans (show _ = xs by rw [HXS.out, List.take_of_length_le (by rw [← HN.out]; exact Nat.le_refl _)]))
          have h5 := (St.ints (xs := xs) h).sub (L' := tabB g T.now T.last vs :: holdsR ⟨A, n, cc⟩ (T.r i).h :: wantsR ⟨some ad, m, d⟩ (x :: ws) :: othT vs T.r i :: intsR .i64 (.slice C q ce) xs :: L) (by (repeat (first | with_reducible exact Sub.refl _ | (with_reducible apply Sub.take; focus (repeat (first | with_reducible exact At.here | with_reducible apply At.there))) | with_reducible apply Sub.drop)))
          rw [← HWS.out] at h5
          have H5 := hide (h5.tabBack hi4 HVI.out).swap
          clear h h5
          go_wp2_with fail
          go_ret
          exact ⟨_, rfl, by rw [E.out]; exact H5.out⟩
end Go.Proofs.Ytbgknfdaaffeaaa
