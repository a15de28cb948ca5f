/- Locks: LocksOrder. -/
import Derived.Test.YtbgknfdaaffeaaaLkN
import Derived.Test.YtbgknfdaaffeaaaLkW
namespace Go.Proofs.Ytbgknfdaaffeaaa
open Go.RowKit Go.Shelf

abbrev fourQ (s : Nat → SlV) : Array Value := #[.slice (s 0).a (s 0).n (s 0).c, .slice (s 1).a (s 1).n (s 1).c, .slice (s 2).a (s 2).n (s 2).c, .slice (s 3).a (s 3).n (s 3).c]
theorem fourQ_at (s : Nat → SlV) {k : Nat} (hk : k < 4) : (fourQ s)[k]? = some (.slice (s k).a (s k).n (s k).c) := by
  rcases lt4T hk with rfl | rfl | rfl | rfl <;> rfl
theorem fourQ_set (s : Nat → SlV) {k : Nat} (hk : k < 4) (u : SlV) : (fourQ s).setIfInBounds k (.slice u.a u.n u.c) = fourQ (upd s k u) := by
  rcases lt4T hk with rfl | rfl | rfl | rfl <;> rfl
def wasR (s : Nat → SlV) (T : TabM) (k : Nat) : Res := persR (fun w => ∀ j, j < k → FlatP wantC 2 w (.slice (s j).a (s j).n (s j).c) (T.r j).w)
theorem newT_oinv : OInv 0 newT := ⟨by decide, fun _ _ h => absurd rfl h⟩
set_option maxHeartbeats 8000000 in
set_option maxRecDepth 100000 in
theorem order_st {M0 : Imm} {L : List Res} (v : Value) (l : List OpL) (w : World) (hb : ∀ o ∈ l, o.n ≤ 18446744073709551615) (h : St M0 w (rowsR 6 OpLR v l :: L)) :
    Calls Try.prog 6 #[v] w fun e w' => e = .returned (.bool true) ∧ St M0 w' L := by
  obtain ⟨A, c, rfl, hc, hmx⟩ := (h.getRows 0 rfl).slice
  obtain ⟨n, hn⟩ : ∃ n, n = l.length := ⟨_, rfl⟩
  rw [← hn] at hc h ⊢
  have HN := hide hn
  have HB := hide hb
  have H := hide h
  clear h hn hb
  go_enter Try.func6, Try.ntmps6
  go_wp2_with fail
  refine (awakeL_st _ H.out).mono ?_
  rintro e w1 ⟨rfl, h1⟩
  have h2 := h1.newTab
  generalize hg : w1.heap.size = g at h2
  have HG0 := hide hg
  have H2 := hide h2
  clear h1 H h2 hg
  by_cases h200 : n ≤ 200
  · have d1 : decide ((n : Int) > 200) = false := decide_eq_false (by omega)
    have d1' : decide ((200 : Int) < (n : Int)) = false := d1
    go_wp2_with fail
    rw [HG0.out]
    go_loopg [5] n (fun gh iv wr => ∃ (i : Nat) (T : TabM), gh = n - i ∧ i ≤ n ∧ iv = .int .i64 (i : Nat) ∧ TabOk T ∧ OInv i T ∧ St M0 wr (tabR g T :: rowsR 6 OpLR (.slice A n c) l :: L))
    case atStart => exact ⟨0, newT, rfl, by omega, rfl, newT_ok, newT_oinv, H2.out⟩
    case round =>
      clear H2
      obtain ⟨i, T, hgh, hi, rfl, hok, hinv, h⟩ := hrel
      have HG := hide hgh
      clear hgh
      by_cases hlt : i < n
      · have hx := List.getElem?_eq_getElem (l := l) (i := i) (by rw [← HN.out]; exact hlt)
        generalize l[i]'(by rw [← HN.out]; exact hlt) = o at hx
        have hon := HB.out o (List.mem_of_getElem? hx)
        have i0 : (0 : Int) ≤ (i : Int) := by omega
        have i1 : (i : Int) < (n : Int) := by omega
        have h1 := h.alloc 80 (fourQ fun _ => ⟨none, 0, 0⟩)
        generalize hgw : wr.heap.size = gw at h1
        have HGW := hide hgw
        have H1 := hide (h1.pers0 (R := fun w => ∀ j, j < 0 → FlatP wantC 2 w (.slice none 0 0) (T.r j).w) (fun w' _ j hj => by omega))
        have HOK := hide hok
        have HINV := hide hinv
        have HON := hide hon
        have HX := hide hx
        clear h h1 hx hok hinv hon hgw
        go_wp2_with fail
        rw [HGW.out]
        clear HGW
        go_loopg [7] 4 (fun gh rv wr => ∃ (r : Nat) (s : Nat → SlV), gh = 4 - r ∧ r ≤ 4 ∧ rv = .int .i64 (r : Nat) ∧ St M0 wr (wasR s T r :: blkR gw 80 (fourQ s) :: tabR g T :: rowsR 6 OpLR (.slice A n c) l :: L))
        case atStart => exact ⟨0, fun _ => ⟨none, 0, 0⟩, rfl, by omega, rfl, H1.out⟩
        case round =>
          clear H1
          obtain ⟨r, s, hgr, hr, rfl, h⟩ := hrel
          have HGR := hide hgr
          have H4 := hide h
          clear hgr h
          by_cases hr4 : r < 4
          · have r0 : (0 : Int) ≤ (r : Int) := by omega
            have r1 : (r : Int) < 4 := by omega
            go_wp2_with fail
            refine (queue_st g T r _ HOK.out (H4.out.sub (L' := tabR g T :: wasR s T r :: blkR gw 80 (fourQ s) :: rowsR 6 OpLR (.slice A n c) l :: L) (by (repeat (first | with_reducible exact Sub.refl _ | (with_reducible apply Sub.take; focus (repeat (first | with_reducible exact At.here | with_reducible apply At.there))) | with_reducible apply Sub.drop))))).mono ?_
            rintro e w4 ⟨v4, rfl, h5⟩
            rw [queue_nat T hr4] at h5
            obtain ⟨A4, c4, rfl, _⟩ := (h5.flatK At.here).value
            obtain ⟨nh, hnh⟩ : ∃ nh, nh = (T.r r).w.length := ⟨_, rfl⟩
            rw [← hnh] at h5 ⊢
            have ch : w4.cell? ⟨gw, r, none⟩ = some (.slice (s r).a (s r).n (s r).c) := ((h5.blkA (g := gw) (t := 80) (cs := fourQ s) (by (repeat (first | with_reducible exact At.here | with_reducible apply At.there)))).cell r).trans (fourQ_at s hr4)
            have f := (h5.blkA (g := gw) (t := 80) (cs := fourQ s) (by (repeat (first | with_reducible exact At.here | with_reducible apply At.there)))).frozen
            have h6 := (h5.sub (L' := keepR wantC 2 (.slice A4 nh c4) (T.r r).w :: wasR s T r :: blkR gw 80 (fourQ s) :: tabR g T :: rowsR 6 OpLR (.slice A n c) l :: L) (by (repeat (first | with_reducible exact Sub.refl _ | (with_reducible apply Sub.take; focus (repeat (first | with_reducible exact At.here | with_reducible apply At.there))) | with_reducible apply Sub.drop)))).pers2 (Q := fun w => ∀ j, j < r + 1 → FlatP wantC 2 w (.slice (upd s r ⟨A4, nh, c4⟩ j).a (upd s r ⟨A4, nh, c4⟩ j).n (upd s r ⟨A4, nh, c4⟩ j).c) (T.r j).w) (fun w' a b j hj => by
              by_cases e : j = r
              · subst e
                rw [updT_same]
                exact a
              · rw [updT_ne _ _ e]
                exact b j (by omega))
            have h7 := h6.swap.put_ r (.slice A4 nh c4) (fourQ (upd s r ⟨A4, nh, c4⟩)) (fourQ_set s hr4 ⟨A4, nh, c4⟩)
            have H7 := hide h7.swap
            clear h5 h6 h7 H4 hnh
            go_wp2_with fail
            go_roundg (4 - (r + 1))
            case measure => have := HGR.out; omega
            case rel => exact ⟨r + 1, upd s r ⟨A4, nh, c4⟩, rfl, by omega, by go_num, H7.out⟩
          · obtain rfl : r = 4 := by omega
            obtain ⟨ad, cs, rfl, _, hcs, rfl, _⟩ := H4.out.elem 3 rfl HX.out
            obtain ⟨e0, e1, e2, e3, e4, e5⟩ := cells6 hcs
            clear hcs
            go_wp2_with fail
            refine (done_st g T o _ HOK.out HON.out (H4.out.sub (L' := tabR g T :: wasR s T 4 :: blkR gw 80 (fourQ s) :: rowsR 6 OpLR (.slice (some ad) n c) l :: L) (by (repeat (first | with_reducible exact Sub.refl _ | (with_reducible apply Sub.take; focus (repeat (first | with_reducible exact At.here | with_reducible apply At.there))) | with_reducible apply Sub.drop))))).mono ?_
            rintro e w2 ⟨rfl, h2⟩
            obtain ⟨T2, hT2⟩ : ∃ T2, T2 = doneM T o := ⟨_, rfl⟩
            rw [← hT2] at h2
            have HOK2 := hide (show TabOk T2 by rw [hT2]; exact HOK.out.done o HON.out)
            have HIN2 := hide (show OInv (i + 1) T2 by rw [hT2]; exact HINV.out.done HOK.out (by omega) o HON.out)
            have HORD := hide (show ∀ r, r < 4 → (T2.r r).w.length ≤ greedy (T.r r).w (T2.r r).w + 1 ∧ (o.d ≠ 1 → (T2.r r).w.length ≤ greedy (T.r r).w (T2.r r).w) by rw [hT2]; exact fun r hr => order_ok T o hr)
            have H2 := hide h2
            clear h2 H4 hT2 e0 e1 e2 e3 e4 e5
            go_wp2_with fail
            go_loopg [8] 4 (fun gh rv wr => ∃ (r : Nat), gh = 4 - r ∧ r ≤ 4 ∧ rv = .int .i64 (r : Nat) ∧ St M0 wr (tabR g T2 :: wasR s T 4 :: blkR gw 80 (fourQ s) :: rowsR 6 OpLR (.slice (some ad) n c) l :: L))
            case atStart => exact ⟨0, rfl, by omega, rfl, H2.out⟩
            case round =>
              clear H2 HGR
              obtain ⟨r, hgr, hr, rfl, h⟩ := hrel
              have HGR := hide hgr
              have H4 := hide h
              clear hgr h
              by_cases hr4 : r < 4
              · have r0 : (0 : Int) ≤ (r : Int) := by omega
                have r1 : (r : Int) < 4 := by omega
                go_wp2_with fail
                refine (holders_st g T2 r _ HOK2.out H4.out).mono ?_
                rintro e w4 ⟨v4, rfl, h5⟩
                rw [holders_nat T2 hr4] at h5
                obtain ⟨A4, c4, rfl, _⟩ := (h5.flatK At.here).value
                obtain ⟨mh, hmh⟩ : ∃ mh, mh = (T2.r r).h.length := ⟨_, rfl⟩
                rw [← hmh] at h5 ⊢
                have HMH := hide hmh
                have H5 := hide (h5.tail)
                clear h5 H4 hmh
                go_wp2_with fail
                refine (queue_st g T2 r _ HOK2.out H5.out).mono ?_
                rintro e w5 ⟨v5, rfl, h6⟩
                rw [queue_nat T2 hr4] at h6
                obtain ⟨A5, c5, rfl, _⟩ := (h6.flatK At.here).value
                obtain ⟨q, hq⟩ : ∃ q, q = (T2.r r).w := ⟨_, rfl⟩
                have hl5 := HOK2.out.wl r hr4
                have hord := HORD.out r hr4
                have hwait := HIN2.out.wait r hr4
                rw [← hq] at h6 hl5 hord hwait ⊢
                obtain ⟨mq, hmq⟩ : ∃ mq, mq = q.length := ⟨_, rfl⟩
                rw [← hmq] at h6 hl5 hord ⊢
                obtain ⟨ws, hws⟩ : ∃ ws, ws = (T.r r).w := ⟨_, rfl⟩
                rw [← hws] at hord
                have HWS := hide hws
                have HMQ := hide hmq
                have HORR := hide hord
                have HWT := hide hwait
                obtain ⟨B, mw, d, hsr⟩ : ∃ B mw d, s r = ⟨B, mw, d⟩ := ⟨_, _, _, rfl⟩
                have HSR := hide hsr
                have HMW := hide (show mw = ws.length by
                  have h9 := (h6.getA (Q := fun w => ∀ j, j < 4 → FlatP wantC 2 w (.slice (s j).a (s j).n (s j).c) (T.r j).w) (by unfold wasR; (repeat (first | with_reducible exact At.here | with_reducible apply At.there)))) r hr4
                  rw [hsr, ← hws] at h9
                  exact h9.sl.1)
                have hw4 : mw ≤ 4 := by rw [HMW.out, hws]; exact HOK.out.wl r hr4
                have H6 := hide h6
                clear h6 H5 hq hmq hws hsr hord hwait
                go_wp2_with fail
                go_loopg [11, 12] mw (fun gh av kv wr => ∃ (k a : Nat), gh = mw - k ∧ k ≤ mw ∧ av = .int .i64 (a : Nat) ∧ kv = .int .i64 (k : Nat) ∧ a ≤ mq ∧ greedy ws q = a + greedy (ws.drop k) (q.drop a) ∧
                  St M0 wr (keepR wantC 2 (.slice A5 mq c5) q :: tabR g T2 :: wasR s T 4 :: blkR gw 80 (fourQ s) :: rowsR 6 OpLR (.slice (some ad) n c) l :: L))
                case atStart => exact ⟨0, 0, rfl, by omega, rfl, rfl, by omega, by simp, H6.out⟩
                case round =>
                  clear H6
                  obtain ⟨k, a, hgk, hk, rfl, rfl, ha, hgr2, h⟩ := hrel
                  have HGK := hide hgk
                  have HGR2 := hide hgr2
                  have cw : wr.cell? ⟨gw, r, none⟩ = some (.slice B mw d) := ((h.blkA (g := gw) (t := 80) (cs := fourQ s) (by (repeat (first | with_reducible exact At.here | with_reducible apply At.there)))).cell r).trans ((fourQ_at s hr4).trans (by rw [HSR.out]))
                  clear hgk hgr2
                  by_cases hin : k < mw ∧ a < mq
                  · obtain ⟨hkm, ham⟩ := hin
                    have hky := List.getElem?_eq_getElem (l := ws) (i := k) (by rw [← HMW.out]; exact hkm)
                    have hdk := List.drop_eq_getElem_cons (l := ws) (i := k) (by rw [← HMW.out]; exact hkm)
                    generalize ws[k]'(by rw [← HMW.out]; exact hkm) = y at hky hdk
                    have hax := List.getElem?_eq_getElem (l := q) (i := a) (by rw [← HMQ.out]; exact ham)
                    have hda := List.drop_eq_getElem_cons (l := q) (i := a) (by rw [← HMQ.out]; exact ham)
                    generalize q[a]'(by rw [← HMQ.out]; exact ham) = x at hax hda
                    have hst : greedy (ws.drop k) (q.drop a) = if sameW x y = true then greedy (ws.drop (k + 1)) (q.drop (a + 1)) + 1 else greedy (ws.drop (k + 1)) (q.drop a) := by
                      rw [hdk, hda]
                      rfl
                    have h9 := (h.getA (Q := fun w => ∀ j, j < 4 → FlatP wantC 2 w (.slice (s j).a (s j).n (s j).c) (T.r j).w) (by unfold wasR; (repeat (first | with_reducible exact At.here | with_reducible apply At.there)))) r hr4
                    rw [HSR.out, ← HWS.out] at h9
                    obtain ⟨adB, rfl, hcB⟩ := h9.at_ wantC_len hky
                    obtain ⟨f0, f1⟩ := cells2F hcB
                    obtain ⟨ad5, rfl, hc5⟩ := (h.flatK At.here).at_ wantC_len hax
                    obtain ⟨e0, e1⟩ := cells2F hc5
                    have k0 : (0 : Int) ≤ (k : Int) := by omega
                    have k1 : (k : Int) < (mw : Int) := by omega
                    have a0 : (0 : Int) ≤ (a : Int) := by omega
                    have a1 : (a : Int) < (mq : Int) := by omega
                    have H7 := hide h
                    have HST := hide hst
                    clear h hky hdk hax hda hcB hc5 h9 hst
                    obtain ⟨b1, hb1⟩ : ∃ b1, (x.c == y.c) = b1 := ⟨_, rfl⟩
                    obtain ⟨b2, hb2⟩ : ∃ b2, (x.m == y.m) = b2 := ⟨_, rfl⟩
                    have HSW := hide (show sameW x y = (b1 && b2) by unfold sameW; rw [hb1, hb2])
                    cases b1 <;> cases b2
                    case' false.false =>
                      have HG3 := hide (show greedy ws q = a + greedy (ws.drop (k + 1)) (q.drop a) by rw [HGR2.out, HST.out, if_neg (by rw [HSW.out]; exact Bool.false_ne_true)])
                    case' false.true =>
                      have HG3 := hide (show greedy ws q = a + greedy (ws.drop (k + 1)) (q.drop a) by rw [HGR2.out, HST.out, if_neg (by rw [HSW.out]; exact Bool.false_ne_true)])
                    case' true.false =>
                      have HG3 := hide (show greedy ws q = a + greedy (ws.drop (k + 1)) (q.drop a) by rw [HGR2.out, HST.out, if_neg (by rw [HSW.out]; exact Bool.false_ne_true)])
                    case true.true =>
                      have HG3 := hide (show greedy ws q = (a + 1) + greedy (ws.drop (k + 1)) (q.drop (a + 1)) by rw [HGR2.out, HST.out, if_pos (by rw [HSW.out]; rfl)]; omega)
                      go_wp2_with fail
                      go_quiet (fail)
                      go_wp2_with fail
                      go_roundg (mw - (k + 1))
                      case measure => have := HGK.out; omega
                      case rel => exact ⟨k + 1, a + 1, rfl, by omega, by go_num, by go_num, by omega, HG3.out, H7.out.drewN _⟩
                    all_goals
                      go_wp2_with fail
                      go_quiet (fail)
                      go_wp2_with fail
                      go_roundg (mw - (k + 1))
                      case measure => have := HGK.out; omega
                      case rel => exact ⟨k + 1, a, rfl, by omega, rfl, by go_num, by omega, HG3.out, H7.out.drewN _⟩
                  · have hgz : greedy (ws.drop k) (q.drop a) = 0 := by
                      by_cases hkm : k < mw
                      · rw [List.drop_of_length_le (l := q) (by rw [← HMQ.out]; omega)]
                        exact greedy_nil _
                      · rw [List.drop_of_length_le (l := ws) (by rw [← HMW.out]; omega)]
                        rfl
                    have hag : greedy ws q = a := by rw [HGR2.out, hgz]; rfl
                    have hm1 := HORR.out.1
                    have hm2 := HORR.out.2
                    rw [hag] at hm1 hm2
                    have w1 : IntKind.i64.wrap ((mq : Int) - 1) = (mq : Int) - 1 := IntWalk.i64_in _ (by omega)
                    have g1 : decide ((a : Int) < (mq : Int) - 1) = false := decide_eq_false (by omega)
                    obtain ⟨ad2, cs2, hae, _, hcs, rfl, _⟩ := h.elem 4 rfl HX.out
                    injection hae with hae
                    subst hae
                    obtain ⟨e0, e1, e2, e3, e4, e5⟩ := cells6 hcs
                    obtain ⟨b3, hb3⟩ : ∃ b3, ((a : Int) == (mq : Int) - 1) = b3 := ⟨_, rfl⟩
                    obtain ⟨b4, hb4⟩ : ∃ b4, (o.d != 1) = b4 := ⟨_, rfl⟩
                    have hbb : (b3 && b4) = false := by
                      rw [← hb3, ← hb4]
                      by_cases h1 : o.d = 1
                      · rw [isNF h1, Bool.and_false]
                      · rw [isF (by have := hm2 h1; omega)]
                        rfl
                    obtain ⟨b6, hb6⟩ : ∃ b6, ((mh : Int) == 0) = b6 := ⟨_, rfl⟩
                    have hbc : 0 < mq → b6 = false := by
                      intro h1
                      rw [← hb6]
                      exact isF (by
                        have h2 := HWT.out (by intro e; rw [e] at HMQ; have h4 : mq = 0 := HMQ.out; omega)
                        have h3 : mh ≠ 0 := fun e => h2 (List.eq_nil_of_length_eq_zero (by rw [← HMH.out]; exact e))
                        omega)
                    have H8 := hide (h.sub (L' := tabR g T2 :: wasR s T 4 :: blkR gw 80 (fourQ s) :: rowsR 6 OpLR (.slice (some ad) n c) l :: L) (by (repeat (first | with_reducible exact Sub.refl _ | (with_reducible apply Sub.take; focus (repeat (first | with_reducible exact At.here | with_reducible apply At.there))) | with_reducible apply Sub.drop))))
                    clear h hcs hag hgz hm1 hm2
                    by_cases hkm : k < mw
                    case' pos => have hna : ¬ a < mq := fun h => hin ⟨hkm, h⟩
                    all_goals
                      clear hin
                      cases b3 <;> cases b4 <;> first | (exact absurd hbb (by decide)) | skip
                      all_goals
                        by_cases hq0 : 0 < mq
                        all_goals
                          cases b6 <;> first | (exact Bool.noConfusion (hbc hq0)) | skip
                      all_goals
                        clear hbb hbc
                        go_wp2_with fail
                        go_roundg (4 - (r + 1))
                        case measure => have := HGR.out; omega
                        case rel => exact ⟨r + 1, rfl, by omega, by go_num, H8.out⟩
              · obtain rfl : r = 4 := by omega
                have H5 := hide (H4.out.sub (L' := tabR g T2 :: rowsR 6 OpLR (.slice (some ad) n c) l :: L) (by (repeat (first | with_reducible exact Sub.refl _ | (with_reducible apply Sub.take; focus (repeat (first | with_reducible exact At.here | with_reducible apply At.there))) | with_reducible apply Sub.drop))))
                clear H4
                go_wp2_with fail
                go_roundg (n - (i + 1))
                case measure => have := HG.out; omega
                case rel => exact ⟨i + 1, T2, rfl, by omega, by go_num, HOK2.out, HIN2.out, H5.out⟩
      · obtain rfl : n = i := by omega
        have H3 := hide h.tail.tail
        clear h
        go_wp2_with fail
        go_ret
        exact ⟨rfl, H3.out⟩
  · have d1 : decide ((n : Int) > 200) = true := decide_eq_true (by omega)
    have d1' : decide ((200 : Int) < (n : Int)) = true := d1
    go_wp2_with fail
    go_ret
    exact ⟨rfl, H2.out.tail.tail⟩
end Go.Proofs.Ytbgknfdaaffeaaa
