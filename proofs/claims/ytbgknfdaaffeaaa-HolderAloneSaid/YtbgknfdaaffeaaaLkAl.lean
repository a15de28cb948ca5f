/- Locks: LocksAlone. -/
import Derived.Test.YtbgknfdaaffeaaaLkL
import Derived.Test.YtbgknfdaaffeaaaLkW
namespace Go.Proofs.Ytbgknfdaaffeaaa
open Go.RowKit Go.Shelf

theorem newT_inv : AInv newT := ⟨by decide, fun _ _ => ⟨fun x hx => by simp [newT] at hx, fun x hx => by simp [newT] at hx, fun q hq => by simp [newT] at hq, by simp [newT]⟩⟩
set_option maxHeartbeats 8000000 in
set_option maxRecDepth 100000 in
theorem alone_st {M0 : Imm} {L : List Res} (v : Value) (l : List OpL) (w : World) (hb : ∀ o ∈ l, o.n ≤ 18446744073709551615) (h : St M0 w (rowsR 6 OpLR v l :: L)) :
    Calls Try.prog 7 #[v] w fun e w' => e = .returned (.bool true) ∧ St M0 w' L := by
  obtain ⟨A, c, rfl, hc, hmx⟩ := (h.getRows 0 rfl).slice
  obtain ⟨n, hn⟩ : ∃ n, n = l.length := ⟨_, rfl⟩
  rw [← hn] at hc h ⊢
  have HN := hide hn
  have HB := hide hb
  have H := hide h
  clear h hn hb
  go_enter Try.func7, Try.ntmps7
  go_wp2_with fail
  refine (awakeL_st _ H.out).mono ?_
  rintro e w1 ⟨rfl, h1⟩
  have h2 := h1.newTab
  generalize hg : w1.heap.size = g at h2
  have HG0 := hide hg
  have H2 := hide h2
  clear h1 H h2 hg
  by_cases h200 : n ≤ 200
  · have d1 : decide ((n : Int) > 200) = false := decide_eq_false (by omega)
    have d1' : decide ((200 : Int) < (n : Int)) = false := d1
    go_wp2_with fail
    rw [HG0.out]
    go_loopg [5] n (fun gh iv wr => ∃ (i : Nat) (T : TabM), gh = n - i ∧ i ≤ n ∧ iv = .int .i64 (i : Nat) ∧ TabOk T ∧ AInv T ∧ St M0 wr (tabR g T :: rowsR 6 OpLR (.slice A n c) l :: L))
    case atStart => exact ⟨0, newT, rfl, by omega, rfl, newT_ok, newT_inv, H2.out⟩
    case round =>
      clear H2
      obtain ⟨i, T, hgh, hi, rfl, hok, hinv, h⟩ := hrel
      have HG := hide hgh
      clear hgh
      by_cases hlt : i < n
      · have hx := List.getElem?_eq_getElem (l := l) (i := i) (by rw [← HN.out]; exact hlt)
        generalize l[i]'(by rw [← HN.out]; exact hlt) = o at hx
        have hon := HB.out o (List.mem_of_getElem? hx)
        obtain ⟨ad, cs, rfl, _, hcs, rfl, _⟩ := h.elem 1 rfl hx
        obtain ⟨e0, e1, e2, e3, e4, e5⟩ := cells6 hcs
        have i0 : (0 : Int) ≤ (i : Int) := by omega
        have i1 : (i : Int) < (n : Int) := by omega
        have H1 := hide h
        have HOK := hide hok
        have HINV := hide hinv
        have HON := hide hon
        clear h hx hcs hok hinv hon
        by_cases hq : o.d = 5 ∧ o.n = 18446744073709551615
        · have b1 := isT hq.1
          have b2 := isT hq.2
          clear hq
          go_wp2_with fail
          go_ret
          exact ⟨rfl, H1.out.tail.tail⟩
        · have hne : o.d = 5 → o.n < 18446744073709551615 := fun h5 => by
            have := HON.out
            have : ¬ o.n = 18446744073709551615 := fun e => hq ⟨h5, e⟩
            omega
          have HNE := hide hne
          obtain ⟨b1, hb1⟩ : ∃ b1, (o.d == 5) = b1 := ⟨_, rfl⟩
          obtain ⟨b2, hb2⟩ : ∃ b2, (o.n == 18446744073709551615) = b2 := ⟨_, rfl⟩
          have hbb : (b1 && b2) = false := by
            rw [← hb1, ← hb2]
            cases h1 : (o.d == 5)
            · rfl
            · cases h2 : (o.n == 18446744073709551615)
              · rfl
              · exact absurd ⟨by simpa using h1, by simpa using h2⟩ hq
          clear hq hne
          cases b1 <;> cases b2 <;> first | (exact Bool.noConfusion hbb) | skip
          all_goals
            clear hbb
            go_wp2_with fail
            refine (done_st g T o _ HOK.out HON.out H1.out).mono ?_
            rintro e w2 ⟨rfl, h2⟩
            obtain ⟨T2, hT2⟩ : ∃ T2, T2 = doneM T o := ⟨_, rfl⟩
            rw [← hT2] at h2
            have HOK2 := hide (show TabOk T2 by rw [hT2]; exact HOK.out.done o HON.out)
            have HIN2 := hide (show AInv T2 by rw [hT2]; exact HINV.out.done o HNE.out)
            have H2 := hide h2
            clear h2 H1 hT2 e0 e1 e2 e3 e4 e5 hb1 hb2
            go_wp2_with fail
            refine (nowT_st g T2 _ H2.out).mono ?_
            rintro e w3 ⟨rfl, h3⟩
            obtain ⟨nw, hnw⟩ : ∃ nw, nw = T2.now := ⟨_, rfl⟩
            rw [← hnw]
            have HNW := hide hnw
            have H3 := hide h3
            clear h3 H2 hnw
            go_wp2_with fail
            go_loopg [7] 4 (fun gh rv wr => ∃ (r : Nat), gh = 4 - r ∧ r ≤ 4 ∧ rv = .int .i64 (r : Nat) ∧ St M0 wr (tabR g T2 :: rowsR 6 OpLR (.slice (some ad) n c) l :: L))
            case atStart => exact ⟨0, rfl, by omega, rfl, H3.out⟩
            case round =>
              clear H3
              obtain ⟨r, hgr, hr, rfl, h⟩ := hrel
              have HGR := hide hgr
              have H4 := hide h
              clear hgr h
              by_cases hr4 : r < 4
              · go_wp2_with fail
                refine (holders_st g T2 r _ HOK2.out H4.out).mono ?_
                rintro e w4 ⟨v4, rfl, h5⟩
                rw [holders_nat T2 hr4] at h5
                obtain ⟨A4, c4, rfl, _⟩ := (h5.flatK At.here).value
                obtain ⟨hs, hhs⟩ : ∃ hs, hs = (T2.r r).h := ⟨_, rfl⟩
                have hl4 := HOK2.out.hl r hr4
                rw [← hhs] at h5 hl4 ⊢
                obtain ⟨nh, hnh⟩ : ∃ nh, nh = hs.length := ⟨_, rfl⟩
                rw [← hnh] at h5 hl4 ⊢
                have HHS := hide hhs
                have HNH := hide hnh
                have H5 := hide h5.swap
                clear h5 H4 hhs hnh
                go_wp2_with fail
                refine (queue_st g T2 r _ HOK2.out H5.out).mono ?_
                rintro e w5 ⟨v5, rfl, h6⟩
                rw [queue_nat T2 hr4] at h6
                obtain ⟨A5, c5, rfl, _⟩ := (h6.flatK At.here).value
                obtain ⟨ws, hws⟩ : ∃ ws, ws = (T2.r r).w := ⟨_, rfl⟩
                have hl5 := HOK2.out.wl r hr4
                rw [← hws] at h6 hl5 ⊢
                obtain ⟨mq, hmq⟩ : ∃ mq, mq = ws.length := ⟨_, rfl⟩
                rw [← hmq] at h6 hl5 ⊢
                have HWS := hide hws
                have HMQ := hide hmq
                have HIR := hide (show RInv nw hs ws by rw [HNW.out, HHS.out, hws]; exact HIN2.out.r r hr4)
                have d2 : decide ((nh : Int) > 4) = false := decide_eq_false (by omega)
                have d2' : decide ((4 : Int) < (nh : Int)) = false := d2
                have d3 : decide ((mq : Int) > 4) = false := decide_eq_false (by omega)
                have d3' : decide ((4 : Int) < (mq : Int)) = false := d3
                have H6 := hide (h6.sub (L' := keepR holdC 4 (.slice A4 nh c4) hs :: keepR wantC 2 (.slice A5 mq c5) ws :: tabR g T2 :: rowsR 6 OpLR (.slice (some ad) n c) l :: L) (by (repeat (first | with_reducible exact Sub.refl _ | (with_reducible apply Sub.take; focus (repeat (first | with_reducible exact At.here | with_reducible apply At.there))) | with_reducible apply Sub.drop))))
                clear h6 H5 hws hmq
                go_wp2_with fail
                go_loopg [10] nh (fun gh kv wr => ∃ (k : Nat), gh = nh - k ∧ k ≤ nh ∧ kv = .int .i64 (k : Nat) ∧ St M0 wr (keepR holdC 4 (.slice A4 nh c4) hs :: keepR wantC 2 (.slice A5 mq c5) ws :: tabR g T2 :: rowsR 6 OpLR (.slice (some ad) n c) l :: L))
                case atStart => exact ⟨0, rfl, by omega, rfl, H6.out⟩
                case round =>
                  clear H6
                  obtain ⟨k, hgk, hk, rfl, h⟩ := hrel
                  have HGK := hide hgk
                  clear hgk
                  by_cases hkn : k < nh
                  · have hkx := List.getElem?_eq_getElem (l := hs) (i := k) (by rw [← HNH.out]; exact hkn)
                    generalize hs[k]'(by rw [← HNH.out]; exact hkn) = x at hkx
                    have hxm := List.mem_of_getElem? hkx
                    obtain ⟨ad4, rfl, hcs⟩ := (h.flatK At.here).at_ holdC_len hkx
                    obtain ⟨e0, e1, e2, e3⟩ := cells4F hcs
                    have hun := HIR.out.un x hxm
                    have hex := HIR.out.ex x hxm
                    have d4 : decide (x.u ≤ nw) = false := decide_eq_false (by omega)
                    have k0 : (0 : Int) ≤ (k : Int) := by omega
                    have k1 : (k : Int) < (nh : Int) := by omega
                    obtain ⟨b5, hb5⟩ : ∃ b5, (x.m == 2) = b5 := ⟨_, rfl⟩
                    obtain ⟨b6, hb6⟩ : ∃ b6, decide ((nh : Int) > 1) = b6 := ⟨_, rfl⟩
                    have hb6' : decide ((1 : Int) < (nh : Int)) = b6 := hb6
                    have hbb : (b5 && b6) = false := by
                      rw [← hb5, ← hb6]
                      cases h1 : (x.m == 2)
                      · rfl
                      · have := hex (by simpa using h1)
                        rw [← HNH.out] at this
                        exact decide_eq_false (by omega)
                    have H7 := hide h
                    have HX := hide hkx
                    have HAP := hide (fun q hq => HIR.out.ap q hq x hxm)
                    clear h hkx hxm hcs hun hex
                    cases b5 <;> cases b6 <;> first | (exact Bool.noConfusion hbb) | skip
                    all_goals
                      clear hbb
                      go_wp2_with fail
                      clear e1 e2 e3 hb5 hb6 hb6'
                      go_loopg [11] mq (fun gh jv wr => ∃ (j : Nat), gh = mq - j ∧ j ≤ mq ∧ jv = .int .i64 (j : Nat) ∧ St M0 wr (keepR holdC 4 (.slice (some ad4) nh c4) hs :: keepR wantC 2 (.slice A5 mq c5) ws :: tabR g T2 :: rowsR 6 OpLR (.slice (some ad) n c) l :: L))
                      case atStart => exact ⟨0, rfl, by omega, rfl, H7.out⟩
                      case round =>
                        clear H7 e0
                        obtain ⟨j, hgj, hj, rfl, h⟩ := hrel
                        have HGJ := hide hgj
                        clear hgj
                        by_cases hjn : j < mq
                        · have hjy := List.getElem?_eq_getElem (l := ws) (i := j) (by rw [← HMQ.out]; exact hjn)
                          generalize ws[j]'(by rw [← HMQ.out]; exact hjn) = y at hjy
                          obtain ⟨ad4', hae, hcs⟩ := (h.flatK At.here).at_ holdC_len HX.out
                          injection hae with hae
                          subst hae
                          obtain ⟨e0, e1, e2, e3⟩ := cells4F hcs
                          obtain ⟨ad5, rfl, hcs5⟩ := (h.flatK (C := wantC) (size := 2) (v := .slice A5 mq c5) (xs := ws) (by (repeat (first | with_reducible exact At.here | with_reducible apply At.there)))).at_ wantC_len hjy
                          obtain ⟨f0, f1⟩ := cells2F hcs5
                          have b7 : (y.c == x.c) = false := isF (HAP.out y (List.mem_of_getElem? hjy))
                          have j0 : (0 : Int) ≤ (j : Int) := by omega
                          have j1 : (j : Int) < (mq : Int) := by omega
                          have H8 := hide h
                          clear h hjy hcs hcs5
                          go_wp2_with fail
                          go_quiet (fail)
                          go_wp2_with fail
                          go_roundg (mq - (j + 1))
                          case measure => have := HGJ.out; omega
                          case rel => exact ⟨j + 1, rfl, by omega, by go_num, H8.out.drewN _⟩
                        · obtain rfl : mq = j := by omega
                          have H8 := hide h
                          clear h
                          go_wp2_with fail
                          go_roundg (nh - (k + 1))
                          case measure => have := HGK.out; omega
                          case rel => exact ⟨k + 1, rfl, by omega, by go_num, H8.out⟩
                  · obtain rfl : nh = k := by omega
                    have H8 := hide h.tail.tail
                    clear h
                    go_wp2_with fail
                    go_roundg (4 - (r + 1))
                    case measure => have := HGR.out; omega
                    case rel => exact ⟨r + 1, rfl, by omega, by go_num, H8.out⟩
              · obtain rfl : r = 4 := by omega
                go_wp2_with fail
                go_roundg (n - (i + 1))
                case measure => have := HG.out; omega
                case rel => exact ⟨i + 1, T2, rfl, by omega, by go_num, HOK2.out, HIN2.out, H4.out⟩
      · obtain rfl : n = i := by omega
        have H3 := hide h.tail.tail
        clear h
        go_wp2_with fail
        go_ret
        exact ⟨rfl, H3.out⟩
  · have d1 : decide ((n : Int) > 200) = true := decide_eq_true (by omega)
    have d1' : decide ((200 : Int) < (n : Int)) = true := d1
    go_wp2_with fail
    go_ret
    exact ⟨rfl, H2.out.tail.tail⟩
end Go.Proofs.Ytbgknfdaaffeaaa
