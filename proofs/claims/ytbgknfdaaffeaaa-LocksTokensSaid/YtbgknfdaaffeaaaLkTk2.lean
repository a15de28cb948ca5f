/- Locks: LocksTokens. Printed by gen_lktk2.py. -/
import Derived.Test.YtbgknfdaaffeaaaLkTk
import Derived.Test.YtbgknfdaaffeaaaLkU2
import Derived.Test.YtbgknfdaaffeaaaLkW
namespace Go.Proofs.Ytbgknfdaaffeaaa
open Go.RowKit Go.Shelf

theorem unpQ_uni {M0 : Imm} {L : List Res} {v : Value} {bs : List Int} {e : Ending} {w' : World} (hb : Rd.Ok ⟨bs, false⟩) (h : UnpQ M0 L v bs e w') : ∃ tv ev, e = .returned (.tuple #[tv, .int .i64 ev]) ∧
    ((ev = 0 ∧ ∃ g T, tv = .pointer (some ⟨g, 0, none⟩) ∧ T = uTab bs ∧ TabOk T ∧ TokOk T ∧ St M0 w' (tabR g T :: intsR .u8 v bs :: L)) ∨ (ev ≠ 0 ∧ ev = uE bs ∧ tv = .pointer none ∧ St M0 w' (intsR .u8 v bs :: L))) := by
  rcases h with ⟨he, g, rfl, h⟩ | ⟨he, rfl, h⟩
  · exact ⟨_, _, rfl, .inl ⟨rfl, g, _, rfl, rfl, (uTab_ok hb he).1, (uTab_ok hb he).2, h⟩⟩
  · exact ⟨_, _, rfl, .inr ⟨he, rfl, rfl, h⟩⟩
theorem oldB_snoc {was : List HoldM} {k : Nat} {y : HoldM} (x : HoldM) (h : was[k]? = some y) : oldB (was.take (k + 1)) x = (oldB (was.take k) x || ((y.t == x.t) && (y.c == x.c))) := by
  unfold oldB
  rw [List.take_add_one, h, List.any_append]
  simp
set_option maxHeartbeats 8000000 in
set_option maxRecDepth 100000 in
theorem tokens_st {M0 : Imm} {L : List Res} (u v : Value) (bs : List Int) (l : List OpL) (w : World) (hbs : Rd.Ok ⟨bs, false⟩) (hb : ∀ o ∈ l, o.n ≤ 18446744073709551615) (h : St M0 w (rowsR 6 OpLR v l :: intsR .u8 u bs :: L)) :
    Calls Try.prog 11 #[u, v] w fun e w' => e = .returned (.bool true) ∧ St M0 w' L := by
  obtain ⟨A, c, rfl, hc, hmx⟩ := (h.getRows 0 rfl).slice
  obtain ⟨n, hn⟩ : ∃ n, n = l.length := ⟨_, rfl⟩
  rw [← hn] at hc h ⊢
  have HN := hide hn
  have HB := hide hb
  have HBS := hide hbs
  have H := hide h
  clear h hn hb hbs
  go_enter Try.func11, Try.ntmps11
  go_wp2_with fail
  refine (awakeL_st _ H.out).mono ?_
  rintro e w1 ⟨rfl, h1⟩
  have H1 := hide h1.swap
  clear h1 H
  go_wp2_with fail
  refine (unpack_st u bs _ HBS.out H1.out).mono ?_
  rintro e w2 hq0
  obtain ⟨tv, ev, rfl, hq⟩ := unpQ_uni HBS.out hq0
  have HQ := hide hq
  clear hq hq0 H1
  rcases HQ.out with hl | hr
  case' inl =>
    obtain ⟨rfl, g, T0, rfl, hT, hok, htok, h⟩ := hl
    have H2 := hide (h.sub (L' := tabR g T0 :: rowsR 6 OpLR (.slice A n c) l :: L) (by (repeat (first | with_reducible exact Sub.refl _ | (with_reducible apply Sub.take; focus (repeat (first | with_reducible exact At.here | with_reducible apply At.there))) | with_reducible apply Sub.drop))))
    have HOK0 := hide hok
    have HTK0 := hide htok
    clear h HQ hok htok hT
  case' inr =>
    obtain ⟨he, hee, rfl, h⟩ := hr
    obtain ⟨T0, hT0⟩ : ∃ T0, T0 = newT := ⟨_, rfl⟩
    have h4 := h.newTab.sub (L' := tabR w2.heap.size newT :: rowsR 6 OpLR (.slice A n c) l :: L) (by (repeat (first | with_reducible exact Sub.refl _ | (with_reducible apply Sub.take; focus (repeat (first | with_reducible exact At.here | with_reducible apply At.there))) | with_reducible apply Sub.drop)))
    generalize hg : w2.heap.size = g at h4
    rw [← hT0] at h4
    have H2 := hide h4
    have HG0 := hide hg
    have HOK0 := hide (show TabOk T0 by rw [hT0]; exact newT_ok)
    have HTK0 := hide (show TokOk T0 by rw [hT0]; exact newT_tok)
    clear h h4 HQ hee hg hT0
  case' inl => have HG0 := hide (rfl : g = g)
  all_goals
    by_cases h200 : n ≤ 200
    · have d1 : decide ((n : Int) > 200) = false := decide_eq_false (by omega)
      have d1' : decide ((200 : Int) < (n : Int)) = false := d1
      go_wp2_with fail
      try rw [HG0.out]
      clear HG0
      go_loopg [8] n (fun gh iv wr => ∃ (i : Nat) (T : TabM), gh = n - i ∧ i ≤ n ∧ iv = .int .i64 (i : Nat) ∧ TabOk T ∧ TokOk T ∧ St M0 wr (tabR g T :: rowsR 6 OpLR (.slice A n c) l :: L))
      case atStart => exact ⟨0, T0, rfl, by omega, rfl, HOK0.out, HTK0.out, H2.out⟩
      case round =>
        clear H2 HOK0 HTK0
        obtain ⟨i, T, hgh, hi, rfl, hok, htok, h⟩ := hrel
        have HG := hide hgh
        clear hgh
        by_cases hlt : i < n
        · have hx := List.getElem?_eq_getElem (l := l) (i := i) (by rw [← HN.out]; exact hlt)
          generalize l[i]'(by rw [← HN.out]; exact hlt) = o at hx
          have hon := HB.out o (List.mem_of_getElem? hx)
          obtain ⟨ad, cs, rfl, _, hcs, rfl, _⟩ := h.elem 1 rfl hx
          have HX := hide hx
          have i0 : (0 : Int) ≤ (i : Int) := by omega
          have i1 : (i : Int) < (n : Int) := by omega
          have H1 := hide h
          have HOK := hide hok
          have HTK := hide htok
          have HON := hide hon
          clear h hx hcs hok htok hon
          go_wp2_with fail
          refine (lastT_st g T _ H1.out).mono ?_
          rintro e w3 ⟨rfl, h3⟩
          obtain ⟨last, hlast⟩ : ∃ last, last = T.last := ⟨_, rfl⟩
          rw [← hlast]
          have HLA := hide hlast
          have H3 := hide h3
          clear h3 H1 hlast
          have HG1 := hide ((H3.out).ownNil holdC 91 4)
          clear H3
          go_wp2_with fail
          go_loopg [10, 11] 4 (fun gh wv rv wr => ∃ (r : Nat) (C : Option Addr) (q ce : Nat), gh = 4 - r ∧ r ≤ 4 ∧ wv = .slice C q ce ∧ rv = .int .i64 (r : Nat) ∧ q = (allH T r).length ∧ St M0 wr (ownR holdC 91 4 (.slice C q ce) (allH T r) :: tabR g T :: rowsR 6 OpLR (.slice (some ad) n c) l :: L))
          case atStart => exact ⟨0, none, 0, 0, rfl, by omega, rfl, rfl, rfl, HG1.out⟩
          case round =>
            clear HG1
            obtain ⟨r, C, q, ce, hgr, hr, rfl, rfl, hq, h⟩ := hrel
            have HGR := hide hgr
            have HQ := hide hq
            have H1 := hide (h.sub (L' := tabR g T :: ownR holdC 91 4 (.slice C q ce) (allH T r) :: rowsR 6 OpLR (.slice (some ad) n c) l :: L) (by (repeat (first | with_reducible exact Sub.refl _ | (with_reducible apply Sub.take; focus (repeat (first | with_reducible exact At.here | with_reducible apply At.there))) | with_reducible apply Sub.drop))))
            clear hgr hq h
            by_cases hr4 : r < 4
            · have r0 : (0 : Int) ≤ (r : Int) := by omega
              have r1 : (r : Int) < 4 := by omega
              have hq16 : q ≤ 16 := by have := allH_len HOK.out r (by omega); have := HQ.out; omega
              go_wp2_with fail
              refine (holders_st g T r _ HOK.out H1.out).mono ?_
              rintro e w4 ⟨v4, rfl, h5⟩
              rw [holders_nat T hr4] at h5
              obtain ⟨A4, c4, rfl, _⟩ := (h5.flatK At.here).value
              obtain ⟨nh, hnh⟩ : ∃ nh, nh = ((T).r r).h.length := ⟨_, rfl⟩
              have hl4 := HOK.out.hl r hr4
              rw [← hnh] at h5 hl4
              rw [← hnh]
              have HSL := hide (h5.flatK At.here).sl.2.2.2
              have hop := (h5.front (X := ownR holdC 91 4 (.slice C q ce) (allH T r)) (by (repeat (first | with_reducible exact At.here | with_reducible apply At.there)))).ownOpen
              have H5 := hide hop.2
              have HNH := hide hnh
              clear h5 hop H1 hnh
              go_wp2_with (at_builtin; refine St.app_step hold_elem H5.out rfl _ _ rfl rfl A4 nh c4 rfl (((T).r r).h.flatMap holdC) HSL.out (flatC_one hold_one _) (by omega) (by omega) ?_; intro A6 c6 w7 h9)
              rw [← List.flatMap_append, ← allH_succ] at h9
              have hq2 : q + nh = (allH T (r + 1)).length := by rw [allH_succ, List.length_append, ← HQ.out, ← HNH.out]
              have H10 := hide ((h9.ownClose hq2).sub (L' := ownR holdC 91 4 (.slice A6 (q + nh) c6) (allH T (r + 1)) :: tabR g T :: rowsR 6 OpLR (.slice (some ad) n c) l :: L) (by (repeat (first | with_reducible exact Sub.refl _ | (with_reducible apply Sub.take; focus (repeat (first | with_reducible exact At.here | with_reducible apply At.there))) | with_reducible apply Sub.drop))))
              have HQ2 := hide hq2
              clear h9 hq2 H5 HSL
              go_wp2_with fail
              go_roundg (4 - (r + 1))
              case measure => have := HGR.out; omega
              case rel => exact ⟨r + 1, A6, q + nh, c6, rfl, by omega, rfl, by go_num, HQ2.out, H10.out⟩
            · obtain rfl : r = 4 := by omega
              obtain ⟨was, hwas⟩ : ∃ was, was = allH T 4 := ⟨_, rfl⟩
              have hq16 : q ≤ 16 := by have := allH_len HOK.out 4 (by omega); have := HQ.out; omega
              have HWAS := hide hwas
              have HQW := hide (show q = was.length by rw [hwas]; exact HQ.out)
              have h6 := (H1.out.front (X := ownR holdC 91 4 (.slice C q ce) (allH T 4)) (by (repeat (first | with_reducible exact At.here | with_reducible apply At.there)))).ownKeep
              rw [← hwas] at h6
              obtain ⟨ad2, cs2, hae, _, hcs, rfl, _⟩ := h6.elem 2 rfl HX.out
              injection hae with hae
              subst hae
              obtain ⟨e0, e1, e2, e3, e4, e5⟩ := cells6 hcs
              have H6 := hide (h6.sub (L' := tabR g T :: keepR holdC 4 (.slice C q ce) was :: rowsR 6 OpLR (.slice (some ad) n c) l :: L) (by (repeat (first | with_reducible exact Sub.refl _ | (with_reducible apply Sub.take; focus (repeat (first | with_reducible exact At.here | with_reducible apply At.there))) | with_reducible apply Sub.drop))))
              obtain ⟨qw, hqw⟩ : ∃ qw, qw = q := ⟨_, rfl⟩
              rw [← hqw] at H6 HQW hq16
              try rw [← hqw]
              clear hwas h6 H1 HQ HGR hcs hqw
              go_wp2_with fail
              refine (done_st g T o _ HOK.out HON.out H6.out).mono ?_
              rintro e w5 ⟨rfl, h7⟩
              obtain ⟨T2, hT2⟩ : ∃ T2, T2 = doneM T o := ⟨_, rfl⟩
              rw [← hT2] at h7
              have HOK2 := hide (show TabOk T2 by rw [hT2]; exact HOK.out.done o HON.out)
              have HST := hide (show TokStep T T2 by rw [hT2]; exact HTK.out.done o)
              have H7 := hide h7
              clear h7 H6 hT2 e0 e1 e2 e3 e4 e5
              go_wp2_with fail
              refine (lastT_st g T2 _ H7.out).mono ?_
              rintro e w6 ⟨rfl, h8⟩
              obtain ⟨now, hnow⟩ : ∃ now, now = T2.last := ⟨_, rfl⟩
              rw [← hnow]
              have hle : last ≤ now := by rw [HLA.out, hnow]; exact HST.out.le
              have dl : decide (now < last) = false := decide_eq_false (by omega)
              have HNO := hide hnow
              have H8 := hide h8
              clear h8 H7 hnow
              have HG1 := hide ((H8.out).ownNil holdC 91 4)
              clear H8
              go_wp2_with fail
              go_loopg [13, 14] 4 (fun gh wv rv wr => ∃ (r : Nat) (D : Option Addr) (q de : Nat), gh = 4 - r ∧ r ≤ 4 ∧ wv = .slice D q de ∧ rv = .int .i64 (r : Nat) ∧ q = (allH T2 r).length ∧ St M0 wr (ownR holdC 91 4 (.slice D q de) (allH T2 r) :: tabR g T2 :: keepR holdC 4 (.slice C qw ce) was :: rowsR 6 OpLR (.slice (some ad) n c) l :: L))
              case atStart => exact ⟨0, none, 0, 0, rfl, by omega, rfl, rfl, rfl, HG1.out⟩
              case round =>
                clear HG1
                obtain ⟨r, D, q, de, hgr, hr, rfl, rfl, hq, h⟩ := hrel
                have HGR := hide hgr
                have HQ := hide hq
                have H1 := hide (h.sub (L' := tabR g T2 :: ownR holdC 91 4 (.slice D q de) (allH T2 r) :: keepR holdC 4 (.slice C qw ce) was :: rowsR 6 OpLR (.slice (some ad) n c) l :: L) (by (repeat (first | with_reducible exact Sub.refl _ | (with_reducible apply Sub.take; focus (repeat (first | with_reducible exact At.here | with_reducible apply At.there))) | with_reducible apply Sub.drop))))
                clear hgr hq h
                by_cases hr4 : r < 4
                · have r0 : (0 : Int) ≤ (r : Int) := by omega
                  have r1 : (r : Int) < 4 := by omega
                  have hq16 : q ≤ 16 := by have := allH_len HOK2.out r (by omega); have := HQ.out; omega
                  go_wp2_with fail
                  refine (holders_st g T2 r _ HOK2.out H1.out).mono ?_
                  rintro e w4 ⟨v4, rfl, h5⟩
                  rw [holders_nat T2 hr4] at h5
                  obtain ⟨A4, c4, rfl, _⟩ := (h5.flatK At.here).value
                  obtain ⟨nh, hnh⟩ : ∃ nh, nh = ((T2).r r).h.length := ⟨_, rfl⟩
                  have hl4 := HOK2.out.hl r hr4
                  rw [← hnh] at h5 hl4
                  rw [← hnh]
                  have HSL := hide (h5.flatK At.here).sl.2.2.2
                  have hop := (h5.front (X := ownR holdC 91 4 (.slice D q de) (allH T2 r)) (by (repeat (first | with_reducible exact At.here | with_reducible apply At.there)))).ownOpen
                  have H5 := hide hop.2
                  have HNH := hide hnh
                  clear h5 hop H1 hnh
                  go_wp2_with (at_builtin; refine St.app_step hold_elem H5.out rfl _ _ rfl rfl A4 nh c4 rfl (((T2).r r).h.flatMap holdC) HSL.out (flatC_one hold_one _) (by omega) (by omega) ?_; intro A6 c6 w7 h9)
                  rw [← List.flatMap_append, ← allH_succ] at h9
                  have hq2 : q + nh = (allH T2 (r + 1)).length := by rw [allH_succ, List.length_append, ← HQ.out, ← HNH.out]
                  have H10 := hide ((h9.ownClose hq2).sub (L' := ownR holdC 91 4 (.slice A6 (q + nh) c6) (allH T2 (r + 1)) :: tabR g T2 :: keepR holdC 4 (.slice C qw ce) was :: rowsR 6 OpLR (.slice (some ad) n c) l :: L) (by (repeat (first | with_reducible exact Sub.refl _ | (with_reducible apply Sub.take; focus (repeat (first | with_reducible exact At.here | with_reducible apply At.there))) | with_reducible apply Sub.drop))))
                  have HQ2 := hide hq2
                  clear h9 hq2 H5 HSL
                  go_wp2_with fail
                  go_roundg (4 - (r + 1))
                  case measure => have := HGR.out; omega
                  case rel => exact ⟨r + 1, A6, q + nh, c6, rfl, by omega, rfl, by go_num, HQ2.out, H10.out⟩
                · obtain rfl : r = 4 := by omega
                  obtain ⟨is, his⟩ : ∃ is, is = allH T2 4 := ⟨_, rfl⟩
                  have hqi16 : q ≤ 16 := by have := allH_len HOK2.out 4 (by omega); have := HQ.out; omega
                  have HIS := hide his
                  have HQI := hide (show q = is.length by rw [his]; exact HQ.out)
                  have h6 := (H1.out.front (X := ownR holdC 91 4 (.slice D q de) (allH T2 4)) (by (repeat (first | with_reducible exact At.here | with_reducible apply At.there)))).ownKeep
                  rw [← his] at h6
                  obtain ⟨qi, hqi⟩ : ∃ qi, qi = q := ⟨_, rfl⟩
                  rw [← hqi] at h6 HQI hqi16 ⊢
                  have H5 := hide (h6.sub (L' := keepR holdC 4 (.slice D qi de) is :: keepR holdC 4 (.slice C qw ce) was :: tabR g T2 :: rowsR 6 OpLR (.slice (some ad) n c) l :: L) (by (repeat (first | with_reducible exact Sub.refl _ | (with_reducible apply Sub.take; focus (repeat (first | with_reducible exact At.here | with_reducible apply At.there))) | with_reducible apply Sub.drop))))
                  clear his h6 H1 HQ HGR hqi
                  go_wp2_with fail
                  go_loopg [15] qi (fun gh kv wr => ∃ (k : Nat), gh = qi - k ∧ k ≤ qi ∧ kv = .int .i64 (k : Nat) ∧ St M0 wr (keepR holdC 4 (.slice D qi de) is :: keepR holdC 4 (.slice C qw ce) was :: tabR g T2 :: rowsR 6 OpLR (.slice (some ad) n c) l :: L))
                  case atStart => exact ⟨0, rfl, by omega, rfl, H5.out⟩
                  case round =>
                    clear H5
                    obtain ⟨k, hgk, hk, rfl, h⟩ := hrel
                    have HGK := hide hgk
                    clear hgk
                    by_cases hkq : k < qi
                    · have hx := List.getElem?_eq_getElem (l := is) (i := k) (by rw [← HQI.out]; exact hkq)
                      generalize is[k]'(by rw [← HQI.out]; exact hkq) = x at hx
                      obtain ⟨adI, rfl, _⟩ := (h.flatK (C := holdC) (size := 4) (v := .slice D qi de) (xs := is) (by (repeat (first | with_reducible exact At.here | with_reducible apply At.there)))).at_ holdC_len hx
                      have k0 : (0 : Int) ≤ (k : Int) := by omega
                      have k1 : (k : Int) < (qi : Int) := by omega
                      have HXI := hide hx
                      have H5 := hide h
                      clear h hx
                      go_wp2_with fail
                      go_loopg [16, 17] qw (fun gh ov jv wr => ∃ (j : Nat), gh = qw - j ∧ j ≤ qw ∧ ov = .bool (oldB (was.take j) x) ∧ jv = .int .i64 (j : Nat) ∧ St M0 wr (keepR holdC 4 (.slice (some adI) qi de) is :: keepR holdC 4 (.slice C qw ce) was :: tabR g T2 :: rowsR 6 OpLR (.slice (some ad) n c) l :: L))
                      case atStart => exact ⟨0, rfl, by omega, by simp [oldB], rfl, H5.out⟩
                      case round =>
                        clear H5
                        obtain ⟨j, hgj, hj, rfl, rfl, h⟩ := hrel
                        have HGJ := hide hgj
                        clear hgj
                        obtain ⟨ob, hob⟩ : ∃ ob, oldB (was.take j) x = ob := ⟨_, rfl⟩
                        rw [hob]
                        have HOB := hide hob
                        clear hob
                        by_cases hjq : j < qw
                        · have hy := List.getElem?_eq_getElem (l := was) (i := j) (by rw [← HQW.out]; exact hjq)
                          generalize was[j]'(by rw [← HQW.out]; exact hjq) = y at hy
                          obtain ⟨adW, rfl, hcw⟩ := (h.flatK (C := holdC) (size := 4) (v := .slice C qw ce) (xs := was) (by (repeat (first | with_reducible exact At.here | with_reducible apply At.there)))).at_ holdC_len hy
                          obtain ⟨f0, f1, f2, f3⟩ := cells4F hcw
                          obtain ⟨ad3, hae, hci⟩ := (h.flatK (C := holdC) (size := 4) (v := .slice (some adI) qi de) (xs := is) (by (repeat (first | with_reducible exact At.here | with_reducible apply At.there)))).at_ holdC_len HXI.out
                          injection hae with hae
                          subst hae
                          obtain ⟨e0, e1, e2, e3⟩ := cells4F hci
                          have j0 : (0 : Int) ≤ (j : Int) := by omega
                          have j1 : (j : Int) < (qw : Int) := by omega
                          obtain ⟨b1, hb1⟩ : ∃ b1, (y.t == x.t) = b1 := ⟨_, rfl⟩
                          obtain ⟨b2, hb2⟩ : ∃ b2, (y.c == x.c) = b2 := ⟨_, rfl⟩
                          have HS := hide (show oldB (was.take (j + 1)) x = (ob || (b1 && b2)) by rw [oldB_snoc x hy, HOB.out, hb1, hb2])
                          have H6 := hide h
                          clear h hy hcw hci
                          cases ob
                          case' false => cases b1
                          case' false.true => cases b2
                          all_goals
                            go_wp2_with fail
                            go_quiet (fail)
                            go_wp2_with fail
                            go_roundg (qw - (j + 1))
                            case measure => have := HGJ.out; omega
                            case rel => exact ⟨j + 1, rfl, by omega, by rw [HS.out]; rfl, by go_num, H6.out.drewN _⟩
                        · obtain rfl : qw = j := by omega
                          have HOF := hide (show oldB (allH T 4) x = ob by rw [← HWAS.out, ← HOB.out, List.take_of_length_le (by rw [← HQW.out]; exact Nat.le_refl _)])
                          have HLW := hide (HST.out.law (List.mem_of_getElem? (by rw [← HIS.out]; exact HXI.out)))
                          have H6 := hide h
                          clear h HOB
                          go_wp2_with fail
                          go_loopg [18] k (fun gh jv wr => ∃ (j : Nat), gh = k - j ∧ j ≤ k ∧ jv = .int .i64 (j : Nat) ∧ St M0 wr (keepR holdC 4 (.slice (some adI) qi de) is :: keepR holdC 4 (.slice C qw ce) was :: tabR g T2 :: rowsR 6 OpLR (.slice (some ad) n c) l :: L))
                          case atStart => exact ⟨0, rfl, by omega, rfl, H6.out⟩
                          case round =>
                            clear H6 HGJ
                            obtain ⟨m, hgm, hm, rfl, h⟩ := hrel
                            have HGM := hide hgm
                            clear hgm
                            obtain ⟨ad3, hae, hci⟩ := (h.flatK (C := holdC) (size := 4) (v := .slice (some adI) qi de) (xs := is) (by (repeat (first | with_reducible exact At.here | with_reducible apply At.there)))).at_ holdC_len HXI.out
                            injection hae with hae
                            subst hae
                            obtain ⟨e0, e1, e2, e3⟩ := cells4F hci
                            have H6 := hide h
                            by_cases hmk : m < k
                            · have hy := List.getElem?_eq_getElem (l := is) (i := m) (by rw [← HQI.out]; omega)
                              generalize is[m]'(by rw [← HQI.out]; omega) = y at hy
                              obtain ⟨ad3, hae, hcm⟩ := (h.flatK (C := holdC) (size := 4) (v := .slice (some adI) qi de) (xs := is) (by (repeat (first | with_reducible exact At.here | with_reducible apply At.there)))).at_ holdC_len hy
                              injection hae with hae
                              subst hae
                              obtain ⟨f0, f1, f2, f3⟩ := cells4F hcm
                              have b1 : (y.t == x.t) = false := isF (HST.out.ok.apart hmk (by rw [← HIS.out]; exact hy) (by rw [← HIS.out]; exact HXI.out))
                              have m0 : (0 : Int) ≤ (m : Int) := by omega
                              have m1 : (m : Int) < (qi : Int) := by omega
                              have m2 : (m : Int) < (k : Int) := by omega
                              clear h hy hcm hci
                              go_wp2_with fail
                              go_quiet (fail)
                              go_wp2_with fail
                              go_roundg (k - (m + 1))
                              case measure => have := HGM.out; omega
                              case rel => exact ⟨m + 1, rfl, by omega, by go_num, H6.out.drewN _⟩
                            · obtain rfl : m = k := by omega
                              clear h hci
                              cases ob with
                              | true =>
                                go_wp2_with fail
                                go_roundg (qi - (m + 1))
                                case measure => have := HGK.out; omega
                                case rel => exact ⟨m + 1, rfl, by omega, by go_num, H6.out⟩
                              | false =>
                                have hlw := HLW.out HOF.out
                                have d5 : decide (x.t ≤ last) = false := decide_eq_false (by rw [HLA.out]; omega)
                                have d6 : decide (x.t > now) = false := decide_eq_false (by rw [HNO.out]; omega)
                                have d6' : decide (now < x.t) = false := d6
                                clear hlw
                                go_wp2_with fail
                                go_roundg (qi - (m + 1))
                                case measure => have := HGK.out; omega
                                case rel => exact ⟨m + 1, rfl, by omega, by go_num, H6.out⟩
                    · obtain rfl : k = qi := by omega
                      have H6 := hide (h.sub (L' := tabR g T2 :: rowsR 6 OpLR (.slice (some ad) n c) l :: L) (by (repeat (first | with_reducible exact Sub.refl _ | (with_reducible apply Sub.take; focus (repeat (first | with_reducible exact At.here | with_reducible apply At.there))) | with_reducible apply Sub.drop))))
                      clear h
                      go_wp2_with fail
                      go_roundg (n - (i + 1))
                      case measure => have := HG.out; omega
                      case rel => exact ⟨i + 1, T2, rfl, by omega, by go_num, HOK2.out, HST.out.ok, H6.out⟩
        · obtain rfl : n = i := by omega
          have H3 := hide h.tail.tail
          clear h
          go_wp2_with fail
          go_ret
          exact ⟨rfl, H3.out⟩
    · have d1 : decide ((n : Int) > 200) = true := decide_eq_true (by omega)
      have d1' : decide ((200 : Int) < (n : Int)) = true := d1
      go_wp2_with fail
      go_ret
      exact ⟨rfl, H2.out.tail.tail⟩
end Go.Proofs.Ytbgknfdaaffeaaa
