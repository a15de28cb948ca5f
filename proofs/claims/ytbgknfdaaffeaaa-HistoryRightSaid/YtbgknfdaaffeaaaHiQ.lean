/- History: HistoryRight. -/
import Derived.Test.YtbgknfdaaffeaaaHiS
namespace Go.Proofs.Ytbgknfdaaffeaaa
open Go.RowKit Go.Shelf

/-- what explains is right, and within what is sure and what there is -/
theorem expl_right {l : List SecH} {ks : List Nat} (h : explM l = some ks) : ks.length = l.length ∧ (∀ (j : Nat) s k, l[j]? = some s → ks[j]? = some k → s.s ≤ (k : Int) ∧ k ≤ s.p.length) ∧ ∀ s, s < l.length → RightP l ks s := by
  unfold explM at h
  split at h
  · cases h
  · rename_i hb
    have hb : l.any badH = false := by simpa using hb
    obtain ⟨w, hw, rfl, hr, _⟩ := (explB_spec l noB).1 ks h
    refine ⟨wayB_length l w, fun j s k hs hk => ?_, (rightP_iff l _).2 hr⟩
    have h1 := wayB_bounds l (fun s hs => (good_of hb s hs).2) w hw j s k hs hk
    have h2 := good_of hb s (List.mem_of_getElem? hs)
    omega
set_option maxHeartbeats 4000000 in
set_option maxRecDepth 100000 in
theorem rightL_st {M0 : Imm} {L : List Res} (v : Value) (l : List SecX) (w : World) (hb : ∀ x ∈ l, (∀ y ∈ x.s.p, Byt y.d) ∧ ∀ y ∈ x.s.k, Byt y.d) (hfit : ∀ x ∈ l, DocFit x) (h : St M0 w (rowsR 4 SecXR v l :: L)) :
    Calls Try.prog 4 #[v] w fun e w' => e = .returned (.bool true) ∧ St M0 w' L := by
  obtain ⟨A, c, rfl, hc, hmx⟩ := (h.getRows 0 rfl).slice
  obtain ⟨n, hn⟩ : ∃ n, n = l.length := ⟨_, rfl⟩
  rw [← hn] at hc h ⊢
  have HN := hide hn
  have HB := hide hb
  have HFT := hide hfit
  have H := hide h
  clear h hn hb hfit
  go_enter Try.func4, Try.ntmps4
  go_wp2_with fail
  refine (awakeH_st _ H.out).mono ?_
  rintro e w1 ⟨rfl, h1⟩
  have H1 := hide (h1.rowsCopy (by (repeat (first | with_reducible exact At.here | with_reducible apply At.there))))
  clear h1 H
  by_cases h12 : n ≤ 12
  · have d1 : decide ((n : Int) > 12) = false := decide_eq_false (by omega)
    have d1' : decide ((12 : Int) < (n : Int)) = false := d1
    go_wp2_with fail
    refine (doc_st A n c l _ (by omega) HFT.out H1.out).mono ?_
    rintro e w2 ⟨O, oc, lo, rfl, hno, hlo, h2⟩
    have HLO := hide hlo
    have H2 := hide h2
    clear h2 H1 hlo hno d1 d1'
    go_wp2_with fail
    refine (ways_st O n oc lo 5000 _ (by omega) (by omega) (fun x hx => by have := same_secs (P := fun s => s.p.length * 32 ≤ 140737488355328) HLO.out (fun x hx => (HFT.out x hx).p) x hx; omega) At.here H2.out).mono ?_
    rintro e w3 ⟨rfl, h3⟩
    rw [HLO.out]
    obtain ⟨N, hN⟩ : ∃ N, N = waysI 5000 (l.map SecX.s) 1 := ⟨_, rfl⟩
    rw [← hN]
    have H3 := hide h3.tail
    clear h3 H2 hN HLO
    by_cases hle : N > 5000
    · have d2 : decide (N > 5000) = true := decide_eq_true hle
      have d2' : decide (5000 < N) = true := d2
      go_wp2_with fail
      go_ret
      exact ⟨rfl, H3.out.tail⟩
    · have d2 : decide (N > 5000) = false := decide_eq_false hle
      have d2' : decide (5000 < N) = false := d2
      go_wp2_with fail
      go_loopg [4] n (fun gh iv wr => ∃ (i : Nat), gh = n - i ∧ i ≤ n ∧ iv = .int .i64 (i : Nat) ∧ (∀ j x, j < i → l[j]? = some x → x.s.p.length ≤ 12 ∧ x.s.k.length ≤ 12) ∧ St M0 wr (rowsR 4 SecXR (.slice A n c) l :: L))
      case atStart => exact ⟨0, rfl, by omega, rfl, fun j x h => by omega, H3.out⟩
      case round =>
        clear H3 d2 d2' hle
        obtain ⟨i, hg, hi, rfl, hr, h⟩ := hrel
        have HG := hide hg
        have HR := hide hr
        clear hg hr
        by_cases hlt : i < n
        · have hx := List.getElem?_eq_getElem (l := l) (i := i) (by rw [← HN.out]; exact hlt)
          generalize l[i]'(by rw [← HN.out]; exact hlt) = x at hx
          obtain ⟨ad, cs, rfl, _, hcs, ⟨rfl, _, _⟩, _⟩ := h.elem 0 rfl hx
          have HX := hide hx
          have H4 := hide h
          have HE := hide (show x.s.p.length ≤ 12 → x.s.k.length ≤ 12 → ∀ j y, j < i + 1 → l[j]? = some y → y.s.p.length ≤ 12 ∧ y.s.k.length ≤ 12 from fun h1 h2 j y hj hy => by
            rcases Nat.lt_succ_iff_lt_or_eq.1 hj with hj | rfl
            · exact HR.out j y hj hy
            · rw [HX.out] at hy
              obtain rfl : x = y := by simpa using hy
              exact ⟨h1, h2⟩)
          obtain ⟨⟨st, sp, ss, sk⟩, pA, pc, pcs, kA, kc, kcs⟩ := x
          obtain ⟨e0, e1, e2, e3⟩ := cells4 hcs
          have HE : Hid (sp.length ≤ 12 → sk.length ≤ 12 → ∀ j y, j < i + 1 → l[j]? = some y → y.s.p.length ≤ 12 ∧ y.s.k.length ≤ 12) := HE
          have i0 : (0 : Int) ≤ (i : Int) := by omega
          have i1 : (i : Int) < (n : Int) := by omega
          clear h hx hcs
          by_cases hp : sp.length ≤ 12
          · have d1 : decide ((sp.length : Int) > 12) = false := decide_eq_false (by omega)
            have d1' : decide ((12 : Int) < (sp.length : Int)) = false := d1
            by_cases hk : sk.length ≤ 12
            · have d2 : decide ((sk.length : Int) > 12) = false := decide_eq_false (by omega)
              have d2' : decide ((12 : Int) < (sk.length : Int)) = false := d2
              have HE2 := hide (HE.out hp hk)
              clear hp hk
              go_wp2_with fail
              go_roundg (n - (i + 1))
              case measure => have := HG.out; omega
              case rel => exact ⟨i + 1, rfl, by omega, by go_num, HE2.out, H4.out⟩
            · have d2 : decide ((sk.length : Int) > 12) = true := decide_eq_true (by omega)
              have d2' : decide ((12 : Int) < (sk.length : Int)) = true := d2
              clear hp hk
              go_wp2_with fail
              go_ret
              exact ⟨rfl, H4.out.tail⟩
          · have d1 : decide ((sp.length : Int) > 12) = true := decide_eq_true (by omega)
            have d1' : decide ((12 : Int) < (sp.length : Int)) = true := d1
            clear hp
            go_wp2_with fail
            go_ret
            exact ⟨rfl, H4.out.tail⟩
        · obtain rfl : n = i := by omega
          have HALL := hide (show ∀ x ∈ l, x.s.p.length ≤ 12 ∧ x.s.k.length ≤ 12 from fun x hx => by
            obtain ⟨j, hj⟩ := List.mem_iff_getElem?.1 hx
            exact HR.out j x (by rw [HN.out]; exact (List.getElem?_eq_some_iff.1 hj).1) hj)
          have H5 := hide (h.rowsCopy (by (repeat (first | with_reducible exact At.here | with_reducible apply At.there))))
          clear h hlt
          go_wp2_with fail
          refine (explain_st A n c l _ (by rw [← HN.out]; omega) (fun x hx => ⟨(HB.out x hx).1, (HB.out x hx).2, by have := (HALL.out x hx).1; omega⟩) H5.out).mono ?_
          rintro e w3 ⟨v3, rfl, h3⟩
          obtain ⟨EX, hEX⟩ : ∃ EX, EX = explM (l.map SecX.s) := ⟨_, rfl⟩
          rw [← hEX] at h3 ⊢
          obtain ⟨B, d, rfl, hbd⟩ := Ints.slice3 (h3.get 0 rfl)
          cases EX with
          | none =>
            have H6 := hide h3.tail.tail
            clear h3 H5 hEX
            go_wp2_with fail
            go_ret
            exact ⟨rfl, H6.out⟩
          | some ks =>
            obtain ⟨hk1, hk2, hk3⟩ := expl_right hEX.symm
            have hlk : (keptE (some ks)).length = n := by
              unfold keptE
              rw [List.length_map]
              rw [List.length_map] at hk1
              rw [HN.out]
              exact hk1
            rw [hlk] at h3 hbd ⊢
            have HK2 := hide hk2
            have HK3 := hide hk3
            have HLK := hide hlk
            have H6 := hide h3
            have HK1 := hide hk1
            clear h3 H5 hEX hk1 hk2 hk3 hlk
            go_wp2_with fail
            go_loopg [7] n (fun gh iv wr => ∃ (i : Nat), gh = n - i ∧ i ≤ n ∧ iv = .int .i64 (i : Nat) ∧ St M0 wr (intsR .i64 (.slice B n d) (keptE (some ks)) :: rowsR 4 SecXR (.slice A n c) l :: L))
            case atStart => exact ⟨0, rfl, by omega, rfl, H6.out⟩
            case round =>
              clear H6
              obtain ⟨i, hg, hi, rfl, h⟩ := hrel
              have HG := hide hg
              clear hg
              by_cases hlt : i < n
              · have hx := List.getElem?_eq_getElem (l := l) (i := i) (by rw [← HN.out]; exact hlt)
                generalize l[i]'(by rw [← HN.out]; exact hlt) = x at hx
                have hkl : ks.length = n := by have := HLK.out; unfold keptE at this; rw [List.length_map] at this; exact this
                have hki := List.getElem?_eq_getElem (l := ks) (i := i) (by rw [hkl]; exact hlt)
                generalize ks[i]'(by rw [hkl]; exact hlt) = kk at hki
                have hbn := HK2.out i x.s kk (by rw [List.getElem?_map, hx]; rfl) hki
                obtain ⟨ad, cs, rfl, _, hcs, ⟨rfl, _, _⟩, _⟩ := h.elem 1 rfl hx
                obtain ⟨kd, rfl, hkc⟩ := int_at (x := (kk : Int)) (h.get 0 rfl) (by unfold keptE; rw [List.getElem?_map]; show Option.map _ (ks[i]?) = _; rw [hki]; rfl)
                have H7 := hide h
                obtain ⟨⟨st, sp, ss, sk⟩, pA, pc, pcs, kA, kc, kcs⟩ := x
                obtain ⟨e0, e1, e2, e3⟩ := cells4 hcs
                have hbn : ss ≤ (kk : Int) ∧ kk ≤ sp.length := hbn
                have i0 : (0 : Int) ≤ (i : Int) := by omega
                have i1 : (i : Int) < (n : Int) := by omega
                have d1 : decide ((kk : Int) < ss) = false := decide_eq_false (by omega)
                have d2 : decide ((kk : Int) > (sp.length : Int)) = false := decide_eq_false (by omega)
                have d2' : decide ((sp.length : Int) < (kk : Int)) = false := d2
                clear h hx hcs hki hkl hbn
                go_wp2_with fail
                go_quiet (fail)
                go_wp2_with fail
                go_roundg (n - (i + 1))
                case measure => have := HG.out; omega
                case rel => exact ⟨i + 1, rfl, by omega, by go_num, H7.out.drewN _⟩
              · obtain rfl : n = i := by omega
                have H7 := hide h.swap
                clear h hlt
                go_wp2_with fail
                refine (doc_st A n c l _ (by omega) HFT.out H7.out).mono ?_
                rintro e w4 ⟨O, oc, lo, rfl, hno, hlo, h4⟩
                have HLO := hide hlo
                have H8 := hide h4
                clear h4 H7 hlo hno
                go_wp2_with fail
                refine (right_st O n oc lo B n d ks _ (by have := HLK.out; unfold keptE at this; rw [List.length_map] at this; exact Nat.le_of_eq this.symm) At.here (fun w' h' => h'.get 1 rfl) H8.out).mono ?_
                rintro e w5 ⟨t, rfl, ht, h5⟩
                have htt : t = true := ht.2 (fun s hs => by rw [HLO.out]; exact HK3.out s (by rw [List.length_map, ← HN.out]; exact hs))
                subst htt
                have H9 := hide h5.tail.tail
                clear h5 ht H8
                go_wp2_with fail
                go_ret
                exact ⟨rfl, H9.out⟩
  · have d1 : decide ((n : Int) > 12) = true := decide_eq_true (by omega)
    have d1' : decide ((12 : Int) < (n : Int)) = true := d1
    go_wp2_with fail
    go_ret
    exact ⟨rfl, H1.out.tail.tail⟩
end Go.Proofs.Ytbgknfdaaffeaaa
