/- History: the statement's short; HistoryExplains. -/
import Derived.Test.YtbgknfdaaffeaaaHiAw
import Derived.Test.YtbgknfdaaffeaaaHiG
import Derived.Test.YtbgknfdaaffeaaaHiZ
namespace Go.Proofs.Ytbgknfdaaffeaaa
open Go.RowKit Go.Shelf

theorem same_secs {lo l : List SecX} (h : lo.map SecX.s = l.map SecX.s) {P : SecH → Prop} (hl : ∀ x ∈ l, P x.s) : ∀ x ∈ lo, P x.s := by
  intro x hx
  have : x.s ∈ l.map SecX.s := by rw [← h]; exact List.mem_map_of_mem hx
  obtain ⟨y, hy, e⟩ := List.mem_map.1 this
  rw [← e]
  exact hl y hy
def Few (l : List SecX) : Prop := l.length ≤ 8 ∧ (∀ x ∈ l, x.s.p.length ≤ 8 ∧ x.s.k.length ≤ 12) ∧ waysI 300 (l.map SecX.s) 1 ≤ 300
def FewV (l : List SecX) (v : Value) : Prop := v = .bool false ∨ (v = .bool true ∧ Few l)
set_option maxHeartbeats 2000000 in
set_option maxRecDepth 100000 in
theorem short_st {M0 : Imm} {L : List Res} (A : Option Addr) (n c : Nat) (l : List SecX) (w : World) (h : St M0 w (rowsR 4 SecXR (.slice A n c) l :: L)) :
    Calls Try.prog 15 #[.slice A n c] w fun e w' => ∃ v, e = .returned v ∧ FewV l v ∧ St M0 w' (rowsR 4 SecXR (.slice A n c) l :: L) := by
  obtain ⟨A', c', e, hc, hmx⟩ := (h.getRows 0 rfl).slice
  injection e with e1 e2 e3
  subst e1; subst e3
  have hnc : n ≤ c := by omega
  have HN := hide e2
  have H := hide h
  clear h e2 hc
  go_enter Try.func15, Try.ntmps15
  by_cases h8 : n ≤ 8
  · go_wp2_with fail
    go_loopg [3] n (fun gh iv wr => ∃ (i : Nat), gh = n - i ∧ i ≤ n ∧ iv = .int .i64 (i : Nat) ∧ (∀ j x, j < i → l[j]? = some x → x.s.p.length ≤ 8 ∧ x.s.k.length ≤ 12) ∧ St M0 wr (rowsR 4 SecXR (.slice A n c) l :: L))
    case atStart => exact ⟨0, rfl, by omega, rfl, fun j x h => by omega, H.out⟩
    case round =>
      clear H
      obtain ⟨i, hg, hi, rfl, hr, h⟩ := hrel
      have HG := hide hg
      have HR := hide hr
      clear hg hr
      by_cases hlt : i < n
      · have hx := List.getElem?_eq_getElem (l := l) (i := i) (by rw [← HN.out]; exact hlt)
        generalize l[i]'(by rw [← HN.out]; exact hlt) = x at hx
        obtain ⟨ad, cs, rfl, _, hcs, ⟨rfl, _, _⟩, _⟩ := h.elem 0 rfl hx
        have HX := hide hx
        have H1 := hide h
        have HE := hide (show x.s.p.length ≤ 8 → x.s.k.length ≤ 12 → ∀ j y, j < i + 1 → l[j]? = some y → y.s.p.length ≤ 8 ∧ y.s.k.length ≤ 12 from fun h1 h2 j y hj hy => by
          rcases Nat.lt_succ_iff_lt_or_eq.1 hj with hj | rfl
          · exact HR.out j y hj hy
          · rw [HX.out] at hy
            obtain rfl : x = y := by simpa using hy
            exact ⟨h1, h2⟩)
        obtain ⟨⟨st, sp, ss, sk⟩, pA, pc, pcs, kA, kc, kcs⟩ := x
        obtain ⟨e0, e1, e2, e3⟩ := cells4 hcs
        have HE : Hid (sp.length ≤ 8 → sk.length ≤ 12 → ∀ j y, j < i + 1 → l[j]? = some y → y.s.p.length ≤ 8 ∧ y.s.k.length ≤ 12) := HE
        have i0 : (0 : Int) ≤ (i : Int) := by omega
        have i1 : (i : Int) < (n : Int) := by omega
        clear h hx hcs
        by_cases hp : sp.length ≤ 8
        · have d1 : decide ((sp.length : Int) > 8) = false := decide_eq_false (by omega)
          have d1' : decide ((8 : Int) < (sp.length : Int)) = false := d1
          by_cases hk : sk.length ≤ 12
          · have d2 : decide ((sk.length : Int) > 12) = false := decide_eq_false (by omega)
            have d2' : decide ((12 : Int) < (sk.length : Int)) = false := d2
            have HE2 := hide (HE.out hp hk)
            clear hp hk
            go_wp2_with fail
            go_roundg (n - (i + 1))
            case measure => have := HG.out; omega
            case rel => exact ⟨i + 1, rfl, by omega, by go_num, HE2.out, H1.out⟩
          · have d2 : decide ((sk.length : Int) > 12) = true := decide_eq_true (by omega)
            have d2' : decide ((12 : Int) < (sk.length : Int)) = true := d2
            clear hp hk
            go_wp2_with fail
            go_ret
            exact ⟨_, rfl, .inl rfl, H1.out⟩
        · have d1 : decide ((sp.length : Int) > 8) = true := decide_eq_true (by omega)
          have d1' : decide ((8 : Int) < (sp.length : Int)) = true := d1
          clear hp
          go_wp2_with fail
          go_ret
          exact ⟨_, rfl, .inl rfl, H1.out⟩
      · obtain rfl : n = i := by omega
        have hall : ∀ x ∈ l, x.s.p.length ≤ 8 ∧ x.s.k.length ≤ 12 := fun x hx => by
          obtain ⟨j, hj⟩ := List.mem_iff_getElem?.1 hx
          exact HR.out j x (by rw [HN.out]; exact (List.getElem?_eq_some_iff.1 hj).1) hj
        have HALL := hide hall
        have H1 := hide (h.rowsCopy (by (repeat (first | with_reducible exact At.here | with_reducible apply At.there))))
        clear h hlt
        go_wp2_with fail
        refine (doc_st A n c l _ (by omega) (fun x hx => ⟨by have := (HALL.out x hx).1; omega, by have := (HALL.out x hx).2; omega⟩) H1.out).mono ?_
        rintro e w2 ⟨O, oc, lo, rfl, hno, hlo, h2⟩
        have HLO := hide hlo
        have H2 := hide h2
        clear h2 H1 hlo hno
        go_wp2_with fail
        refine (ways_st O n oc lo 300 _ (by omega) (by omega) (fun x hx => by have := same_secs (P := fun s => s.p.length ≤ 8 ∧ s.k.length ≤ 12) HLO.out HALL.out x hx; omega) At.here H2.out).mono ?_
        rintro e w3 ⟨rfl, h3⟩
        rw [HLO.out]
        obtain ⟨N, hN⟩ : ∃ N, N = waysI 300 (l.map SecX.s) 1 := ⟨_, rfl⟩
        rw [← hN]
        have HNN := hide hN
        have H3 := hide h3.tail
        clear h3 H2 hN
        by_cases hle : N ≤ 300
        · have d1 : decide (N ≤ 300) = true := decide_eq_true hle
          have HF := hide (show Few l from ⟨by rw [← HN.out]; exact h8, HALL.out, by rw [← HNN.out]; exact hle⟩)
          go_wp2_with fail
          go_ret
          exact ⟨_, rfl, .inr ⟨rfl, HF.out⟩, H3.out⟩
        · have d1 : decide (N ≤ 300) = false := decide_eq_false hle
          go_wp2_with fail
          go_ret
          exact ⟨_, rfl, .inl rfl, H3.out⟩
  · go_wp2_with fail
    go_ret
    exact ⟨_, rfl, .inl rfl, H.out⟩
set_option maxHeartbeats 2000000 in
set_option maxRecDepth 100000 in
theorem explains_st {M0 : Imm} {L : List Res} (v : Value) (l : List SecX) (w : World) (hb : ∀ x ∈ l, (∀ y ∈ x.s.p, Byt y.d) ∧ ∀ y ∈ x.s.k, Byt y.d) (h : St M0 w (rowsR 4 SecXR v l :: L)) :
    Calls Try.prog 3 #[v] w fun e w' => e = .returned (.bool true) ∧ St M0 w' L := by
  obtain ⟨A, c, rfl, hc, hmx⟩ := (h.getRows 0 rfl).slice
  obtain ⟨n, hn⟩ : ∃ n, n = l.length := ⟨_, rfl⟩
  rw [← hn] at hc h ⊢
  have HN := hide hn
  have HB := hide hb
  have H := hide h
  clear h hn hb
  go_enter Try.func3, Try.ntmps3
  go_wp2_with fail
  refine (awakeH_st _ H.out).mono ?_
  rintro e w1 ⟨rfl, h1⟩
  have H1 := hide h1
  clear h1 H
  go_wp2_with fail
  refine (short_st A n c l _ H1.out).mono ?_
  rintro e w2 ⟨v2, rfl, hf, h2⟩
  rcases hf with rfl | ⟨rfl, hf⟩
  · have H2 := hide h2.tail
    clear h2 H1
    go_wp2_with fail
    go_ret
    exact ⟨rfl, H2.out⟩
  · have H2 := hide ((h2.rowsCopy (by (repeat (first | with_reducible exact At.here | with_reducible apply At.there)))).rowsCopy (size := 4) (Q := SecXR) (v := .slice A n c) (xs := l) (by (repeat (first | with_reducible exact At.here | with_reducible apply At.there))))
    have HFW := hide hf
    clear h2 H1 hf
    go_wp2_with fail
    refine (explain_st A n c l _ (by have := HFW.out.1; omega) (fun x hx => ⟨(HB.out x hx).1, (HB.out x hx).2, by have := (HFW.out.2.1 x hx).1; omega⟩) H2.out).mono ?_
    rintro e w3 ⟨v3, rfl, h3⟩
    obtain ⟨EX, hEX⟩ : ∃ EX, EX = explM (l.map SecX.s) := ⟨_, rfl⟩
    rw [← hEX] at h3 ⊢
    have HEX := hide hEX
    have H3 := hide (h3.swap)
    clear h3 H2 hEX
    go_wp2_with fail
    refine (doc_st A n c l _ (by have := HFW.out.1; have := HN.out; omega) (fun x hx => ⟨by have := (HFW.out.2.1 x hx).1; omega, by have := (HFW.out.2.1 x hx).2; omega⟩) H3.out).mono ?_
    rintro e w4 ⟨O, oc, lo, rfl, hno, hlo, h4⟩
    have HLO := hide hlo
    have H4 := hide h4
    clear h4 H3 hlo hno
    go_wp2_with fail
    have hlol : lo.length = l.length := by have := congrArg List.length HLO.out; simpa using this
    refine (explD_st O n oc lo _ (by rw [hlol]; have := HFW.out.1; omega) (same_secs (P := fun s => s.p.length ≤ 100) HLO.out (fun x hx => by have := (HFW.out.2.1 x hx).1; omega)) (by rw [HLO.out, waysI_more (most := 300) (by omega) _ _ HFW.out.2.2]; have := HFW.out.2.2; omega) At.here H4.out).mono ?_
    rintro e w5 ⟨v5, rfl, h5⟩
    rw [HLO.out, ← HEX.out] at h5 ⊢
    have hkl : (keptE EX).length ≤ 100 := by
      cases hE : EX with
      | none => simp [keptE]
      | some ks =>
        have h1 := HEX.out
        rw [hE] at h1
        unfold explM at h1
        split at h1
        · cases h1
        · have := explB_length _ _ _ h1.symm
          rw [List.length_map] at this
          have := HFW.out.1
          simp [keptE]
          omega
    have HKL := hide hkl
    have H5 := hide h5
    clear h5 H4 hlol hkl
    go_wp2_with fail
    refine (numbers_st v3 v5 (keptE EX) (keptE EX) _ (H5.out.get 2 rfl) (H5.out.get 0 rfl) (by have := HKL.out; omega) (by have := HKL.out; omega) H5.out).mono ?_
    rintro e w6 ⟨rfl, h6⟩
    rw [decide_eq_true rfl]
    have H6 := hide (h6.sub (L' := L) (by (repeat (first | with_reducible exact Sub.refl _ | (with_reducible apply Sub.take; focus (repeat (first | with_reducible exact At.here | with_reducible apply At.there))) | with_reducible apply Sub.drop))))
    clear h6 H5
    go_wp2_with fail
    go_ret
    exact ⟨rfl, H6.out⟩
end Go.Proofs.Ytbgknfdaaffeaaa
