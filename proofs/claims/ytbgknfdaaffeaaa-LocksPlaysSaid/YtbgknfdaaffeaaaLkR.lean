/- Locks: right, mode, there; held. -/
import Derived.Test.YtbgknfdaaffeaaaLkG
namespace Go.Proofs.Ytbgknfdaaffeaaa
open Go.RowKit Go.Shelf

theorem idxL_find {α : Type} (p : α → Bool) (l : List α) : (idxL p 0 l = -1 ∧ l.find? p = none) ∨ ∃ (k : Nat) (x : α), idxL p 0 l = (k : Int) ∧ l[k]? = some x ∧ p x = true ∧ l.find? p = some x ∧ l.eraseP p = l.eraseIdx k := by
  rcases idxL_spec p l 0 with ⟨h1, h2⟩ | ⟨k, x, h1, h2, h3, h4⟩
  · refine .inl ⟨h1, ?_⟩
    rw [List.find?_eq_none]
    intro x hx
    have := List.any_eq_false.1 h2 x hx
    simpa using this
  · refine .inr ⟨k, x, by rw [h1]; congr 1; omega, h2, h3, ?_, ?_⟩
    · clear h1
      induction l generalizing k with
      | nil => simp at h2
      | cons y r ih =>
        cases k with
        | zero =>
          obtain rfl : y = x := by simpa using h2
          rw [List.find?_cons_of_pos h3]
        | succ k =>
          rw [List.take_succ_cons, List.any_cons, Bool.or_eq_false_iff] at h4
          rw [List.find?_cons_of_neg (by rw [h4.1]; exact Bool.false_ne_true)]
          exact ih k (by simpa using h2) h4.2
    · clear h1
      induction l generalizing k with
      | nil => simp at h2
      | cons y r ih =>
        cases k with
        | zero =>
          obtain rfl : y = x := by simpa using h2
          rw [List.eraseP_cons_of_pos h3]
          rfl
        | succ k =>
          rw [List.take_succ_cons, List.any_cons, Bool.or_eq_false_iff] at h4
          rw [List.eraseP_cons_of_neg (by rw [h4.1]; exact Bool.false_ne_true), List.eraseIdx_cons_succ]
          rw [ih k (by simpa using h2) h4.2]
theorem tab_self (T : TabM) (i : Nat) : (⟨T.now, T.last, upd T.r i ⟨(T.r i).h, (T.r i).w⟩⟩ : TabM) = T := by
  cases T with
  | mk a b r =>
    congr 1
    funext j
    unfold upd
    split
    · rename_i e
      subst e
      rfl
    · rfl
set_option maxHeartbeats 400000 in
theorem node_st {M0 : Imm} {L : List Res} (c : Int) (w : World) (h : St M0 w L) : Calls Try.prog 139 #[.int .i64 c] w fun e w' => e = .returned (.bool (nodeB c)) ∧ St M0 w' L := by
  obtain ⟨d1, hd1⟩ : ∃ d1, decide (0 ≤ c) = d1 := ⟨_, rfl⟩
  have hd1' : decide (c ≥ 0) = d1 := hd1
  obtain ⟨d2, hd2⟩ : ∃ d2, decide (c < 16) = d2 := ⟨_, rfl⟩
  have HB := hide (show nodeB c = (d1 && d2) by unfold nodeB; rw [hd1, hd2])
  have H := hide h
  clear h
  go_enter Try.func139, Try.ntmps139
  cases d1 <;> cases d2
  all_goals (go_wp2_with fail; go_ret; exact ⟨by rw [HB.out]; try rfl, H.out⟩)
set_option maxHeartbeats 400000 in
theorem there_st {M0 : Imm} {L : List Res} (c : Int) (w : World) (h : St M0 w L) : Calls Try.prog 88 #[.int .i64 c] w fun e w' => e = .returned (.bool (thereB c)) ∧ St M0 w' L := by
  obtain ⟨d1, hd1⟩ : ∃ d1, decide (0 ≤ c) = d1 := ⟨_, rfl⟩
  have hd1' : decide (c ≥ 0) = d1 := hd1
  obtain ⟨d2, hd2⟩ : ∃ d2, decide (c < 4) = d2 := ⟨_, rfl⟩
  have HB := hide (show thereB c = (d1 && d2) by unfold thereB; rw [hd1, hd2])
  have H := hide h
  clear h
  go_enter Try.func88, Try.ntmps88
  cases d1 <;> cases d2
  all_goals (go_wp2_with fail; go_ret; exact ⟨by rw [HB.out]; try rfl, H.out⟩)
set_option maxHeartbeats 400000 in
theorem mode_st {M0 : Imm} {L : List Res} (c : Int) (w : World) (h : St M0 w L) : Calls Try.prog 94 #[.int .i64 c] w fun e w' => e = .returned (.bool (modeB c)) ∧ St M0 w' L := by
  obtain ⟨d1, hd1⟩ : ∃ d1, (c == 1) = d1 := ⟨_, rfl⟩
  obtain ⟨d2, hd2⟩ : ∃ d2, (c == 2) = d2 := ⟨_, rfl⟩
  have HB := hide (show modeB c = (d1 || d2) by unfold modeB; rw [hd1, hd2])
  have H := hide h
  clear h
  go_enter Try.func94, Try.ntmps94
  cases d1 <;> cases d2
  all_goals (go_wp2_with fail; go_ret; exact ⟨by rw [HB.out]; try rfl, H.out⟩)
set_option maxHeartbeats 400000 in
theorem right_st {M0 : Imm} {L : List Res} (c r : Int) (w : World) (h : St M0 w L) : Calls Try.prog 93 #[.int .i64 c, .int .i64 r] w fun e w' => e = .returned (.int .i64 (rightE c r)) ∧ St M0 w' L := by
  have H := hide h
  clear h
  go_enter Try.func93, Try.ntmps93
  go_wp2_with fail
  refine (node_st c _ H.out).mono ?_
  rintro e w1 ⟨rfl, h1⟩
  have H1 := hide h1
  clear h1 H
  cases hn : nodeB c with
  | false =>
    have E := hide (show rightE c r = 31 from if_pos hn)
    go_wp2_with fail
    go_ret
    exact ⟨by rw [E.out]; try rfl, H1.out⟩
  | true =>
    have E0 := hide (show rightE c r = if thereB r = false then 93 else 0 from if_neg (by rw [hn]; exact Bool.noConfusion))
    clear hn
    go_wp2_with fail
    refine (there_st r _ H1.out).mono ?_
    rintro e w2 ⟨rfl, h2⟩
    have H2 := hide h2
    clear h2 H1
    cases ht : thereB r with
    | false =>
      have E := hide (E0.out.trans (if_pos ht))
      go_wp2_with fail
      go_ret
      exact ⟨by rw [E.out]; try rfl, H2.out⟩
    | true =>
      have E := hide (E0.out.trans (if_neg (by rw [ht]; exact Bool.noConfusion)))
      go_wp2_with fail
      go_ret
      exact ⟨by rw [E.out]; try rfl, H2.out⟩
set_option maxHeartbeats 2000000 in
set_option maxRecDepth 100000 in
/-- held: where all is right, the address of the hold -/
theorem held_st {M0 : Imm} {L : List Res} (g : Nat) (T : TabM) (c r t : Int) (w : World) (h : St M0 w (tabR g T :: L)) :
    Calls Try.prog 99 #[.pointer (some ⟨g, 0, none⟩), .int .i64 c, .int .i64 r, .int .u64 t] w fun e w' => ∃ p, e = .returned (.tuple #[.pointer p, .int .i64 (T.heldE c r t)]) ∧
      (T.heldE c r t ≠ 0 → St M0 w' (tabR g T :: L)) ∧
      (T.heldE c r t = 0 → ∃ (i k : Nat) (x : HoldM) (vs : Nat → RegV) (b n cc : Nat), i < 4 ∧ r = (i : Int) ∧ idxL (fun h => h.c == c) 0 (T.r i).h = (k : Int) ∧ (T.r i).h[k]? = some x ∧ x.t = t ∧ (vs i).h = ⟨some ⟨b, 0, none⟩, n, cc⟩ ∧ p = some ⟨b, k * 4, none⟩ ∧ St M0 w' (tabB g T.now T.last vs :: holdsR (vs i).h (T.r i).h :: wantsR (vs i).w (T.r i).w :: othT vs T.r i :: L)) := by
  have H := hide h
  clear h
  go_enter Try.func99, Try.ntmps99
  go_wp2_with fail
  refine (right_st c r _ H.out).mono ?_
  rintro e w1 ⟨rfl, h1⟩
  by_cases hr : rightE c r = 0
  · have hb := rightE_ok hr
    obtain ⟨i, rfl⟩ := Int.eq_ofNat_of_zero_le hb.2.2.1
    have hi4 : i < 4 := by omega
    obtain ⟨vs, h2⟩ := h1.tabO hi4
    obtain ⟨⟨A, n, cc⟩, wv, hvi⟩ : ∃ hv wv, vs i = ⟨hv, wv⟩ := ⟨_, _, rfl⟩
    have hvh : (vs i).h = ⟨A, n, cc⟩ := by rw [hvi]
    have E0 := hide (show T.heldE c (i : Int) t = match findH (T.r i).h c with
        | some h => if h.t = t then 0 else 92
        | none => 92 from if_neg (by rw [hr]; simp))
    rw [hr]
    have HVH := hide hvh
    rw [hvh] at h2
    have ch : w1.cell? ⟨g, 2 + i * 2, none⟩ = some (.slice A n cc) := by
      refine ((h2.blk 0 rfl).cell (2 + i * 2)).trans ?_
      refine (tabC_h T.now T.last vs hi4).trans ?_
      rw [hvi]
    have i0 : (0 : Int) ≤ (i : Int) := by omega
    have i1 : (i : Int) < 4 := by omega
    have H2 := hide h2
    clear h1 h2 H hr hb hvi hvh
    go_wp2_with fail
    refine (holdAt_st g (2 + i * 2) A n cc (T.r i).h c _ ch (fun W hW => hW.flatO (by (repeat (first | with_reducible exact At.here | with_reducible apply At.there)))) H2.out).mono ?_
    rintro e w2 ⟨rfl, h3⟩
    rcases idxL_find (fun h => h.c == c) (T.r i).h with ⟨hz, hf⟩ | ⟨k, x, hz, hk, hp, hf, _⟩
    · have E := hide (E0.out.trans (show _ = (92 : Int) by unfold findH; rw [hf]))
      rw [hz]
      have H3 := hide (show St M0 w2 (tabR g T :: L) by
        have h4 : St M0 w2 (tabB g T.now T.last vs :: holdsR (vs i).h (T.r i).h :: wantsR (vs i).w (T.r i).w :: othT vs T.r i :: L) := by rw [HVH.out]; exact h3
        have h5 := h4.tabC_ hi4
        rwa [show (⟨T.now, T.last, upd T.r i ⟨(T.r i).h, (T.r i).w⟩⟩ : TabM) = T from tab_self T i] at h5)
      clear h3 H2 hz hf ch
      go_wp2_with fail
      go_ret2
      exact ⟨none, by rw [E.out]; try rfl, fun _ => H3.out, fun h => by rw [E.out] at h; omega⟩
    · rw [hz]
      have HZ := hide hz
      have HK := hide hk
      have E1 := hide (E0.out.trans (show _ = if x.t = t then (0 : Int) else 92 by unfold findH; rw [hf]))
      have hlk := (List.getElem?_eq_some_iff.1 hk).1
      obtain ⟨hn, hncc, _, _⟩ := (h3.flatO (C := holdC) (e := 91) (size := 4) (v := .slice A n cc) (xs := (T.r i).h) (by (repeat (first | with_reducible exact At.here | with_reducible apply At.there)))).sl
      obtain ⟨ad, rfl, hcs⟩ := (h3.flatO (C := holdC) (e := 91) (size := 4) (v := .slice A n cc) (xs := (T.r i).h) (by (repeat (first | with_reducible exact At.here | with_reducible apply At.there)))).at_ holdC_len hk
      obtain ⟨b, hbb⟩ := own_form ((h3.front (X := ownR holdC 91 4 (.slice (some ad) n cc) (T.r i).h) (by (repeat (first | with_reducible exact At.here | with_reducible apply At.there)))).ownOpen.2.row 0 rfl) (by omega)
      injection hbb with hbb
      subst hbb
      rw [show (⟨b, 0, none⟩ : Addr).add (k * 4) = ⟨b, k * 4, none⟩ by (generalize k * 4 = m; simp [Addr.add]; exact Eq.symm)] at hcs
      obtain ⟨e0, e1, e2, e3⟩ := cells4F hcs
      have ch2 : w2.cell? ⟨g, 2 + i * 2, none⟩ = some (.slice (some ⟨b, 0, none⟩) n cc) := by
        refine ((h3.blk 0 rfl).cell (2 + i * 2)).trans ?_
        refine (tabC_h T.now T.last vs hi4).trans ?_
        rw [HVH.out]
      have k0 : (0 : Int) ≤ (k : Int) := by omega
      have k1 : (k : Int) < (n : Int) := by omega
      have kn : decide ((k : Int) < 0) = false := decide_eq_false (by omega)
      have H3 := hide h3
      have HN := hide hn
      clear h3 H2 hz hf hk ch hcs hlk hn
      by_cases ht : x.t = t
      · have b1 : (x.t != t) = false := isNF ht
        have E := hide (E1.out.trans (if_pos ht))
        have HT := hide ht
        clear ht
        go_wp2_with fail
        go_ret2
        refine ⟨some ⟨b, k * 4, none⟩, by rw [E.out]; try rfl, fun h => absurd E.out h, fun _ => ⟨i, k, x, vs, b, n, cc, hi4, rfl, HZ.out, HK.out, HT.out, HVH.out, rfl, ?_⟩⟩
        rw [HVH.out]
        exact H3.out
      · have b1 : (x.t != t) = true := isN ht
        have E := hide (E1.out.trans (if_neg ht))
        have H4 := hide (show St M0 w2 (tabR g T :: L) by
          have h4 : St M0 w2 (tabB g T.now T.last vs :: holdsR (vs i).h (T.r i).h :: wantsR (vs i).w (T.r i).w :: othT vs T.r i :: L) := by rw [HVH.out]; exact H3.out
          have h5 := h4.tabC_ hi4
          rwa [show (⟨T.now, T.last, upd T.r i ⟨(T.r i).h, (T.r i).w⟩⟩ : TabM) = T from tab_self T i] at h5)
        clear ht H3
        go_wp2_with fail
        go_ret2
        exact ⟨none, by rw [E.out]; try rfl, fun _ => H4.out, fun h => by rw [E.out] at h; omega⟩
  · have E := hide (show T.heldE c r t = rightE c r from if_pos hr)
    obtain ⟨z, hz⟩ : ∃ z, z = rightE c r := ⟨_, rfl⟩
    rw [← hz] at hr E ⊢
    have b1 := isN hr
    have H1 := hide h1
    have HR := hide hr
    clear h1 H hz hr
    go_wp2_with fail
    go_ret2
    exact ⟨none, by rw [E.out]; try rfl, fun _ => H1.out, fun h => absurd (E.out.symm.trans h) HR.out⟩
end Go.Proofs.Ytbgknfdaaffeaaa
