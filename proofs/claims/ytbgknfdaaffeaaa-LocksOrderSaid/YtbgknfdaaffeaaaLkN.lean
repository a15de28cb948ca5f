/- Locks: what an op does to those that wait; while somebody waits somebody holds. -/
import Derived.Test.YtbgknfdaaffeaaaLkL
namespace Go.Proofs.Ytbgknfdaaffeaaa

def sameW (x y : WantM) : Bool := (x.c == y.c) && (x.m == y.m)
theorem sameW_iff {x y : WantM} : sameW x y = true ↔ x = y := by
  cases x; cases y
  simp [sameW]
/-- how many of the second list are found in the first one, in order -/
def greedy : List WantM → List WantM → Nat
  | [], _ => 0
  | _ :: _, [] => 0
  | x :: xs, y :: ys => if sameW y x = true then greedy xs ys + 1 else greedy xs (y :: ys)
theorem greedy_nil : ∀ l, greedy l [] = 0
  | [] => rfl
  | _ :: _ => rfl
theorem greedy_ge : ∀ (l s t : List WantM), s.Sublist l → s.length ≤ greedy l (s ++ t)
  | [], s, t, h => by rw [List.sublist_nil.1 h]; exact Nat.zero_le _
  | x :: xs, [], t, h => Nat.zero_le _
  | x :: xs, y :: ys, t, h => by
    show _ ≤ if sameW y x = true then greedy xs (ys ++ t) + 1 else greedy xs (y :: (ys ++ t))
    by_cases e : sameW y x = true
    · rw [if_pos e]
      have e := sameW_iff.1 e
      subst e
      have := greedy_ge xs ys t (List.cons_sublist_cons.1 h)
      simp
      exact this
    · rw [if_neg e]
      refine greedy_ge xs (y :: ys) t ?_
      cases h with
      | cons _ h => exact h
      | cons_cons _ h => exact absurd (sameW_iff.2 rfl) e
theorem greedy_le : ∀ (l q : List WantM), greedy l q ≤ q.length
  | [], q => Nat.zero_le _
  | _ :: _, [] => Nat.zero_le _
  | x :: xs, y :: ys => by
    unfold greedy
    split
    · have := greedy_le xs ys; simp; exact this
    · exact greedy_le xs (y :: ys)
theorem giveL_suffix (now : Int) : ∀ (ws : List WantM) (hs : List HoldM) (last : Int), (giveL now ws hs last).1.Sublist ws
  | [], hs, last => by simp [giveL]
  | x :: ws, hs, last => by
    unfold giveL
    split
    · exact (giveL_suffix now ws _ _).cons x
    · exact List.Sublist.refl _
theorem giveL_last (now : Int) : ∀ (ws : List WantM) (hs : List HoldM) (last : Int), (giveL now ws hs last).2.2 ≤ last + ws.length
  | [], hs, last => by simp [giveL]
  | x :: ws, hs, last => by
    unfold giveL
    split
    · have := giveL_last now ws (hs ++ [⟨x.c, x.m, last + 1, untilI now⟩]) (last + 1)
      simp
      omega
    · simp
      omega
theorem giveL_wait (now : Int) : ∀ (ws : List WantM) (hs : List HoldM) (last : Int), (giveL now ws hs last).2.2 < 18446744073709551615 → (giveL now ws hs last).1 ≠ [] → (giveL now ws hs last).2.1 ≠ []
  | [], hs, last => fun _ h => absurd rfl h
  | x :: ws, hs, last => by
    unfold giveL
    split
    · exact giveL_wait now ws _ _
    · rename_i hc
      intro hl _ h0
      have h0 : hs = [] := h0
      subst h0
      exact hc ⟨by simp, rfl, hl⟩
structure OInv (k : Nat) (T : TabM) : Prop where
  last : T.last ≤ 16 * (k : Int)
  wait : ∀ i, i < 4 → (T.r i).w ≠ [] → (T.r i).h ≠ []
/-- those that wait, behind an op -/
def QSub (T T' : TabM) : Prop := ∀ i, i < 4 → (T'.r i).w.Sublist (T.r i).w
theorem QSub.refl (T : TabM) : QSub T T := fun _ _ => List.Sublist.refl _
theorem QSub.trans {A B C : TabM} (h : QSub A B) (k : QSub B C) : QSub A C := fun i hi => (k i hi).trans (h i hi)
theorem QSub.give (T : TabM) (i : Nat) : QSub T (T.give i) := fun j hj => by
  show (upd T.r i _ j).w.Sublist _
  unfold upd
  split
  · rename_i e
    subst e
    exact giveL_suffix _ _ _ _
  · exact List.Sublist.refl _
theorem QSub.setH (T : TabM) (i : Nat) (hs : List HoldM) : QSub T (T.setH i hs) := fun j hj => by
  show (upd T.r i _ j).w.Sublist _
  unfold upd
  split
  · rename_i e
    subst e
    exact List.Sublist.refl _
  · exact List.Sublist.refl _
theorem QSub.setW {T : TabM} {i : Nat} {ws : List WantM} (h : ws.Sublist (T.r i).w) : QSub T (T.setW i ws) := fun j hj => by
  show (upd T.r i _ j).w.Sublist _
  unfold upd
  split
  · rename_i e
    subst e
    exact h
  · exact List.Sublist.refl _
theorem QSub.done (T : TabM) (o : OpL) (h : o.d ≠ 1) : QSub T (doneM T o) := by
  unfold doneM
  rw [if_neg h]
  split
  · unfold TabM.release
    split
    · exact QSub.refl T
    · exact (QSub.setH T _ _).trans (QSub.give _ _)
  · split
    · unfold TabM.renew
      split
      · exact QSub.refl T
      · exact QSub.setH T _ _
    · split
      · unfold TabM.cancel
        split
        · exact QSub.refl T
        · split
          · exact (QSub.setW List.eraseP_sublist).trans (QSub.give _ _)
          · exact QSub.refl T
      · split
        · unfold TabM.time
          split
          · exact QSub.refl T
          · have h0 : QSub T (TabM.mk o.n T.last (fun i => ⟨(T.r i).h.filter (fun h => !decide (h.u ≤ o.n)), (T.r i).w⟩)) := fun _ _ => List.Sublist.refl _
            exact (((h0.trans (QSub.give _ _)).trans (QSub.give _ _)).trans (QSub.give _ _)).trans (QSub.give _ _)
        · exact QSub.refl T
theorem acq_queue (T : TabM) (c r how : Int) : ∀ i, i < 4 → ∃ s, s.Sublist (T.r i).w ∧ (((T.acquire c r how).1.r i).w = s ∨ ∃ x, ((T.acquire c r how).1.r i).w = s ++ [x]) := by
  intro i hi
  have h0 : ∃ s, s.Sublist (T.r i).w ∧ ((T.r i).w = s ∨ ∃ x, (T.r i).w = s ++ [x]) := ⟨_, List.Sublist.refl _, .inl rfl⟩
  have h1 : ∀ j, ∃ s, s.Sublist (T.r i).w ∧ (((((T.setW j ((T.r j).w ++ [⟨c, how⟩]))).give j).r i).w = s ∨ ∃ x, ((((T.setW j ((T.r j).w ++ [⟨c, how⟩]))).give j).r i).w = s ++ [x]) := by
    intro j
    have hs := QSub.give (T.setW j ((T.r j).w ++ [⟨c, how⟩])) j i hi
    generalize ((((T.setW j ((T.r j).w ++ [⟨c, how⟩]))).give j).r i).w = q at hs
    by_cases e : i = j
    · subst e
      rw [show ((T.setW i ((T.r i).w ++ [⟨c, how⟩])).r i).w = (T.r i).w ++ [⟨c, how⟩] by unfold TabM.setW upd; simp] at hs
      obtain ⟨l1, l2, rfl, h1, h2⟩ := List.sublist_append_iff.1 hs
      refine ⟨l1, h1, ?_⟩
      cases h2 with
      | cons _ h2 => rw [List.sublist_nil.1 h2]; exact .inl (List.append_nil _)
      | cons_cons _ h2 => rw [List.sublist_nil.1 h2]; exact .inr ⟨_, rfl⟩
    · rw [show ((T.setW j ((T.r j).w ++ [⟨c, how⟩])).r i).w = (T.r i).w by unfold TabM.setW upd; simp [e]] at hs
      exact ⟨q, hs, .inl rfl⟩
  unfold TabM.acquire
  split
  · exact h0
  · split
    · exact h0
    · unfold TabM.acqIn
      split
      · split <;> exact h0
      · split
        · split <;> exact h0
        · split
          · exact h0
          · unfold TabM.acqNew
            split <;> exact h1 _
/-- how those that wait stand, against how they stood -/
theorem order_ok (T : TabM) (o : OpL) {i : Nat} (hi : i < 4) : ((doneM T o).r i).w.length ≤ greedy (T.r i).w ((doneM T o).r i).w + 1 ∧ (o.d ≠ 1 → ((doneM T o).r i).w.length ≤ greedy (T.r i).w ((doneM T o).r i).w) := by
  by_cases h : o.d = 1
  · refine ⟨?_, fun h' => absurd h h'⟩
    have e : doneM T o = (T.acquire o.c o.r o.m).1 := if_pos h
    rw [e]
    obtain ⟨s, hs, h1 | ⟨x, h1⟩⟩ := acq_queue T o.c o.r o.m i hi
    · rw [h1]
      have := greedy_ge _ s [] hs
      rw [List.append_nil] at this
      omega
    · rw [h1]
      have := greedy_ge _ s [x] hs
      simp
      exact this
  · have h1 := greedy_ge _ _ [] (QSub.done T o h i hi)
    rw [List.append_nil] at h1
    exact ⟨by omega, fun _ => h1⟩
theorem OInv.give {T : TabM} {i : Nat} {last0 : Int} (hok : TabOk T) (hi : i < 4) (hl : T.last ≤ last0) (hb : last0 + 4 < 18446744073709551615) (hw : ∀ j, j < 4 → j ≠ i → (T.r j).w ≠ [] → (T.r j).h ≠ []) :
    (T.give i).last ≤ last0 + 4 ∧ ∀ j, j < 4 → ((T.give i).r j).w ≠ [] → ((T.give i).r j).h ≠ [] := by
  have h1 := giveL_last T.now (T.r i).w (T.r i).h T.last
  have h2 := hok.wl i hi
  have h3 : (T.give i).last ≤ last0 + 4 := by
    show (giveL T.now (T.r i).w (T.r i).h T.last).2.2 ≤ _
    omega
  refine ⟨h3, fun j hj => ?_⟩
  show (upd T.r i _ j).w ≠ [] → (upd T.r i _ j).h ≠ []
  unfold upd
  split
  · exact giveL_wait _ _ _ _ (by show (T.give i).last < _; omega)
  · rename_i e
    exact hw j hj e
theorem OInv.done {k : Nat} {T : TabM} (h : OInv k T) (hok : TabOk T) (hk : k ≤ 1000) (o : OpL) (hn : o.n ≤ 18446744073709551615) : OInv (k + 1) (doneM T o) := by
  have h1 := h.last
  have base : OInv (k + 1) T := ⟨by omega, h.wait⟩
  have gv : ∀ {T' : TabM} {i : Nat}, TabOk T' → i < 4 → T'.last = T.last → (∀ j, j ≠ i → T'.r j = T.r j) → OInv (k + 1) (T'.give i) := by
    intro T' i hok' hi hl hr
    obtain ⟨a, b⟩ := OInv.give hok' hi (last0 := 16 * (k : Int)) (by omega) (by omega) (fun j hj hji => by rw [hr j hji]; exact h.wait j hj)
    exact ⟨by omega, b⟩
  have sr : ∀ {i : Nat} {hs : List HoldM}, ∀ j, j ≠ i → (T.setH i hs).r j = T.r j := fun j hj => by unfold TabM.setH upd; simp [hj]
  have sw : ∀ {i : Nat} {ws : List WantM}, ∀ j, j ≠ i → (T.setW i ws).r j = T.r j := fun j hj => by unfold TabM.setW upd; simp [hj]
  unfold doneM
  split
  · unfold TabM.acquire
    split
    · exact base
    · rename_i hr
      have hr := rightE_ok (by omega : rightE o.c o.r = 0)
      split
      · exact base
      · unfold TabM.acqIn
        split
        · split <;> exact base
        · split
          · split <;> exact base
          · split
            · exact base
            · rename_i hn
              have hs : OInv (k + 1) (((T.setW o.r.toNat ((T.r o.r.toNat).w ++ [⟨o.c, o.m⟩]))).give o.r.toNat) := gv (hok.setW (by simp; omega)) (by omega) rfl sw
              unfold TabM.acqNew
              split <;> exact hs
  · split
    · unfold TabM.release
      split
      · exact base
      · rename_i he
        have hr := rightE_ok (held_right (by omega : T.heldE o.c o.r (tokenM o (T.holders o.r)) = 0))
        exact gv (hok.setH (Nat.le_trans List.length_eraseP_le (hok.hl o.r.toNat (by omega)))) (by omega) rfl sr
    · split
      · unfold TabM.renew
        split
        · exact base
        · refine ⟨by show T.last ≤ _; omega, fun j hj => ?_⟩
          show (upd T.r _ _ j).w ≠ [] → (upd T.r _ _ j).h ≠ []
          unfold upd
          split
          · rename_i e
            subst e
            intro hw h0
            have hl := congrArg List.length h0
            rw [show (⟨renewH (T.r o.r.toNat).h o.c (untilI T.now), (T.r o.r.toNat).w⟩ : RegM).h = renewH (T.r o.r.toNat).h o.c (untilI T.now) from rfl, renewH_length] at hl
            exact h.wait _ hj hw (List.eq_nil_of_length_eq_zero hl)
          · exact h.wait j hj
      · split
        · unfold TabM.cancel
          split
          · exact base
          · rename_i he
            have hr := rightE_ok (by omega : rightE o.c o.r = 0)
            split
            · exact gv (hok.setW (Nat.le_trans List.length_eraseP_le (hok.wl o.r.toNat (by omega)))) (by omega) rfl sw
            · exact base
        · split
          · unfold TabM.time
            split
            · exact base
            · rename_i hnow
              have h0 := hok.now0
              have ok0 : TabOk (TabM.mk o.n T.last (fun i => ⟨(T.r i).h.filter (fun h => !decide (h.u ≤ o.n)), (T.r i).w⟩)) :=
                ⟨by show 0 ≤ o.n; omega, hn, hok.last0, hok.last1, fun j hj => Nat.le_trans (List.length_filter_le _ _) (hok.hl j hj), fun j hj => hok.wl j hj⟩
              generalize hT0 : TabM.mk o.n T.last (fun i => ⟨(T.r i).h.filter (fun h => !decide (h.u ≤ o.n)), (T.r i).w⟩) = T0 at ok0
              have hl0 : T0.last = T.last := by rw [← hT0]
              have step : ∀ {T1 : TabM} {i : Nat} {b : Int}, TabOk T1 → i < 4 → T1.last ≤ b → b + 4 < 18446744073709551615 → (∀ j, j < i → (T1.r j).w ≠ [] → (T1.r j).h ≠ []) →
                  (T1.give i).last ≤ b + 4 ∧ ∀ j, j < i + 1 → ((T1.give i).r j).w ≠ [] → ((T1.give i).r j).h ≠ [] := by
                intro T1 i b hk1 hi hb1 hb2 hw
                have e1 := giveL_last T1.now (T1.r i).w (T1.r i).h T1.last
                have e2 := hk1.wl i hi
                have e3 : (T1.give i).last ≤ b + 4 := by
                  show (giveL T1.now (T1.r i).w (T1.r i).h T1.last).2.2 ≤ _
                  omega
                refine ⟨e3, fun j hj => ?_⟩
                show (upd T1.r i _ j).w ≠ [] → (upd T1.r i _ j).h ≠ []
                unfold upd
                split
                · exact giveL_wait _ _ _ _ (by show (T1.give i).last < _; omega)
                · exact hw j (by omega)
              obtain ⟨a0, b0⟩ := step ok0 (by omega : 0 < 4) (b := 16 * (k : Int)) (by omega) (by omega) (fun j hj => by omega)
              have ok1 := ok0.give (by omega : 0 < 4)
              obtain ⟨a1, b1⟩ := step ok1 (by omega : 1 < 4) a0 (by omega) b0
              have ok2 := ok1.give (by omega : 1 < 4)
              obtain ⟨a2, b2⟩ := step ok2 (by omega : 2 < 4) a1 (by omega) b1
              have ok3 := ok2.give (by omega : 2 < 4)
              obtain ⟨a3, b3⟩ := step ok3 (by omega : 3 < 4) a2 (by omega) b2
              exact ⟨by omega, b3⟩
          · exact base
end Go.Proofs.Ytbgknfdaaffeaaa
