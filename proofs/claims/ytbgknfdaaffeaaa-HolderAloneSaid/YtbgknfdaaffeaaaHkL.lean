/- HolderAlone, plainly: what the clients believe, the table has. -/
import Derived.Test.YtbgknfdaaffeaaaLkL
import Derived.Test.YtbgknfdaaffeaaaHk
namespace Go.Proofs.Ytbgknfdaaffeaaa

def Keep (T T' : TabM) (c : Int) (i : Nat) : Prop :=
  ∀ x, findH (T.r i).h c = some x → x.u ≤ T'.now ∨ ∃ y, findH (T'.r i).h c = some y ∧ y.m = x.m ∧ x.u ≤ y.u
theorem Keep.refl (T : TabM) (c : Int) (i : Nat) : Keep T T c i := fun x h => .inr ⟨x, h, rfl, Int.le_refl _⟩
theorem Keep.same {T T' : TabM} {c : Int} {i : Nat} (h : (T'.r i).h = (T.r i).h) : Keep T T' c i := fun x hx => .inr ⟨x, by rw [h]; exact hx, rfl, Int.le_refl _⟩
theorem Keep.trans {A B C : TabM} {c : Int} {i : Nat} (h : Keep A B c i) (k : Keep B C c i) (hn : B.now ≤ C.now) : Keep A C c i := fun x hx => by
  rcases h x hx with h1 | ⟨y, hy, h2, h3⟩
  · exact .inl (by omega)
  · rcases k y hy with h4 | ⟨z, hz, h5, h6⟩
    · exact .inl (by omega)
    · exact .inr ⟨z, hz, by rw [h5, h2], by omega⟩
theorem giveL_app (now : Int) : ∀ (ws : List WantM) (hs : List HoldM) (last : Int), ∃ l, (giveL now ws hs last).2.1 = hs ++ l ∧ ∀ y ∈ l, y.u = untilI now ∧ ∃ q ∈ ws, y.c = q.c ∧ y.m = q.m
  | [], hs, last => ⟨[], by simp [giveL], fun _ h => absurd h (by simp)⟩
  | x :: ws, hs, last => by
    unfold giveL
    split
    · obtain ⟨l, h1, h2⟩ := giveL_app now ws (hs ++ [⟨x.c, x.m, last + 1, untilI now⟩]) (last + 1)
      refine ⟨⟨x.c, x.m, last + 1, untilI now⟩ :: l, by rw [h1]; simp, fun y hy => ?_⟩
      rcases List.mem_cons.1 hy with rfl | hy
      · exact ⟨rfl, x, by simp, rfl, rfl⟩
      · obtain ⟨a, q, b, c⟩ := h2 y hy
        exact ⟨a, q, by simp [b], c⟩
    · exact ⟨[], by simp, fun _ h => absurd h (by simp)⟩
theorem give_app (T : TabM) (i : Nat) : ∃ l, ((T.give i).r i).h = (T.r i).h ++ l ∧ ∀ y ∈ l, y.u = untilI T.now ∧ ∃ q ∈ (T.r i).w, y.c = q.c ∧ y.m = q.m := by
  obtain ⟨l, h1, h2⟩ := giveL_app T.now (T.r i).w (T.r i).h T.last
  refine ⟨l, ?_, h2⟩
  show (upd T.r i _ i).h = _
  unfold upd
  rw [if_pos rfl]
  exact h1
theorem give_other (T : TabM) {i j : Nat} (h : j ≠ i) : (T.give i).r j = T.r j := by
  show upd T.r i _ j = _
  unfold upd
  rw [if_neg h]
theorem Keep.give (T : TabM) (i : Nat) (c : Int) (j : Nat) : Keep T (T.give i) c j := by
  by_cases h : j = i
  · subst h
    intro x hx
    obtain ⟨l, h1, _⟩ := give_app T j
    refine .inr ⟨x, ?_, rfl, Int.le_refl _⟩
    rw [h1]
    unfold findH at hx ⊢
    rw [List.find?_append, hx]
    rfl
  · exact .same (by rw [give_other T h])
/-- no hold lasts longer than one that is given now -/
def UB (T : TabM) : Prop := ∀ i, i < 4 → ∀ x ∈ (T.r i).h, x.u ≤ untilI T.now
theorem UB.give {T : TabM} (h : UB T) (i : Nat) : UB (T.give i) := by
  intro j hj x hx
  by_cases e : j = i
  · subst e
    obtain ⟨l, h1, h2⟩ := give_app T j
    rw [h1] at hx
    rcases List.mem_append.1 hx with hx | hx
    · exact h j hj x hx
    · exact Int.le_of_eq (h2 x hx).1
  · rw [give_other T e] at hx
    exact h j hj x hx
theorem UB.setH {T : TabM} (h : UB T) {i : Nat} {hs : List HoldM} (hl : ∀ x ∈ hs, x.u ≤ untilI T.now) : UB (T.setH i hs) := by
  intro j hj x hx
  have hx : x ∈ (upd T.r i ⟨hs, (T.r i).w⟩ j).h := hx
  unfold upd at hx
  split at hx
  · exact hl x hx
  · exact h j hj x hx
theorem UB.setW {T : TabM} (h : UB T) {i : Nat} {ws : List WantM} : UB (T.setW i ws) := by
  intro j hj x hx
  have hx : x ∈ (upd T.r i ⟨(T.r i).h, ws⟩ j).h := hx
  unfold upd at hx
  split at hx
  · rename_i e
    subst e
    exact h _ hj x hx
  · exact h j hj x hx
theorem setW_h (T : TabM) (i : Nat) (ws : List WantM) (j : Nat) : ((T.setW i ws).r j).h = (T.r j).h := by
  show (upd T.r i _ j).h = _
  unfold upd
  split
  · rename_i e
    rw [e]
  · rfl
theorem setH_h (T : TabM) (i : Nat) (hs : List HoldM) : ((T.setH i hs).r i).h = hs := by
  show (upd T.r i _ i).h = _
  unfold upd
  rw [if_pos rfl]
theorem setH_o (T : TabM) {i j : Nat} (hs : List HoldM) (h : j ≠ i) : ((T.setH i hs).r j).h = (T.r j).h := by
  show (upd T.r i _ j).h = _
  unfold upd
  rw [if_neg h]
theorem acq_cases (T : TabM) (c r how : Int) : (T.acquire c r how).1 = T ∨ (T.acquire c r how).1 = (T.setW r.toNat ((T.r r.toNat).w ++ [⟨c, how⟩])).give r.toNat := by
  unfold TabM.acquire
  split
  · exact .inl rfl
  split
  · exact .inl rfl
  unfold TabM.acqIn
  split
  · split <;> exact .inl rfl
  · split
    · split <;> exact .inl rfl
    · split
      · exact .inl rfl
      · unfold TabM.acqNew
        split <;> exact .inr rfl
theorem acq_keep (T : TabM) (c r how : Int) (c' : Int) (i : Nat) : Keep T (T.acquire c r how).1 c' i := by
  rcases acq_cases T c r how with h | h <;> rw [h]
  · exact .refl _ _ _
  · exact Keep.trans (.same (setW_h _ _ _ _)) (.give _ _ _ _) (Int.le_refl _)
theorem acq_UB {T : TabM} (h : UB T) (c r how : Int) : UB (T.acquire c r how).1 := by
  rcases acq_cases T c r how with e | e <;> rw [e]
  · exact h
  · exact h.setW.give _
theorem acq_now (T : TabM) (c r how : Int) : (T.acquire c r how).1.now = T.now := by
  rcases acq_cases T c r how with e | e <;> rw [e] <;> rfl
/-- who acquires, holds so -/
theorem acq_ok {T : TabM} (_hA : AInv T) {c r how : Int} (h : (T.acquire c r how).2.2 = 0) : rightE c r = 0 ∧ ∃ x, findH ((T.acquire c r how).1.r r.toNat).h c = some x ∧ x.m = how ∧ x.t = (T.acquire c r how).2.1 := by
  unfold TabM.acquire at h ⊢
  split at h
  · rename_i hr
    exact absurd h hr
  rename_i hr
  have hr : rightE c r = 0 := by omega
  refine ⟨hr, ?_⟩
  rw [if_neg (by omega)]
  split at h
  · simp at h
  rename_i hm
  rw [if_neg hm]
  unfold TabM.acqIn at h ⊢
  have hri := rightE_ok hr
  split at h
  · rename_i y hy
    split at h
    · rename_i e
      rw [if_pos e]
      exact ⟨y, hy, e, rfl⟩
    · simp at h
  · rename_i hy
    split at h
    · split at h <;> simp at h
    · rename_i hw
      split at h
      · simp at h
      · rename_i hl
        rw [if_neg hl]
        unfold TabM.acqNew at h ⊢
        split at h
        · rename_i z hz
          refine ⟨z, hz, ?_, rfl⟩
          obtain ⟨l, h1, h2⟩ := give_app (T.setW r.toNat ((T.r r.toNat).w ++ [⟨c, how⟩])) r.toNat
          have hmem := List.mem_of_find?_eq_some hz
          have hzc : z.c = c := by simpa using List.find?_some hz
          rw [h1, setW_h] at hmem
          rcases List.mem_append.1 hmem with hm2 | hm2
          · exact absurd hzc.symm (findH_none hy z hm2)
          · obtain ⟨_, q, hq, hqc, hqm⟩ := h2 z hm2
            have hq : q ∈ (upd T.r r.toNat ⟨(T.r r.toNat).h, (T.r r.toNat).w ++ [⟨c, how⟩]⟩ r.toNat).w := hq
            unfold upd at hq
            rw [if_pos rfl] at hq
            rcases List.mem_append.1 hq with hq | hq
            · exact absurd (by rw [← hqc, hzc]) (findW_none hw q hq)
            · rw [List.mem_singleton] at hq
              subst hq
              exact hqm
        · simp at h
theorem findH_renew (hs : List HoldM) (c0 u c : Int) {x : HoldM} (h : findH hs c = some x) : ∃ y, findH (renewH hs c0 u) c = some y ∧ y.m = x.m ∧ y.t = x.t ∧ y.u = if c = c0 then u else x.u := by
  induction hs with
  | nil => simp [findH] at h
  | cons z r ih =>
    unfold findH at h ih ⊢
    unfold renewH
    by_cases hz : z.c = c
    · rw [List.find?_cons_of_pos (by simpa using hz)] at h
      obtain rfl : z = x := by simpa using h
      by_cases h0 : z.c = c0
      · rw [if_pos (by simpa using h0), List.find?_cons_of_pos (by simpa using hz)]
        exact ⟨_, rfl, rfl, rfl, by rw [if_pos (by omega)]⟩
      · rw [if_neg (by simpa using h0), List.find?_cons_of_pos (by simpa using hz)]
        exact ⟨_, rfl, rfl, rfl, by rw [if_neg (by omega)]⟩
    · rw [List.find?_cons_of_neg (by simpa using hz)] at h
      by_cases h0 : z.c = c0
      · rw [if_pos (by simpa using h0), List.find?_cons_of_neg (by simpa using hz)]
        exact ⟨x, h, rfl, rfl, by rw [if_neg (by omega)]⟩
      · rw [if_neg (by simpa using h0), List.find?_cons_of_neg (by simpa using hz)]
        exact ih h
theorem renew_keep {T : TabM} (hU : UB T) (c r t : Int) (c' : Int) (i : Nat) (hi : i < 4) : Keep T (T.renew c r t).1 c' i := by
  unfold TabM.renew
  split
  · exact .refl _ _ _
  · by_cases e : i = r.toNat
    · subst e
      intro x hx
      obtain ⟨y, h1, h2, _, h3⟩ := findH_renew _ c (untilI T.now) _ hx
      refine .inr ⟨y, ?_, h2, ?_⟩
      · rw [setH_h]
        exact h1
      · rw [h3]
        split
        · exact hU _ hi x (List.mem_of_find?_eq_some hx)
        · exact Int.le_refl _
    · exact .same (setH_o T _ e)
theorem renewH_until {hs : List HoldM} {c u v : Int} (h : ∀ x ∈ hs, x.u ≤ v) (hu : u ≤ v) : ∀ x ∈ renewH hs c u, x.u ≤ v := by
  intro x hx
  obtain ⟨y, hy, _, _, _, h1 | h1⟩ := renewH_mem hx
  · rw [h1]
    exact h y hy
  · rw [h1]
    exact hu
theorem renew_UB {T : TabM} (h : UB T) (c r t : Int) : UB (T.renew c r t).1 := by
  unfold TabM.renew
  split
  · exact h
  · rename_i he
    have hr := rightE_ok (held_right (Classical.not_not.1 he))
    exact h.setH (renewH_until (h _ (by omega)) (Int.le_refl _))
theorem renew_now (T : TabM) (c r t : Int) : (T.renew c r t).1.now = T.now := by
  unfold TabM.renew
  split <;> rfl
/-- who renews, holds until then -/
theorem renew_ok {T : TabM} {c r t : Int} (h : (T.renew c r t).2.2 = 0) : rightE c r = 0 ∧ (T.renew c r t).2.1 = untilI T.now ∧ ∃ x, findH (T.r r.toNat).h c = some x ∧ ∃ y, findH ((T.renew c r t).1.r r.toNat).h c = some y ∧ y.m = x.m ∧ y.u = untilI T.now := by
  unfold TabM.renew at h ⊢
  split at h
  · rename_i he
    exact absurd h he
  · rename_i he
    rw [if_neg he]
    have he : T.heldE c r t = 0 := Classical.not_not.1 he
    refine ⟨held_right he, rfl, ?_⟩
    unfold TabM.heldE at he
    rw [if_neg (by rw [held_right (T := T) (t := t) (by unfold TabM.heldE; exact he)]; decide)] at he
    split at he
    · rename_i x hx
      obtain ⟨y, h1, h2, _, h3⟩ := findH_renew _ c (untilI T.now) _ hx
      refine ⟨x, hx, y, ?_, h2, by rw [h3, if_pos rfl]⟩
      rw [setH_h]
      exact h1
    · exact absurd he (by decide)
theorem findH_drop (hs : List HoldM) {c0 c : Int} (hc : c ≠ c0) : findH (dropH hs c0) c = findH hs c := by
  induction hs with
  | nil => rfl
  | cons z r ih =>
    unfold findH dropH at ih ⊢
    by_cases h0 : z.c = c0
    · rw [List.eraseP_cons_of_pos (by simpa using h0), List.find?_cons_of_neg (by simp; omega)]
    · rw [List.eraseP_cons_of_neg (by simpa using h0)]
      by_cases hz : z.c = c
      · rw [List.find?_cons_of_pos (by simpa using hz), List.find?_cons_of_pos (by simpa using hz)]
      · rw [List.find?_cons_of_neg (by simpa using hz), List.find?_cons_of_neg (by simpa using hz)]
        exact ih
theorem release_keep (T : TabM) (c r t : Int) (c' : Int) (i : Nat) (h : c' ≠ c ∨ i ≠ r.toNat) : Keep T (T.release c r t).1 c' i := by
  unfold TabM.release
  split
  · exact .refl _ _ _
  · refine Keep.trans (B := T.setH r.toNat (dropH (T.r r.toNat).h c)) ?_ (.give _ _ _ _) (Int.le_refl _)
    by_cases e : i = r.toNat
    · subst e
      have hc : c' ≠ c := h.resolve_right (fun h => h rfl)
      intro x hx
      refine .inr ⟨x, ?_, rfl, Int.le_refl _⟩
      rw [setH_h, findH_drop _ hc]
      exact hx
    · exact .same (setH_o T _ e)
theorem release_UB {T : TabM} (h : UB T) (c r t : Int) : UB (T.release c r t).1 := by
  unfold TabM.release
  split
  · exact h
  · rename_i he
    have hr := rightE_ok (held_right (Classical.not_not.1 he))
    exact (h.setH fun x hx => h _ (by omega) x (List.mem_of_mem_eraseP hx)).give _
theorem release_now (T : TabM) (c r t : Int) : (T.release c r t).1.now = T.now := by
  unfold TabM.release
  split <;> rfl
theorem findH_filter {hs : List HoldM} {now c : Int} {x : HoldM} (h : findH hs c = some x) (hu : now < x.u) : findH (hs.filter fun h => !decide (h.u ≤ now)) c = some x := by
  induction hs with
  | nil => simp [findH] at h
  | cons z r ih =>
    unfold findH at h ih ⊢
    by_cases hz : z.c = c
    · rw [List.find?_cons_of_pos (by simpa using hz)] at h
      obtain rfl : z = x := by simpa using h
      rw [List.filter_cons_of_pos (by simp; omega), List.find?_cons_of_pos (by simpa using hz)]
    · rw [List.find?_cons_of_neg (by simpa using hz)] at h
      by_cases h0 : z.u ≤ now
      · rw [List.filter_cons_of_neg (by simp; omega)]
        exact ih h
      · rw [List.filter_cons_of_pos (by simp; omega), List.find?_cons_of_neg (by simpa using hz)]
        exact ih h
theorem until_mono {a b : Int} (h : a ≤ b) : untilI a ≤ untilI b := by
  unfold untilI
  split <;> split <;> omega
def timeF (T : TabM) (now : Int) : TabM := TabM.mk now T.last (fun i => ⟨(T.r i).h.filter (fun h => !decide (h.u ≤ now)), (T.r i).w⟩)
theorem time_keep (T : TabM) (now : Int) (c : Int) (i : Nat) : Keep T (T.time now) c i := by
  unfold TabM.time
  split
  · exact .refl _ _ _
  · refine Keep.trans (B := timeF T now) ?_ (Keep.trans (.give _ 0 _ _) (Keep.trans (.give _ 1 _ _) (Keep.trans (.give _ 2 _ _) (.give _ 3 _ _) (Int.le_refl _)) (Int.le_refl _)) (Int.le_refl _)) (Int.le_refl _)
    intro x hx
    by_cases hu : x.u ≤ now
    · exact .inl hu
    · exact .inr ⟨x, findH_filter hx (by omega), rfl, Int.le_refl _⟩
theorem time_UB {T : TabM} (h : UB T) (now : Int) : UB (T.time now) := by
  unfold TabM.time
  split
  · exact h
  · rename_i hn
    have h1 : UB (timeF T now) := fun i hi x hx => by
      have hx : x ∈ (T.r i).h.filter _ := hx
      exact Int.le_trans (h i hi x (List.mem_filter.1 hx).1) (until_mono (by show T.now ≤ now; omega))
    exact (((h1.give 0).give 1).give 2).give 3
theorem time_now {T : TabM} {now : Int} (h : T.now ≤ now) : (T.time now).now = now := by
  unfold TabM.time
  split
  · omega
  · rfl
/-- what the clients believe, the table has -/
structure KInv (T : TabM) (H : Nat → HS) : Prop where
  k : ∀ c, c < 4 → ∀ r, r < 4 → (H c).m r ≠ 0 → (H c).u r ≤ T.now ∨ ∃ x, findH (T.r r).h (c : Int) = some x ∧ x.m = (H c).m r ∧ (H c).u r ≤ x.u
  ok : ∀ c, c < 4 → (H c).ok
  a : AInv T
  ub : UB T
theorem KInv.step {T T' : TabM} {H : Nat → HS} (h : KInv T H) (hk : ∀ c : Nat, c < 4 → ∀ i, i < 4 → (H c).m i ≠ 0 → Keep T T' c i) (hn : T.now ≤ T'.now) (ha : AInv T') (hu : UB T') : KInv T' H := by
  refine ⟨fun c hc r hr hm => ?_, h.ok, ha, hu⟩
  rcases h.k c hc r hr hm with h1 | ⟨x, hx, h2, h3⟩
  · exact .inl (by omega)
  · rcases hk c hc r hr hm x hx with h4 | ⟨y, hy, h5, h6⟩
    · exact .inl (by omega)
    · exact .inr ⟨y, hy, by rw [h5, h2], by omega⟩
def updH (H : Nat → HS) (c : Nat) (s : HS) : Nat → HS := fun i => if i = c then s else H i
theorem KInv.took {T : TabM} {H : Nat → HS} (h : KInv T H) {c : Nat} {r m k u : Int} {x : HoldM} (hx : findH (T.r r.toNat).h (c : Int) = some x) (hm : x.m = m) (hu : u ≤ x.u) : KInv T (updH H c ((H c).tookS r m k u)) := by
  refine ⟨fun c' hc' r' hr' hm' => ?_, fun c' hc' => ?_, h.a, h.ub⟩
  · unfold updH at hm' ⊢
    split
    · rename_i e
      subst e
      rw [if_pos rfl] at hm'
      unfold HS.tookS at hm' ⊢
      split
      · rename_i he
        rw [if_pos he] at hm'
        simp only [HS.took, setAt] at hm' ⊢
        by_cases er : r' = r.toNat
        · simp only [er, if_true]
          exact .inr ⟨x, hx, hm, hu⟩
        · simp only [er, if_false] at hm' ⊢
          exact h.k c' hc' r' hr' hm'
      · rename_i he
        rw [if_neg he] at hm'
        exact h.k c' hc' r' hr' hm'
    · rename_i e
      rw [if_neg e] at hm'
      exact h.k c' hc' r' hr' hm'
  · unfold updH
    split
    · rename_i e
      subst e
      exact (h.ok _ hc').took _ _ _ _
    · exact h.ok c' hc'
theorem KInv.gone {T : TabM} {H : Nat → HS} (h : KInv T H) {c : Nat} {r : Int} : KInv T (updH H c ((H c).goneS r)) := by
  refine ⟨fun c' hc' r' hr' hm' => ?_, fun c' hc' => ?_, h.a, h.ub⟩
  · unfold updH at hm' ⊢
    split
    · rename_i e
      subst e
      rw [if_pos rfl] at hm'
      unfold HS.goneS at hm' ⊢
      split
      · rename_i he
        rw [if_pos he] at hm'
        simp only [HS.gone, setAt] at hm' ⊢
        by_cases er : r' = r.toNat
        · simp only [er, if_true] at hm'
          exact absurd rfl hm'
        · simp only [er, if_false] at hm' ⊢
          exact h.k c' hc' r' hr' hm'
      · rename_i he
        rw [if_neg he] at hm'
        exact h.k c' hc' r' hr' hm'
    · rename_i e
      rw [if_neg e] at hm'
      exact h.k c' hc' r' hr' hm'
  · unfold updH
    split
    · rename_i e
      subst e
      exact (h.ok _ hc').gone _
    · exact h.ok c' hc'
def hs0 : HS := ⟨fun _ => 0, fun _ => 0, fun _ => 0, fun _ => 0⟩
theorem hs0_ok : hs0.ok := fun _ _ => .inl ⟨rfl, rfl, rfl⟩
theorem KInv.new (ha : AInv newT) : KInv newT (fun _ => hs0) :=
  ⟨fun _ _ _ _ h => absurd rfl h, fun _ _ => hs0_ok, ha, fun _ _ x hx => absurd hx (by show x ∉ []; simp)⟩
theorem KInv.acq {T : TabM} {H : Nat → HS} (h : KInv T H) (c r how : Int) : KInv (T.acquire c r how).1 H :=
  h.step (fun _ _ _ _ _ => acq_keep _ _ _ _ _ _) (by rw [acq_now]; exact Int.le_refl _) (h.a.acquire c r how) (acq_UB h.ub _ _ _)
theorem KInv.renew {T : TabM} {H : Nat → HS} (h : KInv T H) (c r t : Int) : KInv (T.renew c r t).1 H :=
  h.step (fun _ _ _ hi _ => renew_keep h.ub _ _ _ _ _ hi) (by rw [renew_now]; exact Int.le_refl _) (h.a.renew c r t) (renew_UB h.ub _ _ _)
theorem KInv.time {T : TabM} {H : Nat → HS} (h : KInv T H) {now : Int} (h1 : T.now ≤ now) (h2 : now < 18446744073709551615) : KInv (T.time now) H :=
  h.step (fun _ _ _ _ _ => time_keep _ _ _ _) (by rw [time_now h1]; exact h1) (h.a.time h2) (time_UB h.ub _)
/-- what is taken with what is heard -/
theorem KInv.acqRenew {T : TabM} {H : Nat → HS} (h : KInv T H) {c : Nat} {r how : Int} (he : (T.acquire c r how).2.2 = 0) :
    KInv ((T.acquire c r how).1.renew c r (T.acquire c r how).2.1).1 (updH H c ((H c).tookS r how (T.acquire c r how).2.1 ((T.acquire c r how).1.renew c r (T.acquire c r how).2.1).2.1)) := by
  obtain ⟨hr, x, hx, hm, ht⟩ := acq_ok h.a he
  have h1 : (T.acquire c r how).1.heldE c r (T.acquire c r how).2.1 = 0 := by
    unfold TabM.heldE
    rw [if_neg (by rw [hr]; decide), hx]
    exact if_pos ht
  have h2 : ((T.acquire c r how).1.renew c r (T.acquire c r how).2.1).2.2 = 0 := by
    unfold TabM.renew
    rw [if_neg (by rw [h1]; decide)]
  obtain ⟨_, hu, x2, hx2, y, hy, hym, hyu⟩ := renew_ok h2
  have e : x2 = x := by
    rw [hx] at hx2
    exact (Option.some.inj hx2).symm
  exact ((h.acq c r how).renew c r _).took hy (by rw [hym, e, hm]) (by rw [hu, hyu]; exact Int.le_refl _)
def modeOf (T : TabM) (c r : Int) : Int := match findH (T.holders r) c with
  | some x => x.m
  | none => 0
theorem KInv.renewTook {T : TabM} {H : Nat → HS} (h : KInv T H) {c : Nat} {r t : Int} (he : (T.renew c r t).2.2 = 0) :
    KInv (T.renew c r t).1 (updH H c ((H c).tookS r (modeOf (T.renew c r t).1 c r) t (T.renew c r t).2.1)) := by
  obtain ⟨hr, hu, x, _, y, hy, _, hyu⟩ := renew_ok he
  have hr := rightE_ok hr
  refine (h.renew c r t).took hy ?_ (by rw [hu, hyu]; exact Int.le_refl _)
  unfold modeOf TabM.holders
  rw [if_pos (by unfold thereB; simp; omega), hy]
theorem KInv.release {T : TabM} {H : Nat → HS} {c : Nat} {r : Int} (h : KInv T (updH H c ((H c).goneS r))) (t : Int) :
    KInv (T.release c r t).1 (updH H c ((H c).goneS r)) := by
  refine h.step (fun c' _ i hi hm => ?_) (by rw [release_now]; exact Int.le_refl _) (h.a.release c r t) (release_UB h.ub _ _ _)
  by_cases hr : rightE c r = 0
  · refine release_keep _ _ _ _ _ _ ?_
    have hr := rightE_ok hr
    by_cases e : c' = c
    · subst e
      right
      intro e
      apply hm
      unfold updH HS.goneS
      rw [if_pos rfl, if_pos (by omega)]
      simp only [HS.gone, setAt, e, if_true]
    · left
      omega
  · have e : (T.release c r t).1 = T := by
      unfold TabM.release
      rw [if_pos (by
        unfold TabM.heldE
        rw [if_pos hr]
        exact hr)]
    rw [e]
    exact .refl _ _ _
/-- who believes, holds -/
theorem KInv.bel {T : TabM} {H : Nat → HS} (h : KInv T H) {c r : Nat} (hc : c < 4) (hr : r < 4) {mode clk : Int} (hclk : T.now < clk + 3) (hb : belB ((H c).mA r) ((H c).uA r) mode clk = true) :
    ∃ x, findH (T.r r).h (c : Int) = some x ∧ (x.m = mode ∨ x.m = 2) ∧ x.m ≠ 0 := by
  have e1 : (H c).mA r = (H c).m r := by
    unfold HS.mA
    rw [if_pos (by omega)]
    rfl
  have e2 : (H c).uA r = (H c).u r := by
    unfold HS.uA
    rw [if_pos (by omega)]
    rfl
  rw [e1, e2] at hb
  unfold belB befB at hb
  simp only [Bool.and_eq_true, decide_eq_true_eq, Bool.or_eq_true, beq_iff_eq] at hb
  rcases h.k c hc r hr hb.1.1 with h1 | ⟨x, hx, h2, h3⟩
  · omega
  · exact ⟨x, hx, by rw [h2]; exact hb.1.2, by rw [h2]; exact hb.1.1⟩
theorem KInv.mode {T : TabM} {H : Nat → HS} (h : KInv T H) {c r : Nat} (hc : c < 4) (hr : r < 4) {mode clk : Int} (hclk : T.now < clk + 3) (hb : belB ((H c).mA r) ((H c).uA r) mode clk = true) : modeOf T c r ≠ 0 := by
  obtain ⟨x, hx, _, h2⟩ := h.bel hc hr hclk hb
  unfold modeOf TabM.holders
  rw [if_pos (by unfold thereB; simp; omega), show ((r : Int).toNat) = r from rfl, hx]
  exact h2
/-- how many -/
def cntB (f : Nat → Bool) : Nat → Nat
  | 0 => 0
  | n + 1 => cntB f n + if f n then 1 else 0
theorem cntB_pos {f : Nat → Bool} : ∀ {n : Nat}, 0 < cntB f n → ∃ c, c < n ∧ f c = true
  | 0, h => by unfold cntB at h; omega
  | n + 1, h => by
    by_cases e : f n = true
    · exact ⟨n, by omega, e⟩
    · unfold cntB at h
      rw [if_neg e] at h
      obtain ⟨c, h1, h2⟩ := cntB_pos h
      exact ⟨c, by omega, h2⟩
theorem cntB_two {f : Nat → Bool} {a : Nat} : ∀ {n : Nat}, 1 < cntB f n → ∃ c, c < n ∧ c ≠ a ∧ f c = true
  | 0, h => by unfold cntB at h; omega
  | n + 1, h => by
    unfold cntB at h
    by_cases e : n ≠ a ∧ f n = true
    · exact ⟨n, by omega, e.1, e.2⟩
    · by_cases e2 : f n = true
      · rw [if_pos e2] at h
        have ea : n = a := Classical.not_not.1 fun hh => e ⟨hh, e2⟩
        obtain ⟨c, h1, h2⟩ := cntB_pos (f := f) (n := n) (by omega)
        exact ⟨c, by omega, by omega, h2⟩
      · rw [if_neg e2] at h
        obtain ⟨c, h1, h2, h3⟩ := cntB_two (a := a) h
        exact ⟨c, by omega, h2, h3⟩
theorem cntB_le (f : Nat → Bool) : ∀ n, cntB f n ≤ n
  | 0 => Nat.le_refl _
  | n + 1 => by
    have := cntB_le f n
    unfold cntB
    split <;> omega
def anyB (H : Nat → HS) (ck : Nat → Int) (r : Nat) (mode : Int) (c : Nat) : Bool := belB ((H c).mA r) ((H c).uA r) mode (ck c)
theorem KInv.alone {T : TabM} {H : Nat → HS} (h : KInv T H) {ck : Nat → Int} {r : Nat} (hr : r < 4) (hclk : ∀ c, c < 4 → T.now < ck c + 3) :
    ¬ (0 < cntB (anyB H ck r 2) 4 ∧ 1 < cntB (anyB H ck r 1) 4) := by
  rintro ⟨h1, h2⟩
  obtain ⟨a, ha, hb⟩ := cntB_pos h1
  obtain ⟨c, hc, hca, hd⟩ := cntB_two (a := a) h2
  obtain ⟨x, hx, hxm, _⟩ := h.bel ha hr (hclk a ha) hb
  obtain ⟨y, hy, _, _⟩ := h.bel hc hr (hclk c hc) hd
  have hxm : x.m = 2 := by omega
  have mx := List.mem_of_find?_eq_some hx
  have my := List.mem_of_find?_eq_some hy
  have cx : x.c = a := by simpa using List.find?_some hx
  have cy : y.c = c := by simpa using List.find?_some hy
  have hl := (h.a.r r hr).ex x mx hxm
  match hh : (T.r r).h, hl with
  | [], _ =>
    rw [hh] at mx
    simp at mx
  | [z], _ =>
    rw [hh] at mx my
    simp at mx my
    rw [mx] at cx
    rw [my] at cy
    omega
end Go.Proofs.Ytbgknfdaaffeaaa
