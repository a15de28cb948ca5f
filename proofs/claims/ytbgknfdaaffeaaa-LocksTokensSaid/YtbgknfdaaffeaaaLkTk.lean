/- Locks: tokens rise, and are given once; who wants behind the last token (plain). -/
import Derived.Test.YtbgknfdaaffeaaaLkD
import Derived.Test.YtbgknfdaaffeaaaLkUm
namespace Go.Proofs.Ytbgknfdaaffeaaa

theorem giveL_new (now : Int) : ∀ (ws : List WantM) (hs : List HoldM) (last : Int), ∃ new, (giveL now ws hs last).2.1 = hs ++ new ∧ (∀ x ∈ new, last < x.t ∧ x.t ≤ (giveL now ws hs last).2.2) ∧ (new.map HoldM.t).Nodup ∧ last ≤ (giveL now ws hs last).2.2
  | [], hs, last => ⟨[], by simp [giveL], fun _ h => absurd h List.not_mem_nil, List.nodup_nil, Int.le_refl _⟩
  | x :: ws, hs, last => by
    unfold giveL
    split
    · obtain ⟨new, h1, h2, h3, h4⟩ := giveL_new now ws (hs ++ [⟨x.c, x.m, last + 1, untilI now⟩]) (last + 1)
      refine ⟨⟨x.c, x.m, last + 1, untilI now⟩ :: new, by rw [h1]; simp, fun y hy => ?_, ?_, by omega⟩
      · rcases List.mem_cons.1 hy with rfl | hy
        · exact ⟨by show last < last + 1; omega, by show last + 1 ≤ _; omega⟩
        · have := h2 y hy
          exact ⟨by omega, this.2⟩
      · rw [List.map_cons, List.nodup_cons]
        refine ⟨fun hm => ?_, h3⟩
        obtain ⟨y, hy, e⟩ := List.mem_map.1 hm
        have := (h2 y hy).1
        have e : y.t = last + 1 := e
        omega
    · exact ⟨[], by simp, fun _ h => absurd h List.not_mem_nil, List.nodup_nil, Int.le_refl _⟩
/-- what an op does to the holds: those that are there were, or are new -/
structure TokStep (T T' : TabM) : Prop where
  ok : TokOk T'
  le : T.last ≤ T'.last
  old : ∀ i, i < 4 → ∀ x ∈ (T'.r i).h, (∃ y ∈ (T.r i).h, y.t = x.t ∧ y.c = x.c) ∨ T.last < x.t
theorem TokStep.refl {T : TabM} (h : TokOk T) : TokStep T T := ⟨h, Int.le_refl _, fun _ _ x hx => .inl ⟨x, hx, rfl, rfl⟩⟩
theorem TokStep.trans {A B C : TabM} (h : TokStep A B) (k : TokStep B C) : TokStep A C := by
  refine ⟨k.ok, Int.le_trans h.le k.le, fun i hi x hx => ?_⟩
  rcases k.old i hi x hx with ⟨y, hy, e1, e2⟩ | h1
  · rcases h.old i hi y hy with ⟨z, hz, f1, f2⟩ | h2
    · exact .inl ⟨z, hz, f1.trans e1, f2.trans e2⟩
    · exact .inr (e1 ▸ h2)
  · exact .inr (Int.lt_of_le_of_lt h.le h1)
theorem TokStep.give {T : TabM} (h : TokOk T) {i : Nat} (hi : i < 4) : TokStep T (T.give i) := by
  obtain ⟨new, h1, h2, h3, h4⟩ := giveL_new T.now (T.r i).w (T.r i).h T.last
  have hr : ∀ j, ((T.give i).r j).h = if j = i then (T.r i).h ++ new else (T.r j).h := fun j => by
    show (upd T.r i _ j).h = _
    unfold upd
    split
    · exact h1
    · rfl
  have hl : (T.give i).last = (giveL T.now (T.r i).w (T.r i).h T.last).2.2 := rfl
  have hm : ∀ j, j < 4 → ∀ x ∈ ((T.give i).r j).h, x ∈ (T.r j).h ∨ (j = i ∧ x ∈ new) := fun j _ x hx => by
    rw [hr] at hx
    split at hx
    · rename_i e
      subst e
      rcases List.mem_append.1 hx with hx | hx
      · exact .inl hx
      · exact .inr ⟨rfl, hx⟩
    · exact .inl hx
  refine ⟨⟨by rw [hl]; exact Int.le_trans h.l0 h4, fun j hj => ?_, fun j k hj hk hjk x hx y hy => ?_, fun j hj x hx => ?_⟩, by rw [hl]; exact h4, fun j hj x hx => ?_⟩
  · rw [hr]
    split
    · rename_i e
      subst e
      rw [List.map_append, List.nodup_append]
      refine ⟨h.nd _ hj, h3, fun a ha b hb e => ?_⟩
      obtain ⟨x, hx, rfl⟩ := List.mem_map.1 ha
      obtain ⟨y, hy, rfl⟩ := List.mem_map.1 hb
      have := (h.le _ hj x hx).2
      have := (h2 y hy).1
      omega
    · exact h.nd _ hj
  · rcases hm j hj x hx with hx' | ⟨ej, hx'⟩
    · rcases hm k hk y hy with hy' | ⟨ek, hy'⟩
      · exact h.ap j k hj hk hjk x hx' y hy'
      · have := (h.le _ hj x hx').2
        have := (h2 y hy').1
        omega
    · rcases hm k hk y hy with hy' | ⟨ek, hy'⟩
      · have := (h.le _ hk y hy').2
        have := (h2 x hx').1
        omega
      · exact absurd (ej.trans ek.symm) hjk
  · rw [hl]
    rcases hm j hj x hx with hx' | ⟨ej, hx'⟩
    · have := h.le _ hj x hx'
      exact ⟨this.1, by omega⟩
    · have := h2 x hx'
      have h0 := h.l0
      exact ⟨by omega, this.2⟩
  · rcases hm j hj x hx with hx' | ⟨ej, hx'⟩
    · exact .inl ⟨x, hx', rfl, rfl⟩
    · exact .inr (h2 x hx').1
theorem TokOk.setW {T : TabM} (h : TokOk T) (i : Nat) (ws : List WantM) : TokStep T (T.setW i ws) := by
  have hr : ∀ j, ((T.setW i ws).r j).h = (T.r j).h := fun j => by
    show (upd T.r i _ j).h = _
    unfold upd
    split
    · rename_i e
      rw [e]
    · rfl
  exact ⟨⟨h.l0, fun j hj => by rw [hr]; exact h.nd j hj, fun j k hj hk hjk => by rw [hr, hr]; exact h.ap j k hj hk hjk, fun j hj => by rw [hr]; exact h.le j hj⟩, Int.le_refl _, fun j hj x hx => .inl ⟨x, by rw [hr] at hx; exact hx, rfl, rfl⟩⟩
/-- fewer holds, or such with another until -/
theorem TokOk.shrink {T T' : TabM} (h : TokOk T) (hl : T'.last = T.last) (hr : ∀ j, j < 4 → ((T'.r j).h.map HoldM.t).Sublist ((T.r j).h.map HoldM.t) ∧ ∀ x ∈ (T'.r j).h, ∃ y ∈ (T.r j).h, y.t = x.t ∧ y.c = x.c) : TokStep T T' := by
  refine ⟨⟨by rw [hl]; exact h.l0, fun j hj => (h.nd j hj).sublist (hr j hj).1, fun j k hj hk hjk x hx y hy => ?_, fun j hj x hx => ?_⟩, by rw [hl]; exact Int.le_refl _, fun j hj x hx => .inl ((hr j hj).2 x hx)⟩
  · obtain ⟨x', hx', e1, _⟩ := (hr j hj).2 x hx
    obtain ⟨y', hy', e2, _⟩ := (hr k hk).2 y hy
    rw [← e1, ← e2]
    exact h.ap j k hj hk hjk x' hx' y' hy'
  · obtain ⟨x', hx', e1, _⟩ := (hr j hj).2 x hx
    rw [← e1, hl]
    exact h.le j hj x' hx'
theorem TokOk.setH {T : TabM} (h : TokOk T) {i : Nat} {hs : List HoldM} (h1 : (hs.map HoldM.t).Sublist ((T.r i).h.map HoldM.t)) (h2 : ∀ x ∈ hs, ∃ y ∈ (T.r i).h, y.t = x.t ∧ y.c = x.c) : TokStep T (T.setH i hs) := by
  refine h.shrink rfl (fun j _ => ?_)
  show ((upd T.r i _ j).h.map HoldM.t).Sublist _ ∧ ∀ x ∈ (upd T.r i _ j).h, _
  unfold upd
  split
  · rename_i e
    rw [e]
    exact ⟨h1, h2⟩
  · exact ⟨List.Sublist.refl _, fun x hx => ⟨x, hx, rfl, rfl⟩⟩
theorem renewH_toks (hs : List HoldM) (c u : Int) : (renewH hs c u).map HoldM.t = hs.map HoldM.t := by
  induction hs with
  | nil => rfl
  | cons h r ih =>
    unfold renewH
    split
    · rfl
    · simp [ih]
theorem renewH_old {c u : Int} : ∀ {hs : List HoldM} {x : HoldM}, x ∈ renewH hs c u → ∃ y ∈ hs, y.t = x.t ∧ y.c = x.c
  | [], x, h => by simp [renewH] at h
  | y :: r, x, h => by
    unfold renewH at h
    split at h
    · rcases List.mem_cons.1 h with rfl | h
      · exact ⟨y, by simp, rfl, rfl⟩
      · exact ⟨x, by simp [h], rfl, rfl⟩
    · rcases List.mem_cons.1 h with rfl | h
      · exact ⟨x, by simp, rfl, rfl⟩
      · obtain ⟨z, hz, h2⟩ := renewH_old h
        exact ⟨z, by simp [hz], h2⟩
theorem TokOk.time {T : TabM} (h : TokOk T) (now : Int) : TokStep T (T.time now) := by
  unfold TabM.time
  split
  · exact .refl h
  · have h0 : TokStep T (TabM.mk now T.last (fun i => ⟨(T.r i).h.filter (fun h => !decide (h.u ≤ now)), (T.r i).w⟩)) :=
      h.shrink rfl (fun j _ => ⟨List.Sublist.map _ List.filter_sublist, fun x hx => ⟨x, (List.mem_filter.1 hx).1, rfl, rfl⟩⟩)
    have h1 := h0.trans (.give h0.ok (i := 0) (by omega))
    have h2 := h1.trans (.give h1.ok (i := 1) (by omega))
    have h3 := h2.trans (.give h2.ok (i := 2) (by omega))
    exact h3.trans (.give h3.ok (i := 3) (by omega))
theorem right_nat {c r : Int} (h : rightE c r = 0) : r.toNat < 4 := by
  have := rightE_ok h
  omega
theorem TokOk.acquire {T : TabM} (h : TokOk T) (c r how : Int) : TokStep T (T.acquire c r how).1 := by
  unfold TabM.acquire
  split
  · exact .refl h
  · rename_i hr
    have hi := right_nat (by omega : rightE c r = 0)
    split
    · exact .refl h
    · unfold TabM.acqIn
      split
      · split <;> exact .refl h
      · split
        · split <;> exact .refl h
        · split
          · exact .refl h
          · have h1 := h.setW r.toNat ((T.r r.toNat).w ++ [⟨c, how⟩])
            have hs := h1.trans (.give h1.ok hi)
            unfold TabM.acqNew
            split <;> exact hs
theorem heldE_right {T : TabM} {c r t : Int} (he : T.heldE c r t = 0) : rightE c r = 0 := by
  unfold TabM.heldE at he
  split at he
  · exact he
  · omega
theorem TokOk.release {T : TabM} (h : TokOk T) (c r t : Int) : TokStep T (T.release c r t).1 := by
  unfold TabM.release
  split
  · exact .refl h
  · rename_i he
    have hi := right_nat (heldE_right (by omega : T.heldE c r t = 0))
    have h1 : TokStep T (T.setH r.toNat (dropH (T.r r.toNat).h c)) := h.setH (List.Sublist.map _ List.eraseP_sublist) (fun x hx => ⟨x, List.mem_of_mem_eraseP hx, rfl, rfl⟩)
    exact h1.trans (.give h1.ok hi)
theorem TokOk.renew {T : TabM} (h : TokOk T) (c r t : Int) : TokStep T (T.renew c r t).1 := by
  unfold TabM.renew
  split
  · exact .refl h
  · exact h.setH (by rw [renewH_toks]; exact List.Sublist.refl _) (fun x hx => renewH_old hx)
theorem TokOk.cancel {T : TabM} (h : TokOk T) (c r : Int) : TokStep T (T.cancel c r).1 := by
  unfold TabM.cancel
  split
  · exact .refl h
  · rename_i he
    have hi := right_nat (by omega : rightE c r = 0)
    split
    · have h1 := h.setW r.toNat (dropW (T.r r.toNat).w c)
      exact h1.trans (.give h1.ok hi)
    · exact .refl h
theorem TokOk.done {T : TabM} (h : TokOk T) (o : OpL) : TokStep T (doneM T o) := by
  unfold doneM
  split
  · exact h.acquire _ _ _
  · split
    · exact h.release _ _ _
    · split
      · exact h.renew _ _ _
      · split
        · exact h.cancel _ _
        · split
          · exact h.time _
          · exact .refl h
/-- all holds, region by region -/
def allH (T : TabM) (k : Nat) : List HoldM := (List.range k).flatMap fun i => (T.r i).h
theorem allH_succ (T : TabM) (k : Nat) : allH T (k + 1) = allH T k ++ (T.r k).h := by simp [allH, List.range_succ]
theorem allH_mem {T : TabM} {k : Nat} {x : HoldM} : x ∈ allH T k ↔ ∃ i, i < k ∧ x ∈ (T.r i).h := by simp [allH]
theorem allH_len {T : TabM} (h : TabOk T) : ∀ k, k ≤ 4 → (allH T k).length ≤ 4 * k
  | 0, _ => by simp [allH]
  | k + 1, hk => by
    rw [allH_succ, List.length_append]
    have := allH_len h k (by omega)
    have := h.hl k (by omega)
    omega
theorem TokOk.nodup {T : TabM} (h : TokOk T) : ∀ k, k ≤ 4 → ((allH T k).map HoldM.t).Nodup
  | 0, _ => by simp [allH]
  | k + 1, hk => by
    rw [allH_succ, List.map_append, List.nodup_append]
    refine ⟨h.nodup k (by omega), h.nd k (by omega), fun a ha b hb e => ?_⟩
    obtain ⟨x, hx, rfl⟩ := List.mem_map.1 ha
    obtain ⟨y, hy, rfl⟩ := List.mem_map.1 hb
    obtain ⟨i, hi, hx⟩ := allH_mem.1 hx
    exact h.ap i k (by omega) (by omega) (by omega) x hx y hy e
def oldB (was : List HoldM) (x : HoldM) : Bool := was.any fun y => (y.t == x.t) && (y.c == x.c)
theorem TokStep.law {T T' : TabM} (h : TokStep T T') {x : HoldM} (hx : x ∈ allH T' 4) : oldB (allH T 4) x = false → T.last < x.t ∧ x.t ≤ T'.last := by
  intro ho
  obtain ⟨i, hi, hx⟩ := allH_mem.1 hx
  refine ⟨?_, (h.ok.le i hi x hx).2⟩
  rcases h.old i hi x hx with ⟨y, hy, e1, e2⟩ | h1
  · have := List.any_eq_false.1 ho y (allH_mem.2 ⟨i, hi, hy⟩)
    simp [e1, e2] at this
  · exact h1
theorem TokOk.apart {T : TabM} (h : TokOk T) {j k : Nat} (hjk : j < k) {x y : HoldM} (hx : (allH T 4)[j]? = some x) (hy : (allH T 4)[k]? = some y) : x.t ≠ y.t := by
  have h1 := List.pairwise_iff_getElem.1 (h.nodup 4 (by omega))
  obtain ⟨hj, ej⟩ := List.getElem?_eq_some_iff.1 hx
  obtain ⟨hk, ek⟩ := List.getElem?_eq_some_iff.1 hy
  have := h1 j k (by simpa using hj) (by simpa using hk) hjk
  simp only [List.getElem_map] at this
  rw [ej, ek] at this
  exact this
theorem newT_tok : TokOk ⟨0, 0, fun _ => ⟨[], []⟩⟩ := ⟨Int.le_refl _, fun _ _ => List.nodup_nil, fun _ _ _ _ _ _x hx => absurd hx List.not_mem_nil, fun _ _ _x hx => absurd hx List.not_mem_nil⟩
end Go.Proofs.Ytbgknfdaaffeaaa
