/- Locks: tokens rise, and are given once; who wants behind the last token (plain). -/
import Derived.Test.YtbgknfdaaffeaaaLkD
import Derived.Test.YtbgknfdaaffeaaaLkUm
import Derived.Test.YtbgknfdaaffeaaaLkP
import Derived.Test.YtbgknfdaaffeaaaLkI
namespace Go.Proofs.Ytbgknfdaaffeaaa

theorem giveL_new (now : Int) : ∀ (ws : List WantM) (hs : List HoldM) (last : Int), ∃ new, (giveL now ws hs last).2.1 = hs ++ new ∧ (∀ x ∈ new, last < x.t ∧ x.t ≤ (giveL now ws hs last).2.2) ∧ (new.map HoldM.t).Nodup ∧ last ≤ (giveL now ws hs last).2.2
  | [], hs, last => ⟨[], by simp [giveL], fun _ h => absurd h List.not_mem_nil, List.nodup_nil, Int.le_refl _⟩
  | x :: ws, hs, last => by
    unfold giveL
    split
    · obtain ⟨new, h1, h2, h3, h4⟩ := giveL_new now ws (hs ++ [⟨x.c, x.m, last + 1, untilI now⟩]) (last + 1)
      refine ⟨⟨x.c, x.m, last + 1, untilI now⟩ :: new, by rw [h1]; simp, fun y hy => ?_, ?_, by omega⟩
      · rcases List.mem_cons.1 hy with rfl | hy
        · exact ⟨by show last < last + 1; omega, by show last + 1 ≤ _; omega⟩
        · have := h2 y hy
          exact ⟨by omega, this.2⟩
      · rw [List.map_cons, List.nodup_cons]
        refine ⟨fun hm => ?_, h3⟩
        obtain ⟨y, hy, e⟩ := List.mem_map.1 hm
        have := (h2 y hy).1
        have e : y.t = last + 1 := e
        omega
    · exact ⟨[], by simp, fun _ h => absurd h List.not_mem_nil, List.nodup_nil, Int.le_refl _⟩
/-- what an op does to the holds: those that are there were, or are new -/
structure TokStep (T T' : TabM) : Prop where
  ok : TokOk T'
  le : T.last ≤ T'.last
  old : ∀ i, i < 4 → ∀ x ∈ (T'.r i).h, (∃ y ∈ (T.r i).h, y.t = x.t ∧ y.c = x.c) ∨ T.last < x.t
theorem TokStep.refl {T : TabM} (h : TokOk T) : TokStep T T := ⟨h, Int.le_refl _, fun _ _ x hx => .inl ⟨x, hx, rfl, rfl⟩⟩
theorem TokStep.trans {A B C : TabM} (h : TokStep A B) (k : TokStep B C) : TokStep A C := by
  refine ⟨k.ok, Int.le_trans h.le k.le, fun i hi x hx => ?_⟩
  rcases k.old i hi x hx with ⟨y, hy, e1, e2⟩ | h1
  · rcases h.old i hi y hy with ⟨z, hz, f1, f2⟩ | h2
    · exact .inl ⟨z, hz, f1.trans e1, f2.trans e2⟩
    · exact .inr (e1 ▸ h2)
  · exact .inr (Int.lt_of_le_of_lt h.le h1)
theorem TokStep.give {T : TabM} (h : TokOk T) {i : Nat} (hi : i < 4) : TokStep T (T.give i) := by
  obtain ⟨new, h1, h2, h3, h4⟩ := giveL_new T.now (T.r i).w (T.r i).h T.last
  have hr : ∀ j, ((T.give i).r j).h = if j = i then (T.r i).h ++ new else (T.r j).h := fun j => by
    show (upd T.r i _ j).h = _
    unfold upd
    split
    · exact h1
    · rfl
  have hl : (T.give i).last = (giveL T.now (T.r i).w (T.r i).h T.last).2.2 := rfl
  have hm : ∀ j, j < 4 → ∀ x ∈ ((T.give i).r j).h, x ∈ (T.r j).h ∨ (j = i ∧ x ∈ new) := fun j _ x hx => by
    rw [hr] at hx
    split at hx
    · rename_i e
      subst e
      rcases List.mem_append.1 hx with hx | hx
      · exact .inl hx
      · exact .inr ⟨rfl, hx⟩
    · exact .inl hx
  refine ⟨⟨by rw [hl]; exact Int.le_trans h.l0 h4, fun j hj => ?_, fun j k hj hk hjk x hx y hy => ?_, fun j hj x hx => ?_⟩, by rw [hl]; exact h4, fun j hj x hx => ?_⟩
  · rw [hr]
    split
    · rename_i e
      subst e
      rw [List.map_append, List.nodup_append]
      refine ⟨h.nd _ hj, h3, fun a ha b hb e => ?_⟩
      obtain ⟨x, hx, rfl⟩ := List.mem_map.1 ha
      obtain ⟨y, hy, rfl⟩ := List.mem_map.1 hb
      have := (h.le _ hj x hx).2
      have := (h2 y hy).1
      omega
    · exact h.nd _ hj
  · rcases hm j hj x hx with hx' | ⟨ej, hx'⟩
    · rcases hm k hk y hy with hy' | ⟨ek, hy'⟩
      · exact h.ap j k hj hk hjk x hx' y hy'
      · have := (h.le _ hj x hx').2
        have := (h2 y hy').1
        omega
    · rcases hm k hk y hy with hy' | ⟨ek, hy'⟩
      · have := (h.le _ hk y hy').2
        have := (h2 x hx').1
        omega
      · exact absurd (ej.trans ek.symm) hjk
  · rw [hl]
    rcases hm j hj x hx with hx' | ⟨ej, hx'⟩
    · have := h.le _ hj x hx'
      exact ⟨this.1, by omega⟩
    · have := h2 x hx'
      have h0 := h.l0
      exact ⟨by omega, this.2⟩
  · rcases hm j hj x hx with hx' | ⟨ej, hx'⟩
    · exact .inl ⟨x, hx', rfl, rfl⟩
    · exact .inr (h2 x hx').1
theorem TokOk.setW {T : TabM} (h : TokOk T) (i : Nat) (ws : List WantM) : TokStep T (T.setW i ws) := by
  have hr : ∀ j, ((T.setW i ws).r j).h = (T.r j).h := fun j => by
    show (upd T.r i _ j).h = _
    unfold upd
    split
    · rename_i e
      rw [e]
    · rfl
  exact ⟨⟨h.l0, fun j hj => by rw [hr]; exact h.nd j hj, fun j k hj hk hjk => by rw [hr, hr]; exact h.ap j k hj hk hjk, fun j hj => by rw [hr]; exact h.le j hj⟩, Int.le_refl _, fun j hj x hx => .inl ⟨x, by rw [hr] at hx; exact hx, rfl, rfl⟩⟩
/-- fewer holds, or such with another until -/
theorem TokOk.shrink {T T' : TabM} (h : TokOk T) (hl : T'.last = T.last) (hr : ∀ j, j < 4 → ((T'.r j).h.map HoldM.t).Sublist ((T.r j).h.map HoldM.t) ∧ ∀ x ∈ (T'.r j).h, ∃ y ∈ (T.r j).h, y.t = x.t ∧ y.c = x.c) : TokStep T T' := by
  refine ⟨⟨by rw [hl]; exact h.l0, fun j hj => (h.nd j hj).sublist (hr j hj).1, fun j k hj hk hjk x hx y hy => ?_, fun j hj x hx => ?_⟩, by rw [hl]; exact Int.le_refl _, fun j hj x hx => .inl ((hr j hj).2 x hx)⟩
  · obtain ⟨x', hx', e1, _⟩ := (hr j hj).2 x hx
    obtain ⟨y', hy', e2, _⟩ := (hr k hk).2 y hy
    rw [← e1, ← e2]
    exact h.ap j k hj hk hjk x' hx' y' hy'
  · obtain ⟨x', hx', e1, _⟩ := (hr j hj).2 x hx
    rw [← e1, hl]
    exact h.le j hj x' hx'
theorem TokOk.setH {T : TabM} (h : TokOk T) {i : Nat} {hs : List HoldM} (h1 : (hs.map HoldM.t).Sublist ((T.r i).h.map HoldM.t)) (h2 : ∀ x ∈ hs, ∃ y ∈ (T.r i).h, y.t = x.t ∧ y.c = x.c) : TokStep T (T.setH i hs) := by
  refine h.shrink rfl (fun j _ => ?_)
  show ((upd T.r i _ j).h.map HoldM.t).Sublist _ ∧ ∀ x ∈ (upd T.r i _ j).h, _
  unfold upd
  split
  · rename_i e
    rw [e]
    exact ⟨h1, h2⟩
  · exact ⟨List.Sublist.refl _, fun x hx => ⟨x, hx, rfl, rfl⟩⟩
theorem renewH_toks (hs : List HoldM) (c u : Int) : (renewH hs c u).map HoldM.t = hs.map HoldM.t := by
  induction hs with
  | nil => rfl
  | cons h r ih =>
    unfold renewH
    split
    · rfl
    · simp [ih]
theorem renewH_old {c u : Int} : ∀ {hs : List HoldM} {x : HoldM}, x ∈ renewH hs c u → ∃ y ∈ hs, y.t = x.t ∧ y.c = x.c
  | [], x, h => by simp [renewH] at h
  | y :: r, x, h => by
    unfold renewH at h
    split at h
    · rcases List.mem_cons.1 h with rfl | h
      · exact ⟨y, by simp, rfl, rfl⟩
      · exact ⟨x, by simp [h], rfl, rfl⟩
    · rcases List.mem_cons.1 h with rfl | h
      · exact ⟨x, by simp, rfl, rfl⟩
      · obtain ⟨z, hz, h2⟩ := renewH_old h
        exact ⟨z, by simp [hz], h2⟩
theorem TokOk.time {T : TabM} (h : TokOk T) (now : Int) : TokStep T (T.time now) := by
  unfold TabM.time
  split
  · exact .refl h
  · have h0 : TokStep T (TabM.mk now T.last (fun i => ⟨(T.r i).h.filter (fun h => !decide (h.u ≤ now)), (T.r i).w⟩)) :=
      h.shrink rfl (fun j _ => ⟨List.Sublist.map _ List.filter_sublist, fun x hx => ⟨x, (List.mem_filter.1 hx).1, rfl, rfl⟩⟩)
    have h1 := h0.trans (.give h0.ok (i := 0) (by omega))
    have h2 := h1.trans (.give h1.ok (i := 1) (by omega))
    have h3 := h2.trans (.give h2.ok (i := 2) (by omega))
    exact h3.trans (.give h3.ok (i := 3) (by omega))
theorem right_nat {c r : Int} (h : rightE c r = 0) : r.toNat < 4 := by
  have := rightE_ok h
  omega
theorem TokOk.acquire {T : TabM} (h : TokOk T) (c r how : Int) : TokStep T (T.acquire c r how).1 := by
  unfold TabM.acquire
  split
  · exact .refl h
  · rename_i hr
    have hi := right_nat (by omega : rightE c r = 0)
    split
    · exact .refl h
    · unfold TabM.acqIn
      split
      · split <;> exact .refl h
      · split
        · split <;> exact .refl h
        · split
          · exact .refl h
          · have h1 := h.setW r.toNat ((T.r r.toNat).w ++ [⟨c, how⟩])
            have hs := h1.trans (.give h1.ok hi)
            unfold TabM.acqNew
            split <;> exact hs
theorem heldE_right {T : TabM} {c r t : Int} (he : T.heldE c r t = 0) : rightE c r = 0 := by
  unfold TabM.heldE at he
  split at he
  · exact he
  · omega
theorem TokOk.release {T : TabM} (h : TokOk T) (c r t : Int) : TokStep T (T.release c r t).1 := by
  unfold TabM.release
  split
  · exact .refl h
  · rename_i he
    have hi := right_nat (heldE_right (by omega : T.heldE c r t = 0))
    have h1 : TokStep T (T.setH r.toNat (dropH (T.r r.toNat).h c)) := h.setH (List.Sublist.map _ List.eraseP_sublist) (fun x hx => ⟨x, List.mem_of_mem_eraseP hx, rfl, rfl⟩)
    exact h1.trans (.give h1.ok hi)
theorem TokOk.renew {T : TabM} (h : TokOk T) (c r t : Int) : TokStep T (T.renew c r t).1 := by
  unfold TabM.renew
  split
  · exact .refl h
  · exact h.setH (by rw [renewH_toks]; exact List.Sublist.refl _) (fun x hx => renewH_old hx)
theorem TokOk.cancel {T : TabM} (h : TokOk T) (c r : Int) : TokStep T (T.cancel c r).1 := by
  unfold TabM.cancel
  split
  · exact .refl h
  · rename_i he
    have hi := right_nat (by omega : rightE c r = 0)
    split
    · have h1 := h.setW r.toNat (dropW (T.r r.toNat).w c)
      exact h1.trans (.give h1.ok hi)
    · exact .refl h
theorem TokOk.done {T : TabM} (h : TokOk T) (o : OpL) : TokStep T (doneM T o) := by
  unfold doneM
  split
  · exact h.acquire _ _ _
  · split
    · exact h.release _ _ _
    · split
      · exact h.renew _ _ _
      · split
        · exact h.cancel _ _
        · split
          · exact h.time _
          · exact .refl h
/-- all holds, region by region -/
def allH (T : TabM) (k : Nat) : List HoldM := (List.range k).flatMap fun i => (T.r i).h
theorem allH_succ (T : TabM) (k : Nat) : allH T (k + 1) = allH T k ++ (T.r k).h := by simp [allH, List.range_succ]
theorem allH_mem {T : TabM} {k : Nat} {x : HoldM} : x ∈ allH T k ↔ ∃ i, i < k ∧ x ∈ (T.r i).h := by simp [allH]
theorem allH_len {T : TabM} (h : TabOk T) : ∀ k, k ≤ 4 → (allH T k).length ≤ 4 * k
  | 0, _ => by simp [allH]
  | k + 1, hk => by
    rw [allH_succ, List.length_append]
    have := allH_len h k (by omega)
    have := h.hl k (by omega)
    omega
theorem TokOk.nodup {T : TabM} (h : TokOk T) : ∀ k, k ≤ 4 → ((allH T k).map HoldM.t).Nodup
  | 0, _ => by simp [allH]
  | k + 1, hk => by
    rw [allH_succ, List.map_append, List.nodup_append]
    refine ⟨h.nodup k (by omega), h.nd k (by omega), fun a ha b hb e => ?_⟩
    obtain ⟨x, hx, rfl⟩ := List.mem_map.1 ha
    obtain ⟨y, hy, rfl⟩ := List.mem_map.1 hb
    obtain ⟨i, hi, hx⟩ := allH_mem.1 hx
    exact h.ap i k (by omega) (by omega) (by omega) x hx y hy e
def oldB (was : List HoldM) (x : HoldM) : Bool := was.any fun y => (y.t == x.t) && (y.c == x.c)
theorem TokStep.law {T T' : TabM} (h : TokStep T T') {x : HoldM} (hx : x ∈ allH T' 4) : oldB (allH T 4) x = false → T.last < x.t ∧ x.t ≤ T'.last := by
  intro ho
  obtain ⟨i, hi, hx⟩ := allH_mem.1 hx
  refine ⟨?_, (h.ok.le i hi x hx).2⟩
  rcases h.old i hi x hx with ⟨y, hy, e1, e2⟩ | h1
  · have := List.any_eq_false.1 ho y (allH_mem.2 ⟨i, hi, hy⟩)
    simp [e1, e2] at this
  · exact h1
theorem TokOk.apart {T : TabM} (h : TokOk T) {j k : Nat} (hjk : j < k) {x y : HoldM} (hx : (allH T 4)[j]? = some x) (hy : (allH T 4)[k]? = some y) : x.t ≠ y.t := by
  have h1 := List.pairwise_iff_getElem.1 (h.nodup 4 (by omega))
  obtain ⟨hj, ej⟩ := List.getElem?_eq_some_iff.1 hx
  obtain ⟨hk, ek⟩ := List.getElem?_eq_some_iff.1 hy
  have := h1 j k (by simpa using hj) (by simpa using hk) hjk
  simp only [List.getElem_map] at this
  rw [ej, ek] at this
  exact this
theorem newT_tok : TokOk ⟨0, 0, fun _ => ⟨[], []⟩⟩ := ⟨Int.le_refl _, fun _ _ => List.nodup_nil, fun _ _ _ _ _ _x hx => absurd hx List.not_mem_nil, fun _ _ _x hx => absurd hx List.not_mem_nil⟩
end Go.Proofs.Ytbgknfdaaffeaaa
/- Locks: what always holds of a table: who holds exclusively holds alone, nobody holds and waits, no hold is over. -/
namespace Go.Proofs.Ytbgknfdaaffeaaa

structure RInv (now : Int) (hs : List HoldM) (ws : List WantM) : Prop where
  ex : ∀ x ∈ hs, x.m = 2 → hs.length ≤ 1
  un : ∀ x ∈ hs, now < x.u
  ap : ∀ q ∈ ws, ∀ x ∈ hs, q.c ≠ x.c
  nd : (ws.map WantM.c).Nodup
theorem until_gt {now : Int} (h : now < 18446744073709551615) : now < untilI now := by
  unfold untilI
  split <;> omega
theorem giveL_inv (now : Int) (hn : now < 18446744073709551615) : ∀ (ws : List WantM) (hs : List HoldM) (last : Int), RInv now hs ws → RInv now (giveL now ws hs last).2.1 (giveL now ws hs last).1
  | [], hs, last, h => h
  | x :: ws, hs, last, h => by
    unfold giveL
    split
    · rename_i hc
      refine giveL_inv now hn ws _ _ ⟨?_, ?_, ?_, ?_⟩
      · intro y hy hm
        have hh : ∀ z ∈ hs, z.m ≠ 2 ∧ x.m ≠ 2 := fun z hz => by
          have := List.any_eq_false.1 hc.2.1 z hz
          unfold hardB at this
          simp at this
          exact this
        rcases List.mem_append.1 hy with hy | hy
        · exact absurd hm (hh y hy).1
        · rw [List.mem_singleton] at hy
          subst hy
          have hm : x.m = 2 := hm
          cases hs with
          | nil => simp
          | cons z r => exact absurd hm (hh z (by simp)).2
      · intro y hy
        rcases List.mem_append.1 hy with hy | hy
        · exact h.un y hy
        · rw [List.mem_singleton] at hy
          subst hy
          exact until_gt hn
      · intro q hq y hy
        have hnd := h.nd
        rw [List.map_cons, List.nodup_cons] at hnd
        rcases List.mem_append.1 hy with hy | hy
        · exact h.ap q (by simp [hq]) y hy
        · rw [List.mem_singleton] at hy
          subst hy
          intro e
          exact hnd.1 (List.mem_map.2 ⟨q, hq, e⟩)
      · have hnd := h.nd
        rw [List.map_cons, List.nodup_cons] at hnd
        exact hnd.2
    · exact h
structure AInv (T : TabM) : Prop where
  now : T.now < 18446744073709551615
  r : ∀ i, i < 4 → RInv T.now (T.r i).h (T.r i).w
theorem AInv.give {T : TabM} (h : AInv T) {i : Nat} (hi : i < 4) : AInv (T.give i) := by
  refine ⟨h.now, fun j hj => ?_⟩
  show RInv T.now (upd T.r i _ j).h (upd T.r i _ j).w
  unfold upd
  split
  · exact giveL_inv T.now h.now _ _ _ (h.r i hi)
  · exact h.r j hj
theorem AInv.set {T : TabM} (h : AInv T) {i : Nat} {hs : List HoldM} {ws : List WantM} (hr : RInv T.now hs ws) {T' : TabM} (h1 : T'.now = T.now) (h2 : T'.r = upd T.r i ⟨hs, ws⟩) : AInv T' := by
  refine ⟨by rw [h1]; exact h.now, fun j hj => ?_⟩
  rw [h1, h2]
  unfold upd
  split
  · exact hr
  · exact h.r j hj
theorem AInv.setH {T : TabM} (h : AInv T) {i : Nat} {hs : List HoldM} (hr : RInv T.now hs (T.r i).w) : AInv (T.setH i hs) := h.set hr rfl rfl
theorem AInv.setW {T : TabM} (h : AInv T) {i : Nat} {ws : List WantM} (hr : RInv T.now (T.r i).h ws) : AInv (T.setW i ws) := h.set hr rfl rfl
theorem findH_none {hs : List HoldM} {c : Int} (h : findH hs c = none) : ∀ x ∈ hs, c ≠ x.c := by
  intro x hx e
  have := List.find?_eq_none.1 h x hx
  simp [e] at this
theorem findW_none {ws : List WantM} {c : Int} (h : findW ws c = none) : ∀ x ∈ ws, x.c ≠ c := by
  intro x hx e
  have := List.find?_eq_none.1 h x hx
  simp [e] at this
theorem AInv.acquire {T : TabM} (h : AInv T) (c r how : Int) : AInv (T.acquire c r how).1 := by
  unfold TabM.acquire
  split
  · exact h
  · rename_i hr
    have hr := rightE_ok (by omega : rightE c r = 0)
    have hi : r.toNat < 4 := by omega
    split
    · exact h
    · unfold TabM.acqIn
      split
      · split <;> exact h
      · rename_i hfh
        split
        · split <;> exact h
        · rename_i hfw
          split
          · exact h
          · have h0 := h.r r.toNat hi
            have hs : AInv (((T.setW r.toNat ((T.r r.toNat).w ++ [⟨c, how⟩]))).give r.toNat) := by
              refine (h.setW ⟨h0.ex, h0.un, fun q hq x hx => ?_, ?_⟩).give hi
              · rcases List.mem_append.1 hq with hq | hq
                · exact h0.ap q hq x hx
                · rw [List.mem_singleton] at hq
                  subst hq
                  exact findH_none hfh x hx
              · rw [List.map_append, List.nodup_append]
                refine ⟨h0.nd, by simp, fun a ha b hb => ?_⟩
                simp at hb
                subst hb
                obtain ⟨q, hq, rfl⟩ := List.mem_map.1 ha
                exact findW_none hfw q hq
            unfold TabM.acqNew
            split <;> exact hs
theorem held_right {T : TabM} {c r t : Int} (he : T.heldE c r t = 0) : rightE c r = 0 := by
  unfold TabM.heldE at he
  split at he
  · exact he
  · omega
theorem RInv.subH {now : Int} {hs hs' : List HoldM} {ws : List WantM} (h : RInv now hs ws) (hs_ : hs'.Sublist hs) : RInv now hs' ws :=
  ⟨fun x hx hm => Nat.le_trans hs_.length_le (h.ex x (hs_.subset hx) hm), fun x hx => h.un x (hs_.subset hx), fun q hq x hx => h.ap q hq x (hs_.subset hx), h.nd⟩
theorem RInv.subW {now : Int} {hs : List HoldM} {ws ws' : List WantM} (h : RInv now hs ws) (hs_ : ws'.Sublist ws) : RInv now hs ws' :=
  ⟨h.ex, h.un, fun q hq x hx => h.ap q (hs_.subset hq) x hx, h.nd.sublist (hs_.map _)⟩
theorem AInv.release {T : TabM} (h : AInv T) (c r t : Int) : AInv (T.release c r t).1 := by
  unfold TabM.release
  split
  · exact h
  · rename_i he
    have hr := rightE_ok (held_right (by omega : T.heldE c r t = 0))
    have hi : r.toNat < 4 := by omega
    exact (h.setH ((h.r r.toNat hi).subH List.eraseP_sublist)).give hi
theorem renewH_mem {c u : Int} : ∀ {hs : List HoldM} {x : HoldM}, x ∈ renewH hs c u → ∃ y ∈ hs, x.c = y.c ∧ x.m = y.m ∧ x.t = y.t ∧ (x.u = y.u ∨ x.u = u)
  | [], x, h => by simp [renewH] at h
  | y :: r, x, h => by
    unfold renewH at h
    split at h
    · rcases List.mem_cons.1 h with rfl | h
      · exact ⟨y, by simp, rfl, rfl, rfl, .inr rfl⟩
      · exact ⟨x, by simp [h], rfl, rfl, rfl, .inl rfl⟩
    · rcases List.mem_cons.1 h with rfl | h
      · exact ⟨x, by simp, rfl, rfl, rfl, .inl rfl⟩
      · obtain ⟨z, hz, h2⟩ := renewH_mem h
        exact ⟨z, by simp [hz], h2⟩
theorem AInv.renew {T : TabM} (h : AInv T) (c r t : Int) : AInv (T.renew c r t).1 := by
  unfold TabM.renew
  split
  · exact h
  · rename_i he
    have hr := rightE_ok (held_right (by omega : T.heldE c r t = 0))
    have hi : r.toNat < 4 := by omega
    have h0 := h.r r.toNat hi
    refine h.setH ⟨fun x hx hm => ?_, fun x hx => ?_, fun q hq x hx => ?_, h0.nd⟩
    · obtain ⟨y, hy, e1, e2, e3, e4⟩ := renewH_mem hx
      rw [renewH_length]
      exact h0.ex y hy (by rw [← e2]; exact hm)
    · obtain ⟨y, hy, e1, e2, e3, e4⟩ := renewH_mem hx
      rcases e4 with e4 | e4
      · rw [e4]; exact h0.un y hy
      · rw [e4]; exact until_gt h.now
    · obtain ⟨y, hy, e1, e2, e3, e4⟩ := renewH_mem hx
      rw [e1]
      exact h0.ap q hq y hy
theorem AInv.cancel {T : TabM} (h : AInv T) (c r : Int) : AInv (T.cancel c r).1 := by
  unfold TabM.cancel
  split
  · exact h
  · rename_i he
    have hr := rightE_ok (by omega : rightE c r = 0)
    have hi : r.toNat < 4 := by omega
    split
    · exact (h.setW ((h.r r.toNat hi).subW List.eraseP_sublist)).give hi
    · exact h
theorem AInv.time {T : TabM} (h : AInv T) {now : Int} (h1 : now < 18446744073709551615) : AInv (T.time now) := by
  unfold TabM.time
  split
  · exact h
  · have : AInv (TabM.mk now T.last (fun i => ⟨(T.r i).h.filter (fun h => !decide (h.u ≤ now)), (T.r i).w⟩)) := by
      refine ⟨h1, fun j hj => ?_⟩
      have h0 := h.r j hj
      have hsub : ((T.r j).h.filter (fun h => !decide (h.u ≤ now))).Sublist (T.r j).h := List.filter_sublist
      refine ⟨fun x hx hm => Nat.le_trans hsub.length_le (h0.ex x (hsub.subset hx) hm), fun x hx => ?_, fun q hq x hx => h0.ap q hq x (hsub.subset hx), h0.nd⟩
      have := (List.mem_filter.1 hx).2
      simp at this
      exact this
    exact (((this.give (by omega)).give (by omega)).give (by omega)).give (by omega)
theorem AInv.done {T : TabM} (h : AInv T) (o : OpL) (hn : o.d = 5 → o.n < 18446744073709551615) : AInv (doneM T o) := by
  unfold doneM
  split
  · exact h.acquire _ _ _
  · split
    · exact h.release _ _ _
    · split
      · exact h.renew _ _ _
      · split
        · exact h.cancel _ _
        · split
          · rename_i h5
            exact h.time (hn h5)
          · exact h
end Go.Proofs.Ytbgknfdaaffeaaa
/- Locks: what always holds of a table that began empty; what is packed is unpacked (plain). -/
namespace Go.Proofs.Ytbgknfdaaffeaaa

/-! ### a region stays right -/
theorem RegOk.sub {x : RegM} (h : RegOk x) {hs : List HoldM} {ws : List WantM} (h1 : hs.Sublist x.h) (h2 : ws.Sublist x.w) : RegOk ⟨hs, ws⟩ :=
  ⟨Nat.le_trans h1.length_le h.hl, Nat.le_trans h2.length_le h.wl, fun y hy => ⟨(h.h y (h1.subset hy)).1, (h.h y (h1.subset hy)).2.1, fun hl => (h.h y (h1.subset hy)).2.2 (Nat.lt_of_lt_of_le hl h1.length_le)⟩,
    fun y hy => h.w y (h2.subset hy), h.nd.sublist ((h1.map _).append (h2.map _))⟩
theorem giveL_reg (now : Int) : ∀ (ws : List WantM) (hs : List HoldM) (last : Int), RegOk ⟨hs, ws⟩ → RegOk ⟨(giveL now ws hs last).2.1, (giveL now ws hs last).1⟩
  | [], hs, last, h => h
  | x :: ws, hs, last, h => by
    unfold giveL
    split
    · rename_i hc
      have hh : ∀ z ∈ hs, z.m ≠ 2 ∧ x.m ≠ 2 := fun z hz => by
        have := List.any_eq_false.1 hc.2.1 z hz
        unfold hardB at this
        simp at this
        exact this
      have hx := h.w x (by simp)
      refine giveL_reg now ws _ _ ⟨by simp; omega, Nat.le_trans (Nat.le_succ _) h.wl, fun y hy => ?_, fun y hy => h.w y (by simp [hy]), ?_⟩
      · rcases List.mem_append.1 hy with hy | hy
        · exact ⟨(h.h y hy).1, (h.h y hy).2.1, fun _ => (hh y hy).1⟩
        · rw [List.mem_singleton] at hy
          subst hy
          refine ⟨hx.1, hx.2, fun hl => ?_⟩
          cases hs with
          | nil => simp at hl
          | cons z r => exact (hh z (by simp)).2
      · have := h.nd
        simpa using this
    · exact h
structure PInv (T : TabM) : Prop where
  ok : TabOk T
  reg : ∀ i, i < 4 → RegOk (T.r i)
  tok : TokOk T
  un : ∀ i, i < 4 → ∀ x ∈ (T.r i).h, 0 ≤ x.u ∧ x.u ≤ 18446744073709551615
theorem giveL_un (now : Int) (hn : 0 ≤ now ∧ now ≤ 18446744073709551615) : ∀ (ws : List WantM) (hs : List HoldM) (last : Int), (∀ x ∈ hs, 0 ≤ x.u ∧ x.u ≤ 18446744073709551615) → ∀ x ∈ (giveL now ws hs last).2.1, 0 ≤ x.u ∧ x.u ≤ 18446744073709551615
  | [], hs, last, h => h
  | x :: ws, hs, last, h => by
    unfold giveL
    split
    · refine giveL_un now hn ws _ _ (fun y hy => ?_)
      rcases List.mem_append.1 hy with hy | hy
      · exact h y hy
      · rw [List.mem_singleton] at hy
        subst hy
        show 0 ≤ untilI now ∧ untilI now ≤ _
        unfold untilI
        split <;> omega
    · exact h
/-- what holds of the regions alone -/
structure QInv (T : TabM) : Prop where
  now0 : 0 ≤ T.now
  now1 : T.now ≤ 18446744073709551615
  reg : ∀ i, i < 4 → RegOk (T.r i)
  un : ∀ i, i < 4 → ∀ x ∈ (T.r i).h, 0 ≤ x.u ∧ x.u ≤ 18446744073709551615
theorem QInv.give {T : TabM} (h : QInv T) {i : Nat} (hi : i < 4) : QInv (T.give i) := by
  refine ⟨h.now0, h.now1, fun j hj => ?_, fun j hj => ?_⟩
  · show RegOk (upd T.r i _ j)
    unfold upd
    split
    · exact giveL_reg _ _ _ _ (h.reg i hi)
    · exact h.reg j hj
  · show ∀ x ∈ (upd T.r i _ j).h, _
    unfold upd
    split
    · exact giveL_un _ ⟨h.now0, h.now1⟩ _ _ _ (h.un i hi)
    · exact h.un j hj
theorem QInv.set {T T' : TabM} (h : QInv T) {i : Nat} {x : RegM} (hx : RegOk x) (hu : ∀ y ∈ x.h, 0 ≤ y.u ∧ y.u ≤ 18446744073709551615) (h1 : T'.now = T.now) (h2 : T'.r = upd T.r i x) : QInv T' := by
  refine ⟨by rw [h1]; exact h.now0, by rw [h1]; exact h.now1, fun j hj => ?_, fun j hj => ?_⟩
  · rw [h2]
    unfold upd
    split
    · exact hx
    · exact h.reg j hj
  · rw [h2]
    unfold upd
    split
    · exact hu
    · exact h.un j hj
theorem QInv.acquire {T : TabM} (h : QInv T) (c r how : Int) : QInv (T.acquire c r how).1 := by
  unfold TabM.acquire
  split
  · exact h
  · rename_i hr
    have hr0 : rightE c r = 0 := by omega
    have hr := rightE_ok hr0
    have hi : r.toNat < 4 := by omega
    split
    · exact h
    · rename_i hmo
      unfold TabM.acqIn
      split
      · split <;> exact h
      · rename_i hfh
        split
        · split <;> exact h
        · rename_i hfw
          split
          · exact h
          · rename_i hfull
            have h0 := h.reg r.toNat hi
            have hs : QInv (((T.setW r.toNat ((T.r r.toNat).w ++ [⟨c, how⟩]))).give r.toNat) := by
              refine (h.set (T' := T.setW r.toNat ((T.r r.toNat).w ++ [⟨c, how⟩])) (x := ⟨(T.r r.toNat).h, (T.r r.toNat).w ++ [⟨c, how⟩]⟩) ⟨h0.hl, by simp; omega, h0.h, fun y hy => ?_, ?_⟩ (h.un r.toNat hi) rfl rfl).give hi
              · rcases List.mem_append.1 hy with hy | hy
                · exact h0.w y hy
                · rw [List.mem_singleton] at hy
                  subst hy
                  refine ⟨?_, by simpa using hmo⟩
                  unfold rightE at hr0
                  split at hr0
                  · omega
                  · rename_i hn
                    simpa using hn
              · show ((T.r r.toNat).h.map HoldM.c ++ ((T.r r.toNat).w ++ [(⟨c, how⟩ : WantM)]).map WantM.c).Nodup
                rw [List.map_append, ← List.append_assoc, List.nodup_append]
                refine ⟨h0.nd, by simp, fun a ha b hb => ?_⟩
                simp at hb
                subst hb
                rcases List.mem_append.1 ha with ha | ha
                · obtain ⟨q, hq, rfl⟩ := List.mem_map.1 ha
                  exact (findH_none hfh q hq).symm
                · obtain ⟨q, hq, rfl⟩ := List.mem_map.1 ha
                  exact findW_none hfw q hq
            unfold TabM.acqNew
            split <;> exact hs
theorem QInv.release {T : TabM} (h : QInv T) (c r t : Int) : QInv (T.release c r t).1 := by
  unfold TabM.release
  split
  · exact h
  · rename_i he
    have hr := rightE_ok (held_right (by omega : T.heldE c r t = 0))
    have hi : r.toNat < 4 := by omega
    exact (h.set (T' := T.setH r.toNat (dropH (T.r r.toNat).h c)) (x := ⟨dropH (T.r r.toNat).h c, (T.r r.toNat).w⟩) ((h.reg _ hi).sub List.eraseP_sublist (List.Sublist.refl _)) (fun y hy => h.un _ hi y (List.eraseP_sublist.subset hy)) rfl rfl).give hi
theorem renewH_cs (hs : List HoldM) (c u : Int) : (renewH hs c u).map HoldM.c = hs.map HoldM.c := by
  induction hs with
  | nil => rfl
  | cons h r ih =>
    unfold renewH
    split
    · rfl
    · simp [ih]
theorem QInv.renew {T : TabM} (h : QInv T) (c r t : Int) : QInv (T.renew c r t).1 := by
  unfold TabM.renew
  split
  · exact h
  · rename_i he
    have hr := rightE_ok (held_right (by omega : T.heldE c r t = 0))
    have hi : r.toNat < 4 := by omega
    have h0 := h.reg _ hi
    refine h.set (x := ⟨renewH (T.r r.toNat).h c (untilI T.now), (T.r r.toNat).w⟩) ⟨by rw [renewH_length]; exact h0.hl, h0.wl, fun y hy => ?_, h0.w, ?_⟩ (fun y hy => ?_) rfl rfl
    · obtain ⟨z, hz, e1, e2, _, _⟩ := renewH_mem hy
      rw [e1, e2, renewH_length]
      exact h0.h z hz
    · show ((renewH _ _ _).map HoldM.c ++ _).Nodup
      rw [renewH_cs]
      exact h0.nd
    · obtain ⟨z, hz, _, _, _, e | e⟩ := renewH_mem hy
      · rw [e]
        exact h.un _ hi z hz
      · rw [e]
        have := h.now0
        have := h.now1
        unfold untilI
        split <;> omega
theorem QInv.cancel {T : TabM} (h : QInv T) (c r : Int) : QInv (T.cancel c r).1 := by
  unfold TabM.cancel
  split
  · exact h
  · rename_i he
    have hr := rightE_ok (by omega : rightE c r = 0)
    have hi : r.toNat < 4 := by omega
    split
    · exact (h.set (T' := T.setW r.toNat (dropW (T.r r.toNat).w c)) (x := ⟨(T.r r.toNat).h, dropW (T.r r.toNat).w c⟩) ((h.reg _ hi).sub (List.Sublist.refl _) List.eraseP_sublist) (h.un _ hi) rfl rfl).give hi
    · exact h
theorem QInv.time {T : TabM} (h : QInv T) {now : Int} (h1 : now ≤ 18446744073709551615) : QInv (T.time now) := by
  unfold TabM.time
  split
  · exact h
  · rename_i hn
    have h0 := h.now0
    have : QInv (TabM.mk now T.last (fun i => ⟨(T.r i).h.filter (fun h => !decide (h.u ≤ now)), (T.r i).w⟩)) :=
      ⟨by show 0 ≤ now; omega, h1, fun j hj => (h.reg j hj).sub List.filter_sublist (List.Sublist.refl _), fun j hj x hx => h.un j hj x (List.mem_filter.1 hx).1⟩
    exact (((this.give (by omega)).give (by omega)).give (by omega)).give (by omega)
theorem PInv.q {T : TabM} (h : PInv T) : QInv T := ⟨h.ok.now0, h.ok.now1, h.reg, h.un⟩
theorem PInv.of {T : TabM} (h1 : TabOk T) (h2 : QInv T) (h3 : TokOk T) : PInv T := ⟨h1, h2.reg, h3, h2.un⟩
theorem PInv.acquire {T : TabM} (h : PInv T) (c r how : Int) : PInv (T.acquire c r how).1 := .of (h.ok.acquire c r how) (h.q.acquire c r how) (h.tok.acquire c r how).ok
theorem PInv.release {T : TabM} (h : PInv T) (c r t : Int) : PInv (T.release c r t).1 := .of (h.ok.release c r t) (h.q.release c r t) (h.tok.release c r t).ok
theorem PInv.renew {T : TabM} (h : PInv T) (c r t : Int) : PInv (T.renew c r t).1 := .of (h.ok.renew c r t) (h.q.renew c r t) (h.tok.renew c r t).ok
theorem PInv.cancel {T : TabM} (h : PInv T) (c r : Int) : PInv (T.cancel c r).1 := .of (h.ok.cancel c r) (h.q.cancel c r) (h.tok.cancel c r).ok
theorem PInv.time {T : TabM} (h : PInv T) {now : Int} (h1 : now ≤ 18446744073709551615) : PInv (T.time now) := .of (h.ok.time h1) (h.q.time h1) (h.tok.time now).ok
theorem PInv.zero : PInv ⟨0, 0, fun _ => ⟨[], []⟩⟩ :=
  ⟨⟨by decide, by decide, by decide, by decide, fun _ _ => Nat.zero_le _, fun _ _ => Nat.zero_le _⟩, fun _ _ => ⟨Nat.zero_le _, Nat.zero_le _, fun _ h => absurd h List.not_mem_nil, fun _ h => absurd h List.not_mem_nil, List.nodup_nil⟩,
    ⟨by decide, fun _ _ => List.nodup_nil, fun _ _ _ _ _ _ h => absurd h List.not_mem_nil, fun _ _ _ h => absurd h List.not_mem_nil⟩, fun _ _ _ h => absurd h List.not_mem_nil⟩
theorem node_range {c : Int} (h : nodeB c = true) : 0 ≤ c ∧ c ≤ 255 := by
  unfold nodeB at h
  simp at h
  omega
theorem mode_range {c : Int} (h : modeB c = true) : 0 ≤ c ∧ c ≤ 255 := by
  unfold modeB at h
  simp at h
  omega
theorem PInv.pack {T : TabM} (h : PInv T) : PackOk T :=
  ⟨fun i hi x hx => ⟨node_range ((h.reg i hi).h x hx).1, mode_range ((h.reg i hi).h x hx).2.1, ⟨Int.le_of_lt (h.tok.le i hi x hx).1, Int.le_trans (h.tok.le i hi x hx).2 h.ok.last1⟩, h.un i hi x hx⟩,
    fun i hi x hx => ⟨node_range ((h.reg i hi).w x hx).1, mode_range ((h.reg i hi).w x hx).2⟩⟩
/-! ### what is packed is unpacked -/
theorem Rd.num_back {n : Int} {k : Nat} (h1 : 1 ≤ k) (h8 : k ≤ 8) (h0 : 0 ≤ n) (hn : n < 256 ^ k) (b : List Int) : Rd.num ⟨numI n (k : Int) ++ b, false⟩ (k : Int) = (n, ⟨b, false⟩) := by
  obtain ⟨m, rfl⟩ := Int.eq_ofNat_of_zero_le h0
  have e : numI (m : Int) (k : Int) = numB (m : Int) k := by
    unfold numI
    rw [if_neg (by omega)]
    rfl
  rw [e, Rd.num_append m k h1 h8 b]
  have h2 : (m : Int) < ((256 ^ k : Nat) : Int) := by rw [Int.natCast_pow]; exact hn
  have : m < 256 ^ k := Int.ofNat_lt.1 h2
  rw [Nat.mod_eq_of_lt this]
theorem Rd.num1_back {n : Int} (h : 0 ≤ n ∧ n ≤ 255) (b : List Int) : Rd.num ⟨numI n 1 ++ b, false⟩ 1 = (n, ⟨b, false⟩) := Rd.num_back (k := 1) (by omega) (by omega) h.1 (by omega) b
theorem Rd.num8_back {n : Int} (h : 0 ≤ n ∧ n ≤ 18446744073709551615) (b : List Int) : Rd.num ⟨numI n 8 ++ b, false⟩ 8 = (n, ⟨b, false⟩) := Rd.num_back (k := 8) (by omega) (by omega) h.1 (by omega) b
theorem Rd.ho_back {x : HoldM} (h : (0 ≤ x.c ∧ x.c ≤ 255) ∧ (0 ≤ x.m ∧ x.m ≤ 255) ∧ (0 ≤ x.t ∧ x.t ≤ 18446744073709551615) ∧ (0 ≤ x.u ∧ x.u ≤ 18446744073709551615)) (b : List Int) : Rd.ho ⟨holdB x ++ b, false⟩ = (x, ⟨b, false⟩) := by
  unfold holdB Rd.ho
  simp only [List.append_assoc]
  rw [Rd.num1_back h.1, Rd.num1_back h.2.1, Rd.num8_back h.2.2.1, Rd.num8_back h.2.2.2]
theorem Rd.wo_back {x : WantM} (h : (0 ≤ x.c ∧ x.c ≤ 255) ∧ (0 ≤ x.m ∧ x.m ≤ 255)) (b : List Int) : Rd.wo ⟨wantB x ++ b, false⟩ = (x, ⟨b, false⟩) := by
  unfold wantB Rd.wo
  simp only [List.append_assoc]
  rw [Rd.num1_back h.1, Rd.num1_back h.2]
theorem Rd.hos_back {hs : List HoldM} (h : ∀ x ∈ hs, (0 ≤ x.c ∧ x.c ≤ 255) ∧ (0 ≤ x.m ∧ x.m ≤ 255) ∧ (0 ≤ x.t ∧ x.t ≤ 18446744073709551615) ∧ (0 ≤ x.u ∧ x.u ≤ 18446744073709551615)) (b : List Int) :
    ∀ n, n ≤ hs.length → Rd.hos ⟨hs.flatMap holdB ++ b, false⟩ n = (hs.take n, ⟨(hs.drop n).flatMap holdB ++ b, false⟩)
  | 0, _ => by simp [Rd.hos]
  | n + 1, hn => by
    have ih := Rd.hos_back h b n (by omega)
    have hx := List.getElem?_eq_getElem (l := hs) (i := n) (by omega)
    generalize hs[n]'(by omega) = x at hx
    have hd : hs.drop n = x :: hs.drop (n + 1) := by rw [List.drop_eq_getElem_cons (by omega)]; congr 1; rw [List.getElem?_eq_getElem (by omega)] at hx; exact Option.some.inj hx
    unfold Rd.hos
    rw [ih, hd, List.flatMap_cons, List.append_assoc, Rd.ho_back (h x (List.mem_of_getElem? hx)), List.take_add_one, hx]
    rfl
theorem Rd.wos_back {ws : List WantM} (h : ∀ x ∈ ws, (0 ≤ x.c ∧ x.c ≤ 255) ∧ (0 ≤ x.m ∧ x.m ≤ 255)) (b : List Int) :
    ∀ n, n ≤ ws.length → Rd.wos ⟨ws.flatMap wantB ++ b, false⟩ n = (ws.take n, ⟨(ws.drop n).flatMap wantB ++ b, false⟩)
  | 0, _ => by simp [Rd.wos]
  | n + 1, hn => by
    have ih := Rd.wos_back h b n (by omega)
    have hx := List.getElem?_eq_getElem (l := ws) (i := n) (by omega)
    generalize ws[n]'(by omega) = x at hx
    have hd : ws.drop n = x :: ws.drop (n + 1) := by rw [List.drop_eq_getElem_cons (by omega)]; congr 1; rw [List.getElem?_eq_getElem (by omega)] at hx; exact Option.some.inj hx
    unfold Rd.wos
    rw [ih, hd, List.flatMap_cons, List.append_assoc, Rd.wo_back (h x (List.mem_of_getElem? hx)), List.take_add_one, hx]
    rfl
theorem Rd.lreg_back {T : TabM} (h : PackOk T) (ok : TabOk T) {i : Nat} (hi : i < 4) (b : List Int) : Rd.lreg ⟨lregB (T.r i) ++ b, false⟩ = T.r i ∧ (Rd.g4 ⟨lregB (T.r i) ++ b, false⟩).2 = ⟨b, false⟩ := by
  have e1 : Rd.g1 ⟨lregB (T.r i) ++ b, false⟩ = (((T.r i).h.length : Int), ⟨(T.r i).h.flatMap holdB ++ (numI ((T.r i).w.length : Nat) 1 ++ ((T.r i).w.flatMap wantB ++ b)), false⟩) := by
    unfold lregB Rd.g1
    simp only [List.append_assoc]
    exact Rd.num1_back (by have := ok.hl i hi; omega) _
  have e2 : Rd.g2 ⟨lregB (T.r i) ++ b, false⟩ = ((T.r i).h, ⟨numI ((T.r i).w.length : Nat) 1 ++ ((T.r i).w.flatMap wantB ++ b), false⟩) := by
    unfold Rd.g2
    rw [e1]
    have := Rd.hos_back (h.h i hi) (numI ((T.r i).w.length : Nat) 1 ++ ((T.r i).w.flatMap wantB ++ b)) (T.r i).h.length (Nat.le_refl _)
    simpa using this
  have e3 : Rd.g3 ⟨lregB (T.r i) ++ b, false⟩ = (((T.r i).w.length : Int), ⟨(T.r i).w.flatMap wantB ++ b, false⟩) := by
    unfold Rd.g3
    rw [e2]
    exact Rd.num1_back (by have := ok.wl i hi; omega) _
  have e4 : Rd.g4 ⟨lregB (T.r i) ++ b, false⟩ = ((T.r i).w, ⟨b, false⟩) := by
    unfold Rd.g4
    rw [e3]
    have := Rd.wos_back (h.w i hi) b (T.r i).w.length (Nat.le_refl _)
    simpa using this
  exact ⟨by unfold Rd.lreg; rw [e2, e4], by rw [e4]⟩
theorem Rd.tab_back {T : TabM} (h : PackOk T) (ok : TabOk T) (b : List Int) : (∀ i, i < 4 → (Rd.tab ⟨lpackTo T.r 4 ++ b, false⟩ 4).1 i = T.r i) ∧ (Rd.tab ⟨lpackTo T.r 4 ++ b, false⟩ 4).2 = ⟨b, false⟩ := by
  have e : lpackTo T.r 4 ++ b = lregB (T.r 0) ++ (lregB (T.r 1) ++ (lregB (T.r 2) ++ (lregB (T.r 3) ++ b))) := by
    rw [lpackTo_succ, lpackTo_succ, lpackTo_succ, lpackTo_succ]
    simp [lpackTo]
  rw [e]
  generalize hr : (⟨lregB (T.r 0) ++ (lregB (T.r 1) ++ (lregB (T.r 2) ++ (lregB (T.r 3) ++ b))), false⟩ : Rd) = r
  have a0 := Rd.lreg_back h ok (i := 0) (by omega) (lregB (T.r 1) ++ (lregB (T.r 2) ++ (lregB (T.r 3) ++ b)))
  have a1 := Rd.lreg_back h ok (i := 1) (by omega) (lregB (T.r 2) ++ (lregB (T.r 3) ++ b))
  have a2 := Rd.lreg_back h ok (i := 2) (by omega) (lregB (T.r 3) ++ b)
  have a3 := Rd.lreg_back h ok (i := 3) (by omega) b
  rw [hr] at a0
  have t1 : r.tab 1 = (upd (fun _ => ⟨[], []⟩) 0 (T.r 0), ⟨lregB (T.r 1) ++ (lregB (T.r 2) ++ (lregB (T.r 3) ++ b)), false⟩) := by
    show (upd _ 0 r.lreg, r.g4.2) = _
    rw [a0.1, a0.2]
    rfl
  have t2 : r.tab 2 = (upd (upd (fun _ => ⟨[], []⟩) 0 (T.r 0)) 1 (T.r 1), ⟨lregB (T.r 2) ++ (lregB (T.r 3) ++ b), false⟩) := by
    show (upd (r.tab 1).1 1 (r.tab 1).2.lreg, (r.tab 1).2.g4.2) = _
    rw [t1, a1.1, a1.2]
  have t3 : r.tab 3 = (upd (upd (upd (fun _ => ⟨[], []⟩) 0 (T.r 0)) 1 (T.r 1)) 2 (T.r 2), ⟨lregB (T.r 3) ++ b, false⟩) := by
    show (upd (r.tab 2).1 2 (r.tab 2).2.lreg, (r.tab 2).2.g4.2) = _
    rw [t2, a2.1, a2.2]
  have t4 : r.tab 4 = (upd (upd (upd (upd (fun _ => ⟨[], []⟩) 0 (T.r 0)) 1 (T.r 1)) 2 (T.r 2)) 3 (T.r 3), ⟨b, false⟩) := by
    show (upd (r.tab 3).1 3 (r.tab 3).2.lreg, (r.tab 3).2.g4.2) = _
    rw [t3, a3.1, a3.2]
  rw [t4]
  refine ⟨fun i hi => ?_, rfl⟩
  rcases lt4U hi with rfl | rfl | rfl | rfl <;> rfl
theorem packT_back {T : TabM} (h : PInv T) : uE (packT T) = 0 ∧ (uTab (packT T)).now = T.now ∧ (uTab (packT T)).last = T.last ∧ ∀ i, i < 4 → (uTab (packT T)).r i = T.r i := by
  have e1 : Rd.t1 ⟨packT T, false⟩ = (T.now, ⟨numI T.last 8 ++ lpackTo T.r 4, false⟩) := by
    unfold packT Rd.t1
    rw [List.append_assoc]
    exact Rd.num8_back ⟨h.ok.now0, h.ok.now1⟩ _
  have e2 : Rd.t2 ⟨packT T, false⟩ = (T.last, ⟨lpackTo T.r 4, false⟩) := by
    unfold Rd.t2
    rw [e1]
    exact Rd.num8_back ⟨h.ok.last0, h.ok.last1⟩ _
  have e3 := Rd.tab_back h.pack h.ok []
  rw [List.append_nil] at e3
  have e4 : Rd.t4 ⟨packT T, false⟩ = Rd.tab ⟨lpackTo T.r 4, false⟩ 4 := by
    unfold Rd.t4
    rw [e2]
  have hr : ∀ i, i < 4 → (uTab (packT T)).r i = T.r i := fun i hi => by
    show (Rd.t4 ⟨packT T, false⟩).1 i = _
    rw [e4]
    exact e3.1 i hi
  have hl : (uTab (packT T)).last = T.last := by show (Rd.t2 _).1 = _; rw [e2]
  refine ⟨?_, by show (Rd.t1 _).1 = _; rw [e1], hl, hr⟩
  unfold uE
  rw [e4, e3.2]
  rw [if_neg (by simp [Rd.endE])]
  rw [if_pos]
  unfold uOk
  rw [Bool.and_eq_true, okToks_iff, hl, toksT_four, hr 0 (by omega), hr 1 (by omega), hr 2 (by omega), hr 3 (by omega)]
  have mt : ∀ {i : Nat} {t : Int}, t ∈ (T.r i).h.map HoldM.t → ∃ x ∈ (T.r i).h, x.t = t := fun hx => List.mem_map.1 hx
  have ap : ∀ {i j : Nat}, i < 4 → j < 4 → i ≠ j → ∀ a ∈ (T.r i).h.map HoldM.t, ∀ b ∈ (T.r j).h.map HoldM.t, a ≠ b := fun hi hj hij a ha b hb => by
    obtain ⟨x, hx, rfl⟩ := mt ha
    obtain ⟨y, hy, rfl⟩ := mt hb
    exact h.tok.ap _ _ hi hj hij x hx y hy
  have le : ∀ {i : Nat}, i < 4 → ∀ a ∈ (T.r i).h.map HoldM.t, 0 < a ∧ a ≤ T.last := fun hi a ha => by
    obtain ⟨x, hx, rfl⟩ := mt ha
    exact h.tok.le _ hi x hx
  refine ⟨⟨?_, ?_⟩, ?_⟩
  · rw [List.nodup_append, List.nodup_append, List.nodup_append]
    refine ⟨h.tok.nd 0 (by omega), ⟨h.tok.nd 1 (by omega), ⟨h.tok.nd 2 (by omega), h.tok.nd 3 (by omega), ap (by omega) (by omega) (by omega)⟩, fun a ha b hb => ?_⟩, fun a ha b hb => ?_⟩
    · rcases List.mem_append.1 hb with hb | hb
      · exact ap (by omega) (by omega) (by omega) a ha b hb
      · exact ap (by omega) (by omega) (by omega) a ha b hb
    · rcases List.mem_append.1 hb with hb | hb
      · exact ap (by omega) (by omega) (by omega) a ha b hb
      · rcases List.mem_append.1 hb with hb | hb
        · exact ap (by omega) (by omega) (by omega) a ha b hb
        · exact ap (by omega) (by omega) (by omega) a ha b hb
  · intro t ht
    simp only [List.mem_append] at ht
    rcases ht with ht | ht | ht | ht
    · exact le (by omega) t ht
    · exact le (by omega) t ht
    · exact le (by omega) t ht
    · exact le (by omega) t ht
  · unfold chkT
    rw [all4]
    intro i hi
    rw [hr i hi, checkB_iff]
    exact h.reg i hi
theorem tabR_back {T : TabM} (h : PInv T) (g : Nat) : tabR g (uTab (packT T)) = tabR g T := by
  obtain ⟨_, h1, h2, h3⟩ := packT_back h
  have := tabR_congr g T.now T.last (r := (uTab (packT T)).r) (r' := T.r) (fun j hj => (h3 j hj).symm)
  calc tabR g (uTab (packT T)) = tabR g ⟨T.now, T.last, (uTab (packT T)).r⟩ := by rw [← h1, ← h2]
    _ = tabR g ⟨T.now, T.last, T.r⟩ := this
    _ = tabR g T := rfl
theorem packT_length {T : TabM} (h : PInv T) : (packT T).length ≤ 400 := by
  have hl : ∀ i, i < 4 → (lregB (T.r i)).length ≤ 90 := fun i hi => by
    have a := h.ok.hl i hi
    have b := h.ok.wl i hi
    have fh : ∀ l : List HoldM, (l.flatMap holdB).length ≤ l.length * 18 := fun l => by
      induction l with
      | nil => simp
      | cons x r ih =>
        have e : (holdB x).length ≤ 18 := by
          unfold holdB
          have n8 : ∀ n : Int, (numI n 8).length ≤ 8 := fun n => numI_length n 8
          have n1 : ∀ n : Int, (numI n 1).length = 1 := fun n => by unfold numI; rw [if_neg (by omega), numB_length]; rfl
          simp only [List.length_append, n1]
          have := n8 x.t
          have := n8 x.u
          omega
        rw [List.flatMap_cons, List.length_append, List.length_cons]
        omega
    have fw : ∀ l : List WantM, (l.flatMap wantB).length ≤ l.length * 2 := fun l => by
      induction l with
      | nil => simp
      | cons x r ih =>
        have e : (wantB x).length ≤ 2 := by
          unfold wantB
          have n1 : ∀ n : Int, (numI n 1).length = 1 := fun n => by unfold numI; rw [if_neg (by omega), numB_length]; rfl
          simp only [List.length_append, n1]
          omega
        rw [List.flatMap_cons, List.length_append, List.length_cons]
        omega
    have := fh (T.r i).h
    have := fw (T.r i).w
    have n1 : ∀ n : Int, (numI n 1).length = 1 := fun n => by unfold numI; rw [if_neg (by omega), numB_length]; rfl
    unfold lregB
    simp only [List.length_append, n1]
    omega
  have n8 := numI_length T.now 8
  have m8 := numI_length T.last 8
  unfold packT
  rw [lpackTo_succ, lpackTo_succ, lpackTo_succ, lpackTo_succ]
  have := hl 0 (by omega)
  have := hl 1 (by omega)
  have := hl 2 (by omega)
  have := hl 3 (by omega)
  simp only [List.length_append, lpackTo, List.range_zero, List.flatMap_nil, List.length_nil]
  omega
theorem packT_bytes (T : TabM) : Bytes (packT T) := by
  have ha : ∀ {xs ys : List Int}, Bytes xs → Bytes ys → Bytes (xs ++ ys) := fun h1 h2 x hx => by
    rcases List.mem_append.1 hx with hx | hx
    · exact h1 x hx
    · exact h2 x hx
  have hf : ∀ {α : Type} (f : α → List Int), (∀ x, Bytes (f x)) → ∀ l : List α, Bytes (l.flatMap f) := fun f h l x hx => by
    obtain ⟨y, _, hy⟩ := List.mem_flatMap.1 hx
    exact h y x hy
  exact ha (ha (numI_bytes _ _) (numI_bytes _ _)) (hf _ (fun i => ha (ha (ha (numI_bytes _ _) (hf _ (fun x => ha (ha (ha (numI_bytes _ _) (numI_bytes _ _)) (numI_bytes _ _)) (numI_bytes _ _)) _)) (numI_bytes _ _)) (hf _ (fun x => ha (numI_bytes _ _) (numI_bytes _ _)) _)) _)
end Go.Proofs.Ytbgknfdaaffeaaa
