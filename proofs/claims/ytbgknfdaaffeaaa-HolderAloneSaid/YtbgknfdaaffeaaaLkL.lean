/- Locks: what always holds of a table: who holds exclusively holds alone, nobody holds and waits, no hold is over. -/
import Derived.Test.YtbgknfdaaffeaaaLkD
namespace Go.Proofs.Ytbgknfdaaffeaaa

structure RInv (now : Int) (hs : List HoldM) (ws : List WantM) : Prop where
  ex : ∀ x ∈ hs, x.m = 2 → hs.length ≤ 1
  un : ∀ x ∈ hs, now < x.u
  ap : ∀ q ∈ ws, ∀ x ∈ hs, q.c ≠ x.c
  nd : (ws.map WantM.c).Nodup
theorem until_gt {now : Int} (h : now < 18446744073709551615) : now < untilI now := by
  unfold untilI
  split <;> omega
theorem giveL_inv (now : Int) (hn : now < 18446744073709551615) : ∀ (ws : List WantM) (hs : List HoldM) (last : Int), RInv now hs ws → RInv now (giveL now ws hs last).2.1 (giveL now ws hs last).1
  | [], hs, last, h => h
  | x :: ws, hs, last, h => by
    unfold giveL
    split
    · rename_i hc
      refine giveL_inv now hn ws _ _ ⟨?_, ?_, ?_, ?_⟩
      · intro y hy hm
        have hh : ∀ z ∈ hs, z.m ≠ 2 ∧ x.m ≠ 2 := fun z hz => by
          have := List.any_eq_false.1 hc.2.1 z hz
          unfold hardB at this
          simp at this
          exact this
        rcases List.mem_append.1 hy with hy | hy
        · exact absurd hm (hh y hy).1
        · rw [List.mem_singleton] at hy
          subst hy
          have hm : x.m = 2 := hm
          cases hs with
          | nil => simp
          | cons z r => exact absurd hm (hh z (by simp)).2
      · intro y hy
        rcases List.mem_append.1 hy with hy | hy
        · exact h.un y hy
        · rw [List.mem_singleton] at hy
          subst hy
          exact until_gt hn
      · intro q hq y hy
        have hnd := h.nd
        rw [List.map_cons, List.nodup_cons] at hnd
        rcases List.mem_append.1 hy with hy | hy
        · exact h.ap q (by simp [hq]) y hy
        · rw [List.mem_singleton] at hy
          subst hy
          intro e
          exact hnd.1 (List.mem_map.2 ⟨q, hq, e⟩)
      · have hnd := h.nd
        rw [List.map_cons, List.nodup_cons] at hnd
        exact hnd.2
    · exact h
structure AInv (T : TabM) : Prop where
  now : T.now < 18446744073709551615
  r : ∀ i, i < 4 → RInv T.now (T.r i).h (T.r i).w
theorem AInv.give {T : TabM} (h : AInv T) {i : Nat} (hi : i < 4) : AInv (T.give i) := by
  refine ⟨h.now, fun j hj => ?_⟩
  show RInv T.now (upd T.r i _ j).h (upd T.r i _ j).w
  unfold upd
  split
  · exact giveL_inv T.now h.now _ _ _ (h.r i hi)
  · exact h.r j hj
theorem AInv.set {T : TabM} (h : AInv T) {i : Nat} {hs : List HoldM} {ws : List WantM} (hr : RInv T.now hs ws) {T' : TabM} (h1 : T'.now = T.now) (h2 : T'.r = upd T.r i ⟨hs, ws⟩) : AInv T' := by
  refine ⟨by rw [h1]; exact h.now, fun j hj => ?_⟩
  rw [h1, h2]
  unfold upd
  split
  · exact hr
  · exact h.r j hj
theorem AInv.setH {T : TabM} (h : AInv T) {i : Nat} {hs : List HoldM} (hr : RInv T.now hs (T.r i).w) : AInv (T.setH i hs) := h.set hr rfl rfl
theorem AInv.setW {T : TabM} (h : AInv T) {i : Nat} {ws : List WantM} (hr : RInv T.now (T.r i).h ws) : AInv (T.setW i ws) := h.set hr rfl rfl
theorem findH_none {hs : List HoldM} {c : Int} (h : findH hs c = none) : ∀ x ∈ hs, c ≠ x.c := by
  intro x hx e
  have := List.find?_eq_none.1 h x hx
  simp [e] at this
theorem findW_none {ws : List WantM} {c : Int} (h : findW ws c = none) : ∀ x ∈ ws, x.c ≠ c := by
  intro x hx e
  have := List.find?_eq_none.1 h x hx
  simp [e] at this
theorem AInv.acquire {T : TabM} (h : AInv T) (c r how : Int) : AInv (T.acquire c r how).1 := by
  unfold TabM.acquire
  split
  · exact h
  · rename_i hr
    have hr := rightE_ok (by omega : rightE c r = 0)
    have hi : r.toNat < 4 := by omega
    split
    · exact h
    · unfold TabM.acqIn
      split
      · split <;> exact h
      · rename_i hfh
        split
        · split <;> exact h
        · rename_i hfw
          split
          · exact h
          · have h0 := h.r r.toNat hi
            have hs : AInv (((T.setW r.toNat ((T.r r.toNat).w ++ [⟨c, how⟩]))).give r.toNat) := by
              refine (h.setW ⟨h0.ex, h0.un, fun q hq x hx => ?_, ?_⟩).give hi
              · rcases List.mem_append.1 hq with hq | hq
                · exact h0.ap q hq x hx
                · rw [List.mem_singleton] at hq
                  subst hq
                  exact findH_none hfh x hx
              · rw [List.map_append, List.nodup_append]
                refine ⟨h0.nd, by simp, fun a ha b hb => ?_⟩
                simp at hb
                subst hb
                obtain ⟨q, hq, rfl⟩ := List.mem_map.1 ha
                exact findW_none hfw q hq
            unfold TabM.acqNew
            split <;> exact hs
theorem held_right {T : TabM} {c r t : Int} (he : T.heldE c r t = 0) : rightE c r = 0 := by
  unfold TabM.heldE at he
  split at he
  · exact he
  · omega
theorem RInv.subH {now : Int} {hs hs' : List HoldM} {ws : List WantM} (h : RInv now hs ws) (hs_ : hs'.Sublist hs) : RInv now hs' ws :=
  ⟨fun x hx hm => Nat.le_trans hs_.length_le (h.ex x (hs_.subset hx) hm), fun x hx => h.un x (hs_.subset hx), fun q hq x hx => h.ap q hq x (hs_.subset hx), h.nd⟩
theorem RInv.subW {now : Int} {hs : List HoldM} {ws ws' : List WantM} (h : RInv now hs ws) (hs_ : ws'.Sublist ws) : RInv now hs ws' :=
  ⟨h.ex, h.un, fun q hq x hx => h.ap q (hs_.subset hq) x hx, h.nd.sublist (hs_.map _)⟩
theorem AInv.release {T : TabM} (h : AInv T) (c r t : Int) : AInv (T.release c r t).1 := by
  unfold TabM.release
  split
  · exact h
  · rename_i he
    have hr := rightE_ok (held_right (by omega : T.heldE c r t = 0))
    have hi : r.toNat < 4 := by omega
    exact (h.setH ((h.r r.toNat hi).subH List.eraseP_sublist)).give hi
theorem renewH_mem {c u : Int} : ∀ {hs : List HoldM} {x : HoldM}, x ∈ renewH hs c u → ∃ y ∈ hs, x.c = y.c ∧ x.m = y.m ∧ x.t = y.t ∧ (x.u = y.u ∨ x.u = u)
  | [], x, h => by simp [renewH] at h
  | y :: r, x, h => by
    unfold renewH at h
    split at h
    · rcases List.mem_cons.1 h with rfl | h
      · exact ⟨y, by simp, rfl, rfl, rfl, .inr rfl⟩
      · exact ⟨x, by simp [h], rfl, rfl, rfl, .inl rfl⟩
    · rcases List.mem_cons.1 h with rfl | h
      · exact ⟨x, by simp, rfl, rfl, rfl, .inl rfl⟩
      · obtain ⟨z, hz, h2⟩ := renewH_mem h
        exact ⟨z, by simp [hz], h2⟩
theorem AInv.renew {T : TabM} (h : AInv T) (c r t : Int) : AInv (T.renew c r t).1 := by
  unfold TabM.renew
  split
  · exact h
  · rename_i he
    have hr := rightE_ok (held_right (by omega : T.heldE c r t = 0))
    have hi : r.toNat < 4 := by omega
    have h0 := h.r r.toNat hi
    refine h.setH ⟨fun x hx hm => ?_, fun x hx => ?_, fun q hq x hx => ?_, h0.nd⟩
    · obtain ⟨y, hy, e1, e2, e3, e4⟩ := renewH_mem hx
      rw [renewH_length]
      exact h0.ex y hy (by rw [← e2]; exact hm)
    · obtain ⟨y, hy, e1, e2, e3, e4⟩ := renewH_mem hx
      rcases e4 with e4 | e4
      · rw [e4]; exact h0.un y hy
      · rw [e4]; exact until_gt h.now
    · obtain ⟨y, hy, e1, e2, e3, e4⟩ := renewH_mem hx
      rw [e1]
      exact h0.ap q hq y hy
theorem AInv.cancel {T : TabM} (h : AInv T) (c r : Int) : AInv (T.cancel c r).1 := by
  unfold TabM.cancel
  split
  · exact h
  · rename_i he
    have hr := rightE_ok (by omega : rightE c r = 0)
    have hi : r.toNat < 4 := by omega
    split
    · exact (h.setW ((h.r r.toNat hi).subW List.eraseP_sublist)).give hi
    · exact h
theorem AInv.time {T : TabM} (h : AInv T) {now : Int} (h1 : now < 18446744073709551615) : AInv (T.time now) := by
  unfold TabM.time
  split
  · exact h
  · have : AInv (TabM.mk now T.last (fun i => ⟨(T.r i).h.filter (fun h => !decide (h.u ≤ now)), (T.r i).w⟩)) := by
      refine ⟨h1, fun j hj => ?_⟩
      have h0 := h.r j hj
      have hsub : ((T.r j).h.filter (fun h => !decide (h.u ≤ now))).Sublist (T.r j).h := List.filter_sublist
      refine ⟨fun x hx hm => Nat.le_trans hsub.length_le (h0.ex x (hsub.subset hx) hm), fun x hx => ?_, fun q hq x hx => h0.ap q hq x (hsub.subset hx), h0.nd⟩
      have := (List.mem_filter.1 hx).2
      simp at this
      exact this
    exact (((this.give (by omega)).give (by omega)).give (by omega)).give (by omega)
theorem AInv.done {T : TabM} (h : AInv T) (o : OpL) (hn : o.d = 5 → o.n < 18446744073709551615) : AInv (doneM T o) := by
  unfold doneM
  split
  · exact h.acquire _ _ _
  · split
    · exact h.release _ _ _
    · split
      · exact h.renew _ _ _
      · split
        · exact h.cancel _ _
        · split
          · rename_i h5
            exact h.time (hn h5)
          · exact h
end Go.Proofs.Ytbgknfdaaffeaaa
