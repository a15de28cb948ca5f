/- Cache: what stays whatever is done (plain). -/
import Derived.Test.YtbgknfdaaffeaaaCaKe
namespace Go.Proofs.Ytbgknfdaaffeaaa
open Go.RowKit

structure OpC where
  d : Int
  r : Int
  i : Int
  n : Int
  b : List Int
def OpR (w : World) (cs : List Value) (o : OpC) : Prop := ∃ v, cs = [.int .i64 o.d, .int .i64 o.r, .int .i64 o.i, .int .i64 o.n, v] ∧ Ints w .u8 v o.b
def OpC.put (o : OpC) : PU := ⟨o.r, o.i, o.b⟩

theorem keyIs_iff (r i : Int) (x : PU) : keyIs r i x = true ↔ keyOf x = (r, i) := by
  unfold keyIs keyOf
  rw [Bool.and_eq_true, beq_iff_eq, beq_iff_eq, Prod.mk.injEq]
theorem any_key (ws : List PU) (r i : Int) : ws.any (keyIs r i) = true ↔ ∃ y ∈ ws, keyOf y = (r, i) := by
  rw [List.any_eq_true]
  exact ⟨fun ⟨y, h, k⟩ => ⟨y, h, (keyIs_iff r i y).1 k⟩, fun ⟨y, h, k⟩ => ⟨y, h, (keyIs_iff r i y).2 k⟩⟩
theorem split_at {α : Type} {l : List α} {k : Nat} {x : α} (h : l[k]? = some x) : l = l.take k ++ x :: l.drop (k + 1) := by
  obtain ⟨hk, rfl⟩ := List.getElem?_eq_some_iff.1 h
  rw [← List.drop_eq_getElem_cons hk, List.take_append_drop]
theorem keep_sub {σ : Type} (f : σ → PU → Bool × σ) (l : List PU) : ∀ s, (keepS f s l).Sublist l := by
  induction l with
  | nil => exact fun _ => List.Sublist.refl _
  | cons x r ih =>
    intro s
    unfold keepS
    split
    · exact (ih _).cons _
    · exact (ih _).cons_cons _
theorem mem_erase {bl : List PU} {k : Nat} {p y : PU} (h : y ∈ bl.eraseIdx k ++ [p]) : y ∈ bl ∨ y = p := by
  rcases List.mem_append.1 h with h | h
  · exact .inl (List.mem_of_mem_eraseIdx h)
  · exact .inr (by simpa using h)
theorem mem_keep {bl : List PU} {k : Nat} {x p y : PU} (hx : bl[k]? = some x) (h : y ∈ bl) (hk : keyOf y ≠ keyOf x) : y ∈ bl.eraseIdx k ++ [p] := by
  rw [split_at hx] at h
  rw [List.eraseIdx_eq_take_drop_succ]
  rcases List.mem_append.1 h with h | h
  · simp [h]
  · rcases List.mem_cons.1 h with rfl | h
    · exact absurd rfl hk
    · simp [h]
theorem erase_len {bl : List PU} {k : Nat} {x : PU} (hx : bl[k]? = some x) (p : PU) : (bl.eraseIdx k ++ [p]).length = bl.length := by
  have := (List.getElem?_eq_some_iff.1 hx).1
  rw [List.length_append, List.length_eraseIdx, if_pos this]
  simp
  omega
theorem erase_keys {bl : List PU} {k : Nat} {x : PU} (_hx : bl[k]? = some x) (p : PU) : (bl.eraseIdx k ++ [p]).map keyOf = (bl.take k).map keyOf ++ (bl.drop (k + 1)).map keyOf ++ [keyOf p] := by
  rw [List.eraseIdx_eq_take_drop_succ, List.map_append, List.map_append]
  rfl

structure InvC (n : Nat) (bl ws : List PU) : Prop where
  len : bl.length ≤ 6
  nd : (bl.map keyOf).Nodup
  wl : ws.length ≤ n
  wd : ∀ x ∈ ws, x.data.length ≤ 23
  bd : ∀ x ∈ bl, x.data.length ≤ 140737488355328
  on : ∀ x ∈ ws, ∃ y ∈ bl, keyOf y = keyOf x
theorem InvC.init : InvC 0 [] [] := ⟨by simp, by simp, by simp, fun _ h => by simp at h, fun _ h => by simp at h, fun _ h => by simp at h⟩
section
variable {n m : Nat} {bl ws ws' : List PU} {k : Nat} {x p : PU}
theorem InvC.wl' (h : InvC n bl ws) (hn : n ≤ 100) : ws.length ≤ 1000000 := by have := h.wl; omega
theorem InvC.bl' (h : InvC n bl ws) : bl.length ≤ 1000000 := by have := h.len; omega
theorem InvC.wd' (h : InvC n bl ws) : ∀ x ∈ ws, x.data.length ≤ 1000000 := fun x hx => by have := h.wd x hx; omega
theorem InvC.le (h : InvC n bl ws) (hm : n ≤ m) : InvC m bl ws := ⟨h.len, h.nd, by have := h.wl; omega, h.wd, h.bd, h.on⟩
theorem InvC.less (h : InvC n bl ws) (hs : ws'.Sublist ws) : InvC n bl ws' :=
  ⟨h.len, h.nd, by have := h.wl; have := hs.length_le; omega, fun x hx => h.wd x (hs.subset hx), h.bd, fun x hx => h.on x (hs.subset hx)⟩
theorem InvC.over (h : InvC n bl ws) (hx : bl[k]? = some x) (hk : keyOf x = keyOf p) (hp : p.data.length ≤ 140737488355328) : InvC n (bl.eraseIdx k ++ [p]) ws := by
  refine ⟨by rw [erase_len hx]; exact h.len, ?_, h.wl, h.wd, fun y hy => (mem_erase hy).elim (h.bd y) (fun e => e ▸ hp), fun y hy => ?_⟩
  · rw [erase_keys hx]
    have h1 := h.nd
    rw [split_at hx, List.map_append, List.map_cons, hk] at h1
    refine (List.Perm.nodup_iff ?_).1 h1
    rw [List.append_assoc]
    exact (List.perm_append_singleton _ _).symm.append_left _
  · obtain ⟨z, hz, e⟩ := h.on y hy
    by_cases hzx : keyOf z = keyOf x
    · exact ⟨p, by simp, by rw [← hk, ← hzx, e]⟩
    · exact ⟨z, mem_keep hx hz hzx, e⟩
theorem InvC.evict (h : InvC n bl ws) (hx : bl[k]? = some x) (hc : ∀ y ∈ ws, keyOf y ≠ keyOf x) (hk : ∀ y ∈ bl, keyOf y ≠ keyOf p) (hp : p.data.length ≤ 140737488355328) : InvC n (bl.eraseIdx k ++ [p]) ws := by
  refine ⟨by rw [erase_len hx]; exact h.len, ?_, h.wl, h.wd, fun y hy => (mem_erase hy).elim (h.bd y) (fun e => e ▸ hp), fun y hy => ?_⟩
  · rw [List.map_append, List.nodup_append]
    refine ⟨h.nd.sublist ((List.eraseIdx_sublist bl k).map keyOf), by simp, fun a ha b hb e => ?_⟩
    obtain ⟨y, hy, rfl⟩ := List.mem_map.1 ha
    obtain rfl : b = keyOf p := by simpa using hb
    exact hk y (List.mem_of_mem_eraseIdx hy) e
  · obtain ⟨z, hz, e⟩ := h.on y hy
    exact ⟨z, mem_keep hx hz (fun e2 => hc y hy (e.symm.trans e2)), e⟩
theorem InvC.more (h : InvC n bl ws) (hl : bl.length < 6) (hk : ∀ y ∈ bl, keyOf y ≠ keyOf p) (hp : p.data.length ≤ 140737488355328) : InvC n (bl ++ [p]) ws := by
  refine ⟨by simp; omega, ?_, h.wl, h.wd, fun y hy => ?_, fun y hy => ?_⟩
  · rw [List.map_append, List.nodup_append]
    refine ⟨h.nd, by simp, fun a ha b hb e => ?_⟩
    obtain ⟨y, hy, rfl⟩ := List.mem_map.1 ha
    obtain rfl : b = keyOf p := by simpa using hb
    exact hk y hy e
  · rcases List.mem_append.1 hy with hy | hy
    · exact h.bd y hy
    · obtain rfl : y = p := by simpa using hy
      exact hp
  · obtain ⟨z, hz, e⟩ := h.on y hy
    exact ⟨z, List.mem_append_left _ hz, e⟩
end
/-- what lay does -/
theorem lay_cases (bl ws : List PU) (p : PU) :
    (layE bl ws p.region p.index = 0 ∧ ∃ k x, bl[k]? = some x ∧ keyOf x = keyOf p ∧ layB bl ws p = bl.eraseIdx k ++ [p]) ∨
    ((∀ y ∈ bl, keyOf y ≠ keyOf p) ∧
      ((layE bl ws p.region p.index = 0 ∧ bl.length < 6 ∧ layB bl ws p = bl ++ [p]) ∨
       (layE bl ws p.region p.index = 0 ∧ 6 ≤ bl.length ∧ ∃ k x, bl[k]? = some x ∧ (∀ y ∈ ws, keyOf y ≠ keyOf x) ∧ layB bl ws p = bl.eraseIdx k ++ [p]) ∨
       (layE bl ws p.region p.index = 42 ∧ 6 ≤ bl.length ∧ layB bl ws p = bl))) := by
  rcases idxP_spec (keyIs p.region p.index) bl 0 with ⟨h1, h2⟩ | ⟨k, x, h1, h2, h3⟩
  · right
    refine ⟨fun y hy e => ?_, ?_⟩
    · have := (any_key bl p.region p.index).2 ⟨y, hy, e⟩
      rw [h2] at this
      cases this
    · unfold layE layB
      rw [h1]
      simp only [if_neg (show ¬ (0 : Int) ≤ -1 by omega)]
      by_cases h6 : 6 ≤ bl.length
      · right
        simp only [if_pos h6]
        rcases idxP_spec (cleanP ws) bl 0 with ⟨g1, g2⟩ | ⟨k, x, g1, g2, g3⟩
        · right
          simp only [g1, if_pos (show (-1 : Int) < 0 by omega)]
          exact ⟨trivial, h6, trivial⟩
        · left
          rw [Nat.zero_add] at g1
          simp only [g1, if_neg (show ¬ (k : Int) < 0 by omega), Int.toNat_natCast]
          refine ⟨trivial, h6, k, x, g2, fun y hy e => ?_, rfl⟩
          unfold cleanP at g3
          rw [Bool.not_eq_true', ← Bool.not_eq_true] at g3
          exact g3 ((any_key ws x.region x.index).2 ⟨y, hy, e⟩)
      · left
        simp only [if_neg h6]
        exact ⟨trivial, by omega, trivial⟩
  · left
    rw [Nat.zero_add] at h1
    unfold layE layB
    rw [h1]
    simp only [if_pos (show (0 : Int) ≤ (k : Int) by omega), Int.toNat_natCast]
    exact ⟨trivial, k, x, h2, (keyIs_iff _ _ x).1 h3, rfl⟩
section
variable {n : Nat} {bl ws : List PU} {p : PU} {r i : Int}
theorem InvC.lay (h : InvC n bl ws) (hp : p.data.length ≤ 140737488355328) : InvC n (layB bl ws p) ws := by
  rcases lay_cases bl ws p with ⟨_, k, x, h1, h2, h3⟩ | ⟨h0, ⟨_, h1, h2⟩ | ⟨_, _, k, x, h1, h2, h3⟩ | ⟨_, _, h1⟩⟩
  · rw [h3]; exact h.over h1 h2 hp
  · rw [h2]; exact h.more h1 h0 hp
  · rw [h3]; exact h.evict h1 h2 h0 hp
  · rw [h1]; exact h
theorem lay_on (he : layE bl ws p.region p.index = 0) : p ∈ layB bl ws p := by
  rcases lay_cases bl ws p with ⟨_, k, x, h1, h2, h3⟩ | ⟨h0, ⟨_, h1, h2⟩ | ⟨_, _, k, x, h1, h2, h3⟩ | ⟨e, _, h1⟩⟩
  · rw [h3]; simp
  · rw [h2]; simp
  · rw [h3]; simp
  · rw [e] at he; cases he
theorem InvC.fill (h : InvC n bl ws) (hp : p.data.length ≤ 140737488355328) : InvC n (fillB bl ws p) ws := by
  unfold fillB
  split
  · exact h
  · exact h.lay hp
theorem InvC.read (h : InvC n bl ws) : InvC n (readB bl r i) ws := by
  rcases idxP_spec (keyIs r i) bl 0 with ⟨h1, h2⟩ | ⟨k, x, h1, h2, h3⟩
  · unfold readB
    rw [h1, if_neg (by omega)]
    exact h
  · rw [Nat.zero_add] at h1
    unfold readB
    rw [h1, if_pos (by omega), Int.toNat_natCast, h2]
    exact h.over h2 rfl (h.bd x (List.mem_of_getElem? h2))
theorem wrE_zero (he : wrE bl ws p = 0) : wrX ws p.region p.data = 0 ∧ layE bl ws p.region p.index = 0 ∧ p.data.length ≤ 23 := by
  unfold wrE at he
  split at he
  · rename_i h
    refine ⟨h, he, ?_⟩
    unfold wrX at h
    split at h
    · cases h
    · omega
  · rename_i h
    exact absurd he h
theorem wrW_sub (h : wrE bl ws p ≠ 0) : wrW bl ws p = ws := if_neg h
theorem InvC.write (h : InvC n bl ws) : InvC (n + 1) (wrB bl ws p) (wrW bl ws p) := by
  by_cases hX : wrX ws p.region p.data = 0
  · have hd : p.data.length ≤ 23 := by
      unfold wrX at hX
      split at hX
      · cases hX
      · omega
    have h1 : InvC n (wrB bl ws p) ws := by
      unfold wrB
      rw [if_pos hX]
      exact h.lay (by omega)
    by_cases he : wrE bl ws p = 0
    · have hl := (wrE_zero he).2.1
      unfold wrW
      rw [if_pos he]
      refine ⟨h1.len, h1.nd, by have := h1.wl; simp; omega, fun y hy => ?_, h1.bd, fun y hy => ?_⟩
      · rcases List.mem_append.1 hy with hy | hy
        · exact h1.wd y hy
        · obtain rfl : y = p := by simpa using hy
          exact hd
      · rcases List.mem_append.1 hy with hy | hy
        · exact h1.on y hy
        · obtain rfl : y = p := by simpa using hy
          refine ⟨y, ?_, rfl⟩
          unfold wrB
          rw [if_pos hX]
          exact lay_on hl
    · rw [wrW_sub he]
      exact h1.le (by omega)
  · have he : wrE bl ws p ≠ 0 := by
      unfold wrE
      rw [if_neg hX]
      exact hX
    rw [wrW_sub he]
    unfold wrB
    rw [if_neg hX]
    exact h.le (by omega)
theorem flW_sub (ws : List PU) (r m : Int) : (flW ws r m).Sublist ws := by
  unfold flW
  split
  · exact List.Sublist.refl _
  · exact keep_sub _ _ _
theorem InvC.flush (h : InvC n bl ws) (m : Int) : InvC n bl (flW ws r m) := h.less (flW_sub ws r m)
theorem InvC.drop (h : InvC n bl ws) : InvC n (bl.filter (fun x => !inReg r x)) (ws.filter (fun x => !inReg r x)) := by
  have h1 := h.less (List.filter_sublist (p := fun x => !inReg r x) (l := ws))
  refine ⟨Nat.le_trans (List.length_filter_le _ _) h.len, h.nd.sublist (List.filter_sublist.map keyOf), h1.wl, h1.wd, fun x hx => h.bd x (List.mem_filter.1 hx).1, fun x hx => ?_⟩
  obtain ⟨hm, hr⟩ := List.mem_filter.1 hx
  obtain ⟨y, hy, e⟩ := h.on x hm
  refine ⟨y, List.mem_filter.2 ⟨hy, ?_⟩, e⟩
  have e1 : y.region = x.region := congrArg Prod.fst e
  simpa [inReg, e1] using hr
end
end Go.Proofs.Ytbgknfdaaffeaaa
