/- Cache: the document's, against the program's (plain). -/
import Derived.Test.YtbgknfdaaffeaaaCaRf
namespace Go.Proofs.Ytbgknfdaaffeaaa
open Go.RowKit Go.Shelf

theorem keyIs_self (x : PU) : keyIs x.region x.index x = true := (keyIs_iff _ _ _).2 rfl
/-- where each key is there once: all but the one that stands there -/
theorem erase_filter {bl : List PU} {k : Nat} {x : PU} {r i : Int} (hn : (bl.map keyOf).Nodup) (hx : bl[k]? = some x) (hk : keyOf x = (r, i)) : bl.eraseIdx k = bl.filter (fun y => !keyIs r i y) := by
  have h1 := hn
  rw [split_at hx, List.map_append, List.map_cons] at h1
  have h2 := List.nodup_append.1 h1
  have h3 := List.nodup_cons.1 h2.2.1
  have e1 : (bl.take k).filter (fun y => !keyIs r i y) = bl.take k := List.filter_eq_self.2 (fun y hy => by
    cases hc : keyIs r i y with
    | false => rfl
    | true =>
      exact absurd (((keyIs_iff r i y).1 hc).trans hk.symm) (h2.2.2 _ (List.mem_map.2 ⟨y, hy, rfl⟩) _ (by simp)))
  have e2 : (bl.drop (k + 1)).filter (fun y => !keyIs r i y) = bl.drop (k + 1) := List.filter_eq_self.2 (fun y hy => by
    cases hc : keyIs r i y with
    | false => rfl
    | true =>
      exact absurd (List.mem_map.2 ⟨y, hy, ((keyIs_iff r i y).1 hc).trans hk.symm⟩) h3.1)
  have e3 : keyIs r i x = true := (keyIs_iff r i x).2 hk
  conv => rhs; rw [split_at hx]
  rw [List.filter_append, List.filter_cons, e1, e2, e3, List.eraseIdx_eq_take_drop_succ]
  rfl
/-- who is not there is not taken away -/
theorem filter_none {bl : List PU} {r i : Int} (h : bl.any (keyIs r i) = false) : bl.filter (fun y => !keyIs r i y) = bl := List.filter_eq_self.2 (fun y hy => by
  cases hc : keyIs r i y with
  | false => rfl
  | true =>
    have := List.any_eq_true.2 ⟨y, hy, hc⟩
    rw [h] at this
    cases this)
theorem keepS_snoc {σ : Type} (f : σ → PU → Bool × σ) (l : List PU) (x : PU) : ∀ s, keepS f s (l ++ [x]) = keepS f s l ++ (if (f (lastS f s l) x).1 = true then [] else [x]) := by
  induction l with
  | nil =>
    intro s
    show (if _ then _ else _) = _
    rfl
  | cons y r ih =>
    intro s
    show (if _ then _ else _) = (if _ then _ else _) ++ _
    by_cases h : (f s y).1 = true
    · rw [if_pos h, if_pos h]
      exact ih _
    · rw [if_neg h, if_neg h, List.cons_append]
      exact congrArg _ (ih _)
theorem gone_last (r : Int) (l : List PU) : ∀ n, lastS (goneP r) n l = n - (l.filter (inReg r)).length := by
  induction l with
  | nil => intro n; rfl
  | cons y q ih =>
    intro n
    show lastS (goneP r) (goneP r n y).2 q = _
    rw [ih]
    unfold goneP
    cases hr : (y.region == r) with
    | false =>
      have : inReg r y = false := hr
      rw [List.filter_cons, this]
      rfl
    | true =>
      have : inReg r y = true := hr
      rw [List.filter_cons, this, if_pos rfl, List.length_cons]
      by_cases hn : 0 < n
      · simp [hn]; omega
      · simp [hn]; omega
theorem gone_snoc {l : List PU} {k : Nat} {x : PU} (r : Int) (n : Nat) (hx : l[k]? = some x) : keepS (goneP r) n (l.take (k + 1)) = keepS (goneP r) n (l.take k) ++ (if (inReg r x && decide (((l.take (k + 1)).filter (inReg r)).length ≤ n)) = true then [] else [x]) := by
  have e : l.take (k + 1) = l.take k ++ [x] := by rw [List.take_add_one, hx]; rfl
  rw [e, keepS_snoc, gone_last, List.filter_append, List.length_append]
  congr 1
  unfold goneP
  cases hr : (x.region == r) with
  | false =>
    have : inReg r x = false := hr
    rw [this]
    rfl
  | true =>
    have h1 : inReg r x = true := hr
    have h2 : ([x].filter (inReg r)).length = 1 := by rw [List.filter_cons, h1]; rfl
    rw [h1, h2, Bool.true_and, Bool.true_and]
    by_cases hc : ((l.take k).filter (inReg r)).length + 1 ≤ n
    · have h3 : decide (0 < n - ((l.take k).filter (inReg r)).length) = true := decide_eq_true (by omega)
      rw [decide_eq_true hc, h3]
      rfl
    · have h3 : decide (0 < n - ((l.take k).filter (inReg r)).length) = false := decide_eq_false (by omega)
      rw [decide_eq_false hc, h3]
      rfl
end Go.Proofs.Ytbgknfdaaffeaaa
