/- Sorting sections by their tokens, plainly: merging, insertion, blocks. -/
import Derived.Test.YtbgknfdaaffeaaaLkF
namespace Go.Proofs.Ytbgknfdaaffeaaa

structure SlS where
  a : Option Addr
  n : Nat
  c : Nat
structure SecV where
  t : Int
  p : SlS
  s : Int
  k : SlS
def SortedT (l : List SecV) : Prop := l.Pairwise (fun x y => x.t ≤ y.t)
def cmpI (a b : Int) : Int := if a < b then -1 else if a > b then 1 else 0
theorem cmpI_lt (a b : Int) : decide (cmpI a b < 0) = decide (a < b) := by
  unfold cmpI
  split
  · rename_i h; simp [h]
  · rename_i h
    split <;> simp [h]

/-! ### two that stand side by side change places -/
theorem swap_adj {α : Type} (P Q : List α) (u x : α) : ((P ++ u :: x :: Q).set (P.length + 1) u).set P.length x = P ++ x :: u :: Q := by simp
theorem swap_adj' {α : Type} (P Q : List α) (u x : α) : ((P ++ u :: x :: Q).set P.length x).set (P.length + 1) u = P ++ x :: u :: Q := by simp
theorem swap_far {α : Type} (P M Q : List α) (x y : α) : ((P ++ x :: (M ++ y :: Q)).set P.length y).set (P.length + 1 + M.length) x = P ++ y :: (M ++ x :: Q) := by
  rw [List.set_append_right _ _ (Nat.le_refl _), Nat.sub_self, List.set_cons_zero, List.set_append_right _ _ (by omega), show P.length + 1 + M.length - P.length = M.length + 1 by omega, List.set_cons_succ, List.set_append_right _ _ (Nat.le_refl _), Nat.sub_self, List.set_cons_zero]
theorem at_mid {α : Type} (P Q : List α) (x : α) : (P ++ x :: Q)[P.length]? = some x := by simp
theorem at_mid' {α : Type} (P Q : List α) (u x : α) : (P ++ u :: x :: Q)[P.length + 1]? = some x := by simp

/-! ### sorted lists -/
theorem SortedT.nil : SortedT [] := List.Pairwise.nil
theorem SortedT.one (x : SecV) : SortedT [x] := List.pairwise_singleton _ _
theorem sortedT_app {a b : List SecV} : SortedT (a ++ b) ↔ SortedT a ∧ SortedT b ∧ ∀ x ∈ a, ∀ y ∈ b, x.t ≤ y.t := List.pairwise_append
theorem SortedT.last {a b : List SecV} {x : SecV} (h : SortedT (a ++ x :: b)) : (∀ y ∈ a, y.t ≤ x.t) ∧ ∀ y ∈ b, x.t ≤ y.t := by
  obtain ⟨_, h2, h3⟩ := sortedT_app.1 h
  exact ⟨fun y hy => h3 y hy x (by simp), fun y hy => (List.pairwise_cons.1 h2).1 y hy⟩
/-- an element between those that are not above it, and those that are not below it -/
theorem SortedT.put {a b : List SecV} {x : SecV} (h : SortedT (a ++ b)) (h1 : ∀ y ∈ a, y.t ≤ x.t) (h2 : ∀ y ∈ b, x.t ≤ y.t) : SortedT (a ++ x :: b) := by
  obtain ⟨ha, hb, hab⟩ := sortedT_app.1 h
  refine sortedT_app.2 ⟨ha, List.pairwise_cons.2 ⟨h2, hb⟩, fun y hy z hz => ?_⟩
  rcases List.mem_cons.1 hz with rfl | hz
  · exact h1 y hy
  · exact hab y hy z hz
theorem SortedT.last_le {a : List SecV} {x : SecV} {v : Int} (h : SortedT (a ++ [x])) (hx : x.t ≤ v) : ∀ y ∈ a ++ [x], y.t ≤ v := by
  intro y hy
  rcases List.mem_append.1 hy with hy | hy
  · exact Int.le_trans (h.last.1 y hy) hx
  · rw [List.mem_singleton] at hy
    subst hy
    exact hx
theorem SortedT.head_ge {a : List SecV} {x : SecV} {v : Int} (h : SortedT (x :: a)) (hx : v ≤ x.t) : ∀ y ∈ x :: a, v ≤ y.t := by
  intro y hy
  rcases List.mem_cons.1 hy with rfl | hy
  · exact hx
  · exact Int.le_trans hx ((List.pairwise_cons.1 h).1 y hy)
theorem list_last {α : Type} (l : List α) : l = [] ∨ ∃ a x, l = a ++ [x] := by
  rcases List.eq_nil_or_concat l with h | ⟨a, x, h⟩
  · exact .inl h
  · exact .inr ⟨a, x, by simpa using h⟩
/-- what a symmetric merge does: its two halves, each merged -/
theorem symMerge_ok {L1 L2 R1 R2 S1 S2 : List SecV} (hL : SortedT (L1 ++ L2)) (hR : SortedT (R1 ++ R2))
    (h1 : L1 = [] ∨ R2 = [] ∨ ∃ a x y b, L1 = a ++ [x] ∧ R2 = y :: b ∧ x.t ≤ y.t) (h2 : R1 = [] ∨ L2 = [] ∨ ∃ a x y b, R1 = a ++ [x] ∧ L2 = y :: b ∧ x.t ≤ y.t)
    (p1 : S1.Perm (L1 ++ R1)) (p2 : S2.Perm (L2 ++ R2)) (s1 : SortedT S1) (s2 : SortedT S2) : SortedT (S1 ++ S2) ∧ (S1 ++ S2).Perm ((L1 ++ L2) ++ (R1 ++ R2)) := by
  obtain ⟨l1, l2, l3⟩ := sortedT_app.1 hL
  obtain ⟨r1, r2, r3⟩ := sortedT_app.1 hR
  have a1 : ∀ x ∈ L1, ∀ y ∈ R2, x.t ≤ y.t := by
    rcases h1 with rfl | rfl | ⟨a, x, y, b, rfl, rfl, hxy⟩
    · intro x hx; exact absurd hx List.not_mem_nil
    · intro x _ y hy; exact absurd hy List.not_mem_nil
    · intro u hu v hv
      exact Int.le_trans (l1.last_le (Int.le_refl _) u hu) (Int.le_trans hxy (r2.head_ge (Int.le_refl _) v hv))
  have a2 : ∀ x ∈ R1, ∀ y ∈ L2, x.t ≤ y.t := by
    rcases h2 with rfl | rfl | ⟨a, x, y, b, rfl, rfl, hxy⟩
    · intro x hx; exact absurd hx List.not_mem_nil
    · intro x _ y hy; exact absurd hy List.not_mem_nil
    · intro u hu v hv
      exact Int.le_trans (r1.last_le (Int.le_refl _) u hu) (Int.le_trans hxy (l2.head_ge (Int.le_refl _) v hv))
  refine ⟨sortedT_app.2 ⟨s1, s2, fun x hx y hy => ?_⟩, ?_⟩
  · rcases List.mem_append.1 (p1.mem_iff.1 hx) with hx | hx <;> rcases List.mem_append.1 (p2.mem_iff.1 hy) with hy | hy
    · exact l3 x hx y hy
    · exact a1 x hx y hy
    · exact a2 x hx y hy
    · exact r3 x hx y hy
  · refine (p1.append p2).trans ?_
    rw [List.append_assoc, List.append_assoc]
    refine List.Perm.append_left _ ?_
    rw [← List.append_assoc, ← List.append_assoc]
    exact List.Perm.append_right _ List.perm_append_comm
/-! ### blocks -/
/-- each block of so many is sorted (the last one may be shorter) -/
def Ch (b : Nat) (l : List SecV) : Prop := ∀ k : Nat, SortedT ((l.drop (k * b)).take b)
theorem SortedT.sub {a b : List SecV} (h : SortedT b) (hs : a.Sublist b) : SortedT a := List.Pairwise.sublist hs h
theorem Ch.nil (b : Nat) : Ch b [] := fun k => by simp [SortedT]
theorem Ch.head {b : Nat} {l : List SecV} (h : Ch b l) : SortedT (l.take b) := by have := h 0; simpa using this
theorem Ch.drop {b : Nat} {l : List SecV} (h : Ch b l) (j : Nat) : Ch b (l.drop (j * b)) := fun k => by
  rw [List.drop_drop, ← Nat.add_mul]
  exact h _
theorem Ch.snoc {b K : Nat} {l s : List SecV} (h : Ch b l) (hl : l.length = K * b) (hs : SortedT s) (hb : s.length ≤ b) : Ch b (l ++ s) := by
  intro k
  rcases Nat.lt_or_ge k K with hk | hk
  · have h1 : (k + 1) * b ≤ K * b := Nat.mul_le_mul_right _ hk
    rw [Nat.add_mul, Nat.one_mul] at h1
    rw [List.drop_append_of_le_length (by omega), List.take_append_of_le_length (by rw [List.length_drop]; omega)]
    exact h k
  · have h1 : K * b ≤ k * b := Nat.mul_le_mul_right _ hk
    rw [List.drop_append, List.drop_eq_nil_of_le (by omega), List.nil_append]
    exact hs.sub ((List.take_sublist _ _).trans (List.drop_sublist _ _))
theorem Ch.all {b : Nat} {l : List SecV} (h : Ch b l) (hl : l.length ≤ b) : SortedT l := by
  have := h.head
  rwa [List.take_of_length_le hl] at this
theorem Ch.wide {b : Nat} {l : List SecV} (h : SortedT l) : Ch b l := fun _ => h.sub ((List.take_sublist _ _).trans (List.drop_sublist _ _))
end Go.Proofs.Ytbgknfdaaffeaaa
