/- What a disk is, in plain words: sectors that are seen, that are sure, writes that are pending, a fuse. No program in sight. -/
import Derived.Test.YthddgnnbgldfmaaBv
namespace Go.Proofs.Ythddgnnbgldfmaa
open Go.RowKit

structure DS where
  n : Nat
  seen : List Int
  sure : List Int
  pend : List (Nat × List Int)
  fuse : Int
  down : Bool

def wv (p : Nat × List Int) : List Value := Value.int .i64 p.1 :: bv p.2
def pv (l : List (Nat × List Int)) : List Value := l.flatMap wv
def zeros (k : Nat) : List Int := List.replicate k 0

theorem wv_one (p : Nat × List Int) : ∀ u ∈ wv p, u.oneCell' = true := by
  intro u hu
  rcases List.mem_cons.1 hu with rfl | h
  · rfl
  · exact bv_one _ u h

structure DS.ok (D : DS) : Prop where
  n1 : 1 ≤ D.n
  n2 : D.n ≤ 512
  hs : D.seen.length = D.n * 64
  hu : D.sure.length = D.n * 64
  hp : ∀ p ∈ D.pend, p.1 < D.n ∧ p.2.length = 64
  f1 : -9223372036854775808 ≤ D.fuse
  f2 : D.fuse ≤ 9223372036854775807

theorem pv_length {l : List (Nat × List Int)} (h : ∀ p ∈ l, p.2.length = 64) : (pv l).length = l.length * 65 := by
  induction l with
  | nil => rfl
  | cons p l ih =>
    have := ih (fun q hq => h q (List.mem_cons_of_mem _ hq))
    have h1 := h p (List.mem_cons_self ..)
    simp only [pv, List.flatMap_cons, List.length_append, List.length_cons] at this ⊢
    simp only [wv, List.length_cons, bv_length, h1]
    omega
theorem pv_append (l m : List (Nat × List Int)) : pv (l ++ m) = pv l ++ pv m := by simp [pv]
theorem pv_one (p : Nat × List Int) : pv [p] = wv p := by simp [pv]
/-- the cells of write number k -/
theorem pv_at {l : List (Nat × List Int)} (h : ∀ p ∈ l, p.2.length = 64) (k : Nat) (hk : k < l.length) : ((pv l).drop (k * 65)).take 65 = wv l[k] := by
  induction l generalizing k with
  | nil => simp at hk
  | cons p l ih =>
    have h1 := h p (List.mem_cons_self ..)
    have hw : (wv p).length = 65 := by simp [wv, h1]
    cases k with
    | zero =>
      simp only [pv, List.flatMap_cons, Nat.zero_mul, List.drop_zero, List.getElem_cons_zero]
      rw [List.take_append_of_le_length (by omega), List.take_of_length_le (by omega)]
    | succ k =>
      have := ih (fun q hq => h q (List.mem_cons_of_mem _ hq)) k (by simpa using hk)
      simp only [pv, List.flatMap_cons, List.getElem_cons_succ] at this ⊢
      rw [show (k + 1) * 65 = (wv p).length + k * 65 by omega, List.drop_append, List.drop_eq_nil_of_le (by omega)]
      simpa using this

/-- one thing more: is it done? -/
def DS.goes (D : DS) : Bool := !(D.down || D.fuse == 0)
def DS.after (D : DS) : DS := { D with down := D.down || D.fuse == 0, fuse := if 0 < D.fuse then D.fuse - 1 else D.fuse }

def full (b : List Int) : List Int := b ++ zeros (64 - b.length)
theorem full_length {b : List Int} (h : b.length ≤ 64) : (full b).length = 64 := by simp [full, zeros]; omega

def DS.put (D : DS) (i : Nat) (b : List Int) : DS := { D with seen := splice D.seen (i * 64) (full b), pend := D.pend ++ [(i, full b)] }

def DS.writeE (D : DS) (i : Int) (b : List Int) : Int :=
  if i < 0 ∨ (D.n : Int) ≤ i then 40 else if 64 < b.length then 2 else if D.goes then 0 else 43
def DS.write (D : DS) (i : Int) (b : List Int) : DS :=
  if i < 0 ∨ (D.n : Int) ≤ i then D else if 64 < b.length then D else if D.goes then D.after.put i.toNat b else D.after

def DS.at_ (D : DS) (i : Nat) : List Int := (D.seen.drop (i * 64)).take 64
def DS.readE (D : DS) (i : Int) : Int := if i < 0 ∨ (D.n : Int) ≤ i then 40 else 0
def DS.read (D : DS) (i : Int) : List Int := if i < 0 ∨ (D.n : Int) ≤ i then [] else D.at_ i.toNat

/-- all that is pending, on top of sectors -/
def onto (s : List Int) : List (Nat × List Int) → List Int
  | [] => s
  | p :: r => onto (splice s (p.1 * 64) p.2) r
def DS.sync (D : DS) : DS := if D.goes then { D.after with sure := onto D.sure D.pend, pend := [] } else D.after

/-- how many bytes of write number k are kept -/
def keeps (picks : List Int) (k : Nat) : Nat := if k < picks.length then (max 0 (min (picks.getD k 0) 64)).toNat else 0
theorem keeps_le (picks : List Int) (k : Nat) : keeps picks k ≤ 64 := by unfold keeps; split <;> omega
def tear (picks : List Int) (s : List Int) : Nat → List (Nat × List Int) → List Int
  | _, [] => s
  | k, p :: r => tear picks (splice s (p.1 * 64) (p.2.take (keeps picks k))) (k + 1) r
def DS.crash (D : DS) (picks : List Int) : DS :=
  { n := D.n, seen := tear picks D.sure 0 D.pend, sure := tear picks D.sure 0 D.pend, pend := [], fuse := -1, down := false }

theorem onto_length (l : List (Nat × List Int)) : ∀ (s : List Int) (n : Nat), s.length = n * 64 → (∀ p ∈ l, p.1 < n ∧ p.2.length = 64) → (onto s l).length = n * 64 := by
  induction l with
  | nil => intro s n h _; exact h
  | cons p r ih =>
    intro s n h hp
    have h1 := hp p (List.mem_cons_self ..)
    exact ih _ n (by rw [splice_length _ _ _ (by omega)]; exact h) (fun q hq => hp q (List.mem_cons_of_mem _ hq))
theorem tear_length (picks : List Int) (l : List (Nat × List Int)) : ∀ (s : List Int) (k n : Nat), s.length = n * 64 → (∀ p ∈ l, p.1 < n ∧ p.2.length = 64) → (tear picks s k l).length = n * 64 := by
  induction l with
  | nil => intro s k n h _; exact h
  | cons p r ih =>
    intro s k n h hp
    have h1 := hp p (List.mem_cons_self ..)
    exact ih _ _ n (by rw [splice_length _ _ _ (by simp only [List.length_take]; omega)]; exact h) (fun q hq => hp q (List.mem_cons_of_mem _ hq))
theorem onto_append (s : List Int) (l m : List (Nat × List Int)) : onto s (l ++ m) = onto (onto s l) m := by
  induction l generalizing s with
  | nil => rfl
  | cons p r ih => exact ih _
theorem tear_append (picks s : List Int) (k : Nat) (l m : List (Nat × List Int)) : tear picks s k (l ++ m) = tear picks (tear picks s k l) (k + l.length) m := by
  induction l generalizing s k with
  | nil => rfl
  | cons p r ih =>
    simp only [List.cons_append, tear, List.length_cons]
    rw [ih, show k + 1 + r.length = k + (r.length + 1) by omega]

theorem DS.ok.after {D : DS} (h : D.ok) : D.after.ok := by
  have f1 := h.f1
  have f2 := h.f2
  exact ⟨h.n1, h.n2, h.hs, h.hu, h.hp, by unfold DS.after; simp only; split <;> omega, by unfold DS.after; simp only; split <;> omega⟩
theorem DS.ok.put {D : DS} (h : D.ok) (i : Nat) (b : List Int) (hi : i < D.n) (hb : b.length ≤ 64) : (D.put i b).ok := by
  have hf := full_length hb
  have hs := h.hs
  refine ⟨h.n1, h.n2, ?_, h.hu, ?_, h.f1, h.f2⟩
  · show (splice D.seen (i * 64) (full b)).length = D.n * 64
    rw [splice_length _ _ _ (by omega), hs]
  · intro p hp
    rcases List.mem_append.1 hp with hp | hp
    · exact h.hp p hp
    · obtain rfl := List.mem_singleton.1 hp
      exact ⟨hi, hf⟩
theorem DS.ok.write {D : DS} (h : D.ok) (i : Int) (b : List Int) : (D.write i b).ok := by
  unfold DS.write
  split; · exact h
  split; · exact h
  split
  · exact h.after.put _ _ (by show _ < D.n; omega) (by omega)
  · exact h.after
theorem DS.ok.sync {D : DS} (h : D.ok) : D.sync.ok := by
  unfold DS.sync
  split
  · have h' := h.after
    exact ⟨h.n1, h.n2, h.hs, onto_length _ _ _ h.hu h.hp, fun p hp => (List.not_mem_nil hp).elim, h'.f1, h'.f2⟩
  · exact h.after
theorem DS.ok.crash {D : DS} (h : D.ok) (picks : List Int) : (D.crash picks).ok :=
  ⟨h.n1, h.n2, tear_length _ _ _ _ _ h.hu h.hp, tear_length _ _ _ _ _ h.hu h.hp, fun p hp => (List.not_mem_nil hp).elim, by show (-9223372036854775808 : Int) ≤ -1; omega, by show (-1 : Int) ≤ _; omega⟩

def DS.new (n : Nat) : DS := ⟨n, zeros (n * 64), zeros (n * 64), [], -1, false⟩
theorem DS.new_ok {n : Nat} (h1 : 1 ≤ n) (h2 : n ≤ 512) : (DS.new n).ok :=
  ⟨h1, h2, by simp [DS.new, zeros], by simp [DS.new, zeros], fun p hp => (List.not_mem_nil hp).elim, by show (-9223372036854775808 : Int) ≤ -1; omega, by show (-1 : Int) ≤ _; omega⟩

end Go.Proofs.Ythddgnnbgldfmaa
