/- Slices of structs of plain cells, told by the list of cells that they hold: such that own their row, such that stay. -/
import Derived.Test.YtbgknfdaaffeaaaCaZ
import Derived.Test.YtbgknfdaaffeaaaSub
import Derived.Test.YtbgknfdaaffeaaaStFull
namespace Go.Proofs.Ytbgknfdaaffeaaa
open Go.RowKit

/-- a slice whose elements' cells C tells -/
def FlatP {α : Type} (C : α → List Value) (size : Nat) (w : World) (v : Value) (xs : List α) : Prop :=
  ∃ A c, v = .slice A xs.length c ∧ xs.length ≤ c ∧ c ≤ maxLen ∧ Sl w Any size A xs.length (xs.flatMap C)
def keepR {α : Type} (C : α → List Value) (size : Nat) (v : Value) (xs : List α) : Res := persR (fun w => FlatP C size w v xs)
def ownR {α : Type} (C : α → List Value) (e : TypeId) (size : Nat) (v : Value) (xs : List α) : Res := rowR e size v xs.length (xs.flatMap C)
section
variable {α : Type} {C : α → List Value} {size : Nat} {w : World} {xs : List α}
theorem flatC_len (hC : ∀ x, (C x).length = size) (xs : List α) : (xs.flatMap C).length = xs.length * size := by
  induction xs with
  | nil => simp
  | cons x r ih => rw [List.flatMap_cons, List.length_append, hC, ih, List.length_cons, Nat.add_mul, Nat.one_mul, Nat.add_comm]
theorem flatC_at (hC : ∀ x, (C x).length = size) : ∀ (xs : List α) (k : Nat) (x : α), xs[k]? = some x → ∀ j, j < size → (xs.flatMap C)[k * size + j]? = (C x)[j]?
  | [], k, x, h => by simp at h
  | y :: r, 0, x, h => by
    obtain rfl : y = x := by simpa using h
    intro j hj
    rw [List.flatMap_cons, Nat.zero_mul, Nat.zero_add, List.getElem?_append_left (by rw [hC]; exact hj)]
  | y :: r, k + 1, x, h => by
    intro j hj
    rw [List.flatMap_cons, List.getElem?_append_right (by rw [hC, Nat.add_mul]; omega), hC, show (k + 1) * size + j - size = k * size + j by rw [Nat.add_mul]; omega]
    exact flatC_at hC r k x (by simpa using h) j hj
theorem flatC_set (hC : ∀ x, (C x).length = size) {x y : α} {u : Value} {j : Nat} (hy : C y = (C x).set j u) (hj : j < size) : ∀ (xs : List α) (k : Nat), xs[k]? = some x → (xs.set k y).flatMap C = (xs.flatMap C).set (k * size + j) u
  | [], k, h => by simp at h
  | z :: r, 0, h => by
    obtain rfl : z = x := by simpa using h
    rw [List.set_cons_zero, List.flatMap_cons, List.flatMap_cons, Nat.zero_mul, Nat.zero_add, List.set_append_left _ _ (by rw [hC]; exact hj), hy]
  | z :: r, k + 1, h => by
    rw [List.set_cons_succ, List.flatMap_cons, List.flatMap_cons, List.set_append_right _ _ (by rw [hC, Nat.add_mul]; omega), hC, show (k + 1) * size + j - size = k * size + j by rw [Nat.add_mul]; omega]
    rw [flatC_set hC hy hj r k (by simpa using h)]
theorem flatC_snoc (xs : List α) (x : α) : (xs ++ [x]).flatMap C = xs.flatMap C ++ C x := by simp
theorem flatC_Z (xs : List α) : flatZ (xs.map fun x => (C x, x)) = xs.flatMap C := by
  induction xs with
  | nil => rfl
  | cons x r ih => rw [List.map_cons, List.flatMap_cons, ← ih]; rfl
theorem flatC_sized (hC : ∀ x, (C x).length = size) (xs : List α) : sized size (xs.map fun x => (C x, x)) := by
  intro p hp
  obtain ⟨x, _, rfl⟩ := List.mem_map.1 hp
  exact hC x
theorem flatC_one (h1 : ∀ x, ∀ u ∈ C x, u.oneCell' = true) (xs : List α) : ∀ u ∈ xs.flatMap C, u.oneCell' = true := by
  intro u hu
  obtain ⟨x, _, hu⟩ := List.mem_flatMap.1 hu
  exact h1 x u hu
theorem FlatP.none_ (w : World) : FlatP C size w (.slice none 0 0) [] := ⟨none, 0, rfl, by simp, by unfold maxLen; omega, Sl.nil_ _ _ _ _⟩
theorem FlatP.value {v : Value} (h : FlatP C size w v xs) : ∃ A c, v = .slice A xs.length c ∧ xs.length ≤ c := by
  obtain ⟨A, c, e, h1, _⟩ := h
  exact ⟨A, c, e, h1⟩
theorem FlatP.sl {A : Option Addr} {n c : Nat} (h : FlatP C size w (.slice A n c) xs) : n = xs.length ∧ n ≤ c ∧ c ≤ 9223372036854775807 ∧ Sl w Any size A n (xs.flatMap C) := by
  obtain ⟨A', c', e, h1, h2, h3⟩ := h
  injection e with e1 e2 e3
  subst e1; subst e2; subst e3
  exact ⟨rfl, h1, h2, h3⟩
theorem FlatP.at_ (hC : ∀ x, (C x).length = size) {A : Option Addr} {n c k : Nat} {x : α} (h : FlatP C size w (.slice A n c) xs) (hk : xs[k]? = some x) : ∃ ad, A = some ad ∧ ∀ j u, (C x)[j]? = some u → w.cell? ((ad.add (k * size)).add j) = some u := by
  obtain ⟨h0, _, _, hs⟩ := h.sl
  have hlt := (List.getElem?_eq_some_iff.1 hk).1
  obtain ⟨ad, e, _, _, hc⟩ := hs.2 (by omega)
  refine ⟨ad, e, fun j u hu => ?_⟩
  rw [addr_add]
  refine hc _ u ?_
  rw [flatC_at hC xs k x hk j (by rw [← hC x]; exact (List.getElem?_eq_some_iff.1 hu).1)]
  exact hu
/-- without its first one -/
theorem FlatP.tail (hC : ∀ x, (C x).length = size) (_hsz : 0 < size) {A A' : Option Addr} {n c : Nat} {x : α} {r : List α} (h : FlatP C size w (.slice A n c) (x :: r)) (hA : ∀ ad, A = some ad → c ≠ 1 → A' = some (ad.add size)) : FlatP C size w (.slice A' (n - 1) (c - 1)) r := by
  obtain ⟨h0, h1, h2, hs⟩ := h.sl
  have h0 : n = r.length + 1 := h0
  subst h0
  refine ⟨A', c - 1, by simp, by omega, by unfold maxLen; omega, flatC_len hC r, fun hp => ?_⟩
  obtain ⟨ad, e, hq, hb, hc⟩ := hs.2 (by omega)
  refine ⟨ad.add size, hA ad e (by omega), trivial, by rw [addr_block]; exact hb, fun j u hu => ?_⟩
  rw [addr_add]
  refine hc _ u ?_
  rw [List.flatMap_cons, List.getElem?_append_right (by rw [hC]; omega), hC, Nat.add_sub_cancel_left]
  exact hu
end
section
variable {α : Type} {C : α → List Value} {size : Nat} {M0 : Imm} {w : World} {L R : List Res} {e : TypeId} {v : Value} {xs : List α}
theorem St.flatO (h : St M0 w L) (hi : At (ownR C e size v xs) L R) : FlatP C size w v xs := by
  obtain ⟨m, hm⟩ := hi.idx
  obtain ⟨M, F, hx, ha⟩ := h.fact m hm
  have hx : w.ownsRow 0 e size v xs.length (xs.flatMap C) := hx.2
  rcases hx.2 with ⟨rfl, h0⟩ | ⟨g, cap, cur, rfl, _, hh, hc, hmx, _⟩
  · obtain rfl : xs = [] := List.eq_nil_of_length_eq_zero h0
    exact FlatP.none_ w
  · exact ⟨_, _, rfl, hc, hmx, (Sl.of_own hx).mono (fun _ _ _ => trivial)⟩
theorem St.flatK (h : St M0 w L) (hi : At (keepR C size v xs) L R) : FlatP C size w v xs := h.getA hi
theorem St.keepCopy (h : St M0 w L) (hi : At (keepR C size v xs) L R) : St M0 w (keepR C size v xs :: L) := h.copyA hi
theorem St.ownKeep (h : St M0 w (ownR C e size v xs :: L)) : St M0 w (keepR C size v xs :: L) := by
  refine (St.freezeR h).pers1 (fun w' hx => ?_)
  rcases hx.2 with ⟨rfl, h0⟩ | ⟨g, cap, cur, rfl, _, hh, hc, hmx, _⟩
  · obtain rfl : xs = [] := List.eq_nil_of_length_eq_zero h0
    exact FlatP.none_ w'
  · exact ⟨_, _, rfl, hc, hmx, (Sl.of_own hx).mono (fun _ _ _ => trivial)⟩
theorem St.keepNil (h : St M0 w L) (C : α → List Value) (size : Nat) : St M0 w (keepR C size (.slice none 0 0) [] :: L) := h.pers0 (fun w' _ => FlatP.none_ w')
theorem St.ownNil (h : St M0 w L) (C : α → List Value) (e : TypeId) (size : Nat) : St M0 w (ownR C e size (.slice none 0 0) [] :: L) := h.nilRow e size
theorem St.ownEmpty (h : St M0 w L) (C : α → List Value) (e : TypeId) (size : Nat) : St M0 (w.alloc (.cells #[] e)) (ownR C e size (.slice (some ⟨w.heap.size, 0, none⟩) 0 0) [] :: L) := h.litRow e size 0 [] (by simp) (by omega) w.heap.size rfl
theorem St.ownOpen {A : Option Addr} {n c : Nat} (h : St M0 w (ownR C e size (.slice A n c) xs :: L)) : n = xs.length ∧ St M0 w (rowR e size (.slice A n c) n (xs.flatMap C) :: L) := by
  have h0 := (h.flatO At.here).sl.1
  subst h0
  exact ⟨rfl, h⟩
theorem St.ownClose {n : Nat} (h : St M0 w (rowR e size v n (xs.flatMap C) :: L)) (hn : n = xs.length) : St M0 w (ownR C e size v xs :: L) := by
  subst hn
  exact h
theorem St.ownSnoc {n : Nat} {x : α} (h : St M0 w (rowR e size v (n + 1) (xs.flatMap C ++ C x) :: L)) (hn : n = xs.length) : St M0 w (ownR C e size v (xs ++ [x]) :: L) := by
  subst hn
  rw [← flatC_snoc] at h
  exact h.ownClose (by simp)
theorem St.keepTail (hC : ∀ x, (C x).length = size) (hsz : 0 < size) {A A' : Option Addr} {n c : Nat} {x : α} {r : List α} (h : St M0 w L) (hi : At (keepR C size (.slice A n c) (x :: r)) L R) (hA : ∀ ad, A = some ad → c ≠ 1 → A' = some (ad.add size)) : St M0 w (keepR C size (.slice A' (n - 1) (c - 1)) r :: L) :=
  (h.keepCopy hi).pers1 (fun _ hw => hw.tail hC hsz hA)
/-- a cell of an element is written -/
theorem St.ownSet (hC : ∀ x, (C x).length = size) {b n c k j : Nat} {x y : α} {u : Value} (h : St M0 w (ownR C e size (.slice (some ⟨b, 0, none⟩) n c) xs :: L)) (hk : xs[k]? = some x) (hj : j < size) (hy : C y = (C x).set j u) :
    St M0 (w.setCell ⟨b, k * size + j, none⟩ u) (ownR C e size (.slice (some ⟨b, 0, none⟩) n c) (xs.set k y) :: L) ∧ (w.cell? ⟨b, k * size + j, none⟩).isSome = true ∧ w.frozen? ⟨b, k * size + j, none⟩ = false := by
  obtain ⟨h0, h1⟩ := h.ownOpen
  have hlt := (List.getElem?_eq_some_iff.1 hk).1
  have hle : (k + 1) * size ≤ n * size := Nat.mul_le_mul_right _ (by omega)
  rw [Nat.add_mul, Nat.one_mul] at hle
  have h2 := h1.rowSplice (k * size + j) [u] (by simp; omega)
  have ht := own_there (h1.row 0 rfl) (k * size + j) 1 (by omega) 0 (by omega)
  rw [Nat.add_zero] at ht
  refine ⟨?_, ht.1, ht.2⟩
  have e1 : splice (xs.flatMap C) (k * size + j) [u] = (xs.set k y).flatMap C := by
    rw [flatC_set hC hy hj xs k hk]
    unfold splice
    rw [List.set_eq_take_append_cons_drop, if_pos (by rw [flatC_len hC, ← h0]; omega)]
    simp
  rw [e1] at h2
  exact h2.ownClose (by rw [List.length_set]; exact h0)
end
end Go.Proofs.Ytbgknfdaaffeaaa
