/- Slices of structs (and of slices) that stay: each element's cells, and what they stand for. -/
import Derived.Test.YtbgknfdaaffeaaaStApp
namespace Go.Proofs.Ytbgknfdaaffeaaa
open Go.RowKit

/-- a slice of elements of that many cells, css; R tells what an element's cells stand for -/
def RowsC {α : Type} (w : World) (size : Nat) (R : World → List Value → α → Prop) (v : Value) (css : Nat → List Value) (xs : List α) : Prop :=
  ∃ A c, v = .slice A xs.length c ∧ xs.length ≤ c ∧ c ≤ maxLen ∧ ∀ i x, xs[i]? = some x → ∃ ad, A = some ad ∧ (css i).length = size ∧ (∀ j u, (css i)[j]? = some u → w.cell? ((ad.add (i * size)).add j) = some u) ∧ R w (css i) x
def Rows {α : Type} (w : World) (size : Nat) (R : World → List Value → α → Prop) (v : Value) (xs : List α) : Prop := ∃ css, RowsC w size R v css xs
/-- the same, as a thing that stays -/
def rowsR {α : Type} (size : Nat) (R : World → List Value → α → Prop) (v : Value) (xs : List α) : Res := exR fun css => persR (fun w => RowsC w size R v css xs)
abbrev intsR (k : IntKind) (v : Value) (xs : List Int) : Res := persR (fun w => Ints w k v xs)

section
variable {α : Type} {M0 : Imm} {w : World} {L : List Res} {size : Nat} {R : World → List Value → α → Prop} {v : Value} {xs : List α}
theorem RowsC.none_ (w : World) (size : Nat) (R : World → List Value → α → Prop) (css : Nat → List Value) : RowsC w size R (.slice none 0 0) css [] := ⟨none, 0, rfl, by simp, by unfold maxLen; omega, fun i x h => by simp at h⟩
theorem Rows.slice (h : Rows w size R v xs) : ∃ A c, v = .slice A xs.length c ∧ xs.length ≤ c ∧ c ≤ 9223372036854775807 := by
  obtain ⟨css, A, c, e, h1, h2, h3⟩ := h
  exact ⟨A, c, e, h1, h2⟩
theorem Rows.at_ {A : Option Addr} {n c : Nat} (h : Rows w size R (.slice A n c) xs) {i : Nat} {x : α} (hi : xs[i]? = some x) :
    ∃ ad cs, A = some ad ∧ cs.length = size ∧ (∀ j u, cs[j]? = some u → w.cell? ((ad.add (i * size)).add j) = some u) ∧ R w cs x := by
  obtain ⟨css, A', c', e, h1, h2, h3⟩ := h
  injection e with e1 e2 e3
  subst e1
  obtain ⟨ad, ha, hl, hc, hr⟩ := h3 i x hi
  exact ⟨ad, _, ha, hl, hc, hr⟩
/-- out of an owned row, and what its elements' cells stand for -/
theorem RowsC.of_own {e : TypeId} {n : Nat} {vs : List Value} (h : w.ownsRow 0 e size v n vs) (hn : n = xs.length) (hR : ∀ i x, xs[i]? = some x → R w ((vs.drop (i * size)).take size) x) : RowsC w size R v (fun i => (vs.drop (i * size)).take size) xs := by
  subst hn
  have hl := h.1
  rcases h.2 with ⟨rfl, h0⟩ | ⟨g, cap, cur, rfl, hg, hh, hc, hm, hs, ht⟩
  · have : xs = [] := List.eq_nil_of_length_eq_zero h0
    subst this
    exact RowsC.none_ w size R _
  · refine ⟨_, _, rfl, hc, hm, fun i x hi => ?_⟩
    have hlt := (List.getElem?_eq_some_iff.1 hi).1
    have hle : (i + 1) * size ≤ xs.length * size := Nat.mul_le_mul_right _ hlt
    rw [Nat.add_mul, Nat.one_mul] at hle
    refine ⟨_, rfl, by rw [List.length_take, List.length_drop]; omega, fun j u hu => ?_, hR i x hi⟩
    rw [addr_add]
    refine h.cells (g := g) rfl (i * size + j) u ?_
    rw [List.getElem?_take] at hu
    split at hu
    · rwa [List.getElem?_drop] at hu
    · cases hu
theorem St.getRows (h : St M0 w L) (i : Nat) (hi : L[i]? = some (rowsR size R v xs)) : Rows w size R v xs := by
  obtain ⟨M, F, ⟨css, hx⟩, ha⟩ := h.fact i hi
  exact ⟨css, hx.2 w ha⟩
/-- one element: its cells, and what they stand for from here on -/
theorem St.elem (h : St M0 w L) (i : Nat) {A : Option Addr} {n c : Nat} (hi : L[i]? = some (rowsR size R (.slice A n c) xs)) {k : Nat} {x : α} (hk : xs[k]? = some x) :
    ∃ ad cs, A = some ad ∧ cs.length = size ∧ (∀ j u, cs[j]? = some u → w.cell? ((ad.add (k * size)).add j) = some u) ∧ R w cs x ∧ St M0 w (persR (fun w' => (∀ j u, cs[j]? = some u → w'.cell? ((ad.add (k * size)).add j) = some u) ∧ R w' cs x) :: L) := by
  obtain ⟨M, Fs, h0, ha, hs⟩ := h
  obtain ⟨css, hx⟩ := hs.at_ i _ hi
  have hat : ∀ w', Agree w' M → ∃ ad, A = some ad ∧ (css k).length = size ∧ (∀ j u, (css k)[j]? = some u → w'.cell? ((ad.add (k * size)).add j) = some u) ∧ R w' (css k) x := by
    intro w' ha'
    obtain ⟨A', c', e, h1, h2, h3⟩ := hx.2 w' ha'
    injection e with e1 e2 e3
    subst e1
    exact h3 k x hk
  obtain ⟨ad, hA, hl, hc, hr⟩ := hat w ha
  refine ⟨ad, css k, hA, hl, hc, hr, M, _, h0, ha, hs.cons (F := fun _ => False) ⟨fun _ x => x, fun w' ha' => ?_⟩ (fun _ _ _ _ x => x) (fun _ x => x.elim)⟩
  obtain ⟨_, hA', _, hc', hr'⟩ := hat w' ha'
  subst hA
  injection hA' with hA'
  subst hA'
  exact ⟨hc', hr'⟩
/-- a row that is not written any more -/
theorem St.rows {e : TypeId} {n : Nat} {vs : List Value} (h : St M0 w (rowR e size v n vs :: persR (fun w' => ∀ i x, xs[i]? = some x → R w' ((vs.drop (i * size)).take size) x) :: L)) (hn : n = xs.length) : St M0 w (rowsR size R v xs :: L) :=
  St.addEx (f := fun css => persR (fun w => RowsC w size R v css xs)) (fun i => (vs.drop (i * size)).take size) (h.freezeR.pers2 (fun _ h1 h2 => RowsC.of_own h1 hn h2))
/-- an argument -/
theorem St.rowsW {w0 : World} {css : Nat → List Value} (h : St (Imm.of w0) w L) (hr : ∀ w', Fr Non w0 w' → RowsC w' size R v css xs) : St (Imm.of w0) w (rowsR size R v xs :: L) :=
  St.addEx (f := fun css => persR (fun w => RowsC w size R v css xs)) css (h.persW hr)
end

/-- a slice of elements that still grows -/
def growR {α : Type} (e : TypeId) (size : Nat) (R : World → List Value → α → Prop) (v : Value) (xs : List α) : Res :=
  exR fun vs => starR (rowR e size v xs.length vs) (persR (fun w => ∀ (i : Nat) x, xs[i]? = some x → R w ((vs.drop (i * size)).take size) x))
section
variable {α : Type} {M0 : Imm} {w : World} {L : List Res} {e : TypeId} {size : Nat} {R : World → List Value → α → Prop} {v : Value} {xs : List α}
theorem St.nilGrow (h : St M0 w L) (e : TypeId) (size : Nat) (R : World → List Value → α → Prop) : St M0 w (growR e size R (.slice none 0 0) [] :: L) :=
  St.addEx (f := fun vs => starR (rowR e size (.slice none 0 0) ([] : List α).length vs) (persR (fun w => ∀ (i : Nat) x, ([] : List α)[i]? = some x → R w ((vs.drop (i * size)).take size) x))) []
    ((h.pers0 (fun w' _ i x hi => by simp at hi)).nilRow e size).addStar
theorem St.openGrow (h : St M0 w (growR e size R v xs :: L)) : ∃ A c q vs, v = .slice A q c ∧ q = xs.length ∧ St M0 w (rowR e size (.slice A q c) q vs :: persR (fun w => ∀ (i : Nat) x, xs[i]? = some x → R w ((vs.drop (i * size)).take size) x) :: L) := by
  obtain ⟨vs, h⟩ := h.ex
  have h := h.star
  obtain ⟨A, c, rfl⟩ := h.slice
  exact ⟨A, c, _, vs, rfl, rfl, h⟩
theorem St.openGrowS {A : Option Addr} {q c : Nat} (h : St M0 w (growR e size R (.slice A q c) xs :: L)) : ∃ vs, q = xs.length ∧ vs.length = q * size ∧ St M0 w (rowR e size (.slice A q c) q vs :: persR (fun w => ∀ (i : Nat) x, xs[i]? = some x → R w ((vs.drop (i * size)).take size) x) :: L) := by
  obtain ⟨A', c', q', vs, e, hq, h⟩ := h.openGrow
  injection e with e1 e2 e3
  subst e1; subst e2; subst e3
  exact ⟨vs, hq, (h.row 0 rfl).1, h⟩
theorem St.snocGrow {q : Nat} {vs cs : List Value} {x : α} (h : St M0 w (rowR e size v (q + 1) (vs ++ cs) :: persR (fun w => ∀ (i : Nat) x, xs[i]? = some x → R w ((vs.drop (i * size)).take size) x) :: persR (fun w => R w cs x) :: L)) (hq : q = xs.length) (hc : cs.length = size) (hv : vs.length = q * size) : St M0 w (growR e size R v (xs ++ [x]) :: L) := by
  subst hq
  refine St.addEx (f := fun vs => starR (rowR e size v (xs ++ [x]).length vs) (persR (fun w => ∀ (i : Nat) y, (xs ++ [x])[i]? = some y → R w ((vs.drop (i * size)).take size) y))) (vs ++ cs) ?_
  refine St.addStar ?_
  rw [show (xs ++ [x]).length = xs.length + 1 by simp]
  refine (h.dn2.pers2 (fun w' h1 h2 i y hi => ?_)).swap
  by_cases hl : i < xs.length
  · rw [List.getElem?_append_left hl] at hi
    have hle : (i + 1) * size ≤ xs.length * size := Nat.mul_le_mul_right _ hl
    rw [Nat.add_mul, Nat.one_mul] at hle
    have := h1 i y hi
    rwa [List.drop_append_of_le_length (by omega), List.take_append_of_le_length (by rw [List.length_drop]; omega)]
  · have hlt := (List.getElem?_eq_some_iff.1 hi).1
    have hie : i = xs.length := by simp at hlt; omega
    subst hie
    rw [List.getElem?_append_right (Nat.le_refl _), Nat.sub_self] at hi
    obtain rfl : x = y := by simpa using hi
    rw [← hv, List.drop_left, ← hc, List.take_length]
    exact h2
theorem St.rowsGrow (h : St M0 w (growR e size R v xs :: L)) : St M0 w (rowsR size R v xs :: L) := by
  obtain ⟨vs, h⟩ := h.ex
  exact h.star.rows rfl
end
/-- the element that was laid just before, of many cells -/
theorem sl_newN (w : World) (e : TypeId) (cs : List Value) : Sl (w.alloc (.cells cs.toArray e)) Any cs.length (some ⟨w.heap.size, 0, none⟩) 1 cs :=
  ⟨by simp, fun _ => ⟨_, rfl, trivial, by simp, fun j y hy => by
    rw [show (⟨w.heap.size, 0, none⟩ : Addr).add j = ⟨w.heap.size, j, none⟩ by simp [Addr.add]; exact Eq.symm, (Blk.new _ _ _).cell]
    simpa using hy⟩⟩

theorem sl_newG {w : World} {e : TypeId} {cs : List Value} {g : Nat} (hg : g = w.heap.size) : Sl (w.alloc (.cells cs.toArray e)) Any cs.length (some ⟨g, 0, none⟩) 1 cs := by
  subst hg
  exact sl_newN w e cs

/-- a slice laid out as a literal -/
theorem St.litRow {M0 : Imm} {w : World} {L : List Res} (h : St M0 w L) (e : TypeId) (size n : Nat) (vs : List Value) (hl : vs.length = n * size) (hn : n ≤ 100000) (g : Nat) (hg : g = w.heap.size := by simp) : St M0 (w.alloc (.cells vs.toArray e)) (rowR e size (.slice (some ⟨g, 0, none⟩) n n) n vs :: L) := by
  subst hg
  refine h.newRow ((Fr.refl _ _).alloc _) (own_of_blk (Blk.new w e vs.toArray) ?_ ?_ (Nat.le_refl _) (by unfold maxLen; omega) (Nat.zero_le _)) (fun b hb => ?_)
  · rw [← hl]; simp
  · simpa using hl
  · simp [Value.ownBlock] at hb; omega
theorem St.litInts {M0 : Imm} {w : World} {L : List Res} (h : St M0 w L) (e : TypeId) (k : IntKind) (xs : List Int) (hn : xs.length ≤ 100000) (g : Nat) (hg : g = w.heap.size := by simp) : St M0 (w.alloc (.cells (xs.map (Value.int k)).toArray e)) (intsR k (.slice (some ⟨g, 0, none⟩) xs.length xs.length) xs :: L) :=
  (h.litRow e 1 xs.length (xs.map (Value.int k)) (by simp) hn g hg).ints

theorem cells3 {w : World} {p : Addr} {a b c : Value} (h : ∀ j u, [a, b, c][j]? = some u → w.cell? (p.add j) = some u) : w.cell? p = some a ∧ w.cell? ⟨p.block, p.off + 1, none⟩ = some b ∧ w.cell? ⟨p.block, p.off + 2, none⟩ = some c :=
  ⟨by simpa [Addr.add] using h 0 a rfl, by simpa [Addr.add] using h 1 b rfl, by simpa [Addr.add] using h 2 c rfl⟩

end Go.Proofs.Ytbgknfdaaffeaaa
