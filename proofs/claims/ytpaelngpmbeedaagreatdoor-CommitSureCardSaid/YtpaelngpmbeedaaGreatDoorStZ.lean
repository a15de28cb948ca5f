/- slices.Clone of bytes, told with resources. -/
import Derived.Test.YtpaelngpmbeedaaGreatDoorBaseZ
import Derived.Test.YtpaelngpmbeedaaGreatDoorRows
import Derived.Lib.AppendZerosOnto
import Derived.ArgAppend
import Derived.RangeFuncNested
import Derived.RangeFuncBound
import Derived.RangeFuncCalls
import Derived.RangeFuncLeaves
import Derived.Shelf.Abstract
import Derived.Shelf.RegionOpen
import Derived.OwnWalkIn
import Derived.TacticsInMore
import Derived.LoopNIn
import Derived.LoopIn
import Derived.Deep.LoopGhost
import Derived.IntWalk
import Derived.Laws.BitsAllLaws
namespace Go.Proofs.YtpaelngpmbeedaaGreatDoor
open Go.RowKit

theorem u8_row : ElemOf Tryz.prog 34 5 (.int .u8 0) 1 1 := ⟨Tryz.underlying34, by kernel_rfl, by kernel_rfl, by omega⟩
theorem empty_u8 (w : World) : (Instr.buildSlice 34 0 #[]).run Tryz.prog w = .ok (.slice (some ⟨w.heap.size, 0, none⟩) 0 0) (w.alloc (.cells #[] 5)) := by kernel_rfl
/-- an empty row -/
theorem St.emptyRow {M0 : Imm} {w : World} {L : List Res} (h : St M0 w L) (e : TypeId) : St M0 (w.alloc (.cells #[] e)) (rowR e 1 (.slice (some ⟨w.heap.size, 0, none⟩) 0 0) 0 [] :: L) :=
  h.newRow ((Fr.refl _ _).alloc _) (World.ownsRow_made w #[] 0 (Nat.zero_le _) (Nat.zero_le _) (by simp)) (fun b hb => by simp [Value.ownBlock] at hb; omega)

set_option maxHeartbeats 400000 in
theorem clone_st {M0 : Imm} {L : List Res} (A : Option Addr) (n c : Nat) (xs : List Int) (w : World) (hs : Sl w Any 1 A n (bv xs)) (hn : n ≤ 140737488355328) (h : St M0 w L) :
    Calls Tryz.prog 76 #[.slice A n c] w fun e w' => ∃ v, e = .returned v ∧ St M0 w' (rowR 5 1 v n (bv xs) :: L) := by
  rcases A with _ | a
  · have hm : n = 0 := by
      rcases Nat.eq_zero_or_pos n with h0 | h0
      · exact h0
      · obtain ⟨ad, h, _⟩ := hs.2 h0
        cases h
    subst hm
    have hx : xs = [] := List.eq_nil_of_length_eq_zero (by simpa using hs.1)
    subst hx
    have hnil := fun w => Lib.run_eql_slice_nil (P := Tryz.prog) w 34 5 none 0 c 0 0 Tryz.underlying34
    have H := hide h
    clear hs h
    go_enter Tryz.func76, Tryz.ntmps76
    go_wp2
    go_ret
    exact ⟨_, rfl, H.out.nilRow _ _⟩
  · have hnil := fun w => Lib.run_eql_slice_nil (P := Tryz.prog) w 34 5 (some a) n c 0 0 Tryz.underlying34
    have hemp := empty_u8
    have H := hide (h.emptyRow 5)
    have HS := hide ((hs.non ((Fr.refl Non w).alloc (.cells #[] 5))))
    clear hs h
    go_enter Tryz.func76, Tryz.ntmps76
    go_wp2_with (at_builtin; refine St.app_step u8_row H.out rfl _ _ rfl rfl (some a) n c rfl (bv xs) HS.out (bv_one _) (by omega) (by omega) ?_; intro A' c' w1 h1)
    go_ret
    exact ⟨_, rfl, (by simpa using h1)⟩

end Go.Proofs.YtpaelngpmbeedaaGreatDoor
/- Slices of structs (and of slices) that stay: each element's cells, and what they stand for. -/
namespace Go.Proofs.YtpaelngpmbeedaaGreatDoor
open Go.RowKit

/-- a slice of elements of that many cells, css; R tells what an element's cells stand for -/
def RowsC {α : Type} (w : World) (size : Nat) (R : World → List Value → α → Prop) (v : Value) (css : Nat → List Value) (xs : List α) : Prop :=
  ∃ A c, v = .slice A xs.length c ∧ xs.length ≤ c ∧ c ≤ maxLen ∧ ∀ i x, xs[i]? = some x → ∃ ad, A = some ad ∧ (css i).length = size ∧ (∀ j u, (css i)[j]? = some u → w.cell? ((ad.add (i * size)).add j) = some u) ∧ R w (css i) x
def Rows {α : Type} (w : World) (size : Nat) (R : World → List Value → α → Prop) (v : Value) (xs : List α) : Prop := ∃ css, RowsC w size R v css xs
/-- the same, as a thing that stays -/
def rowsR {α : Type} (size : Nat) (R : World → List Value → α → Prop) (v : Value) (xs : List α) : Res := exR fun css => persR (fun w => RowsC w size R v css xs)
abbrev intsR (k : IntKind) (v : Value) (xs : List Int) : Res := persR (fun w => Ints w k v xs)

section
variable {α : Type} {M0 : Imm} {w : World} {L : List Res} {size : Nat} {R : World → List Value → α → Prop} {v : Value} {xs : List α}
theorem RowsC.none_ (w : World) (size : Nat) (R : World → List Value → α → Prop) (css : Nat → List Value) : RowsC w size R (.slice none 0 0) css [] := ⟨none, 0, rfl, by simp, by unfold maxLen; omega, fun i x h => by simp at h⟩
theorem Rows.slice (h : Rows w size R v xs) : ∃ A c, v = .slice A xs.length c ∧ xs.length ≤ c ∧ c ≤ 9223372036854775807 := by
  obtain ⟨css, A, c, e, h1, h2, h3⟩ := h
  exact ⟨A, c, e, h1, h2⟩
theorem Rows.at_ {A : Option Addr} {n c : Nat} (h : Rows w size R (.slice A n c) xs) {i : Nat} {x : α} (hi : xs[i]? = some x) :
    ∃ ad cs, A = some ad ∧ cs.length = size ∧ (∀ j u, cs[j]? = some u → w.cell? ((ad.add (i * size)).add j) = some u) ∧ R w cs x := by
  obtain ⟨css, A', c', e, h1, h2, h3⟩ := h
  injection e with e1 e2 e3
  subst e1
  obtain ⟨ad, ha, hl, hc, hr⟩ := h3 i x hi
  exact ⟨ad, _, ha, hl, hc, hr⟩
/-- out of an owned row, and what its elements' cells stand for -/
theorem RowsC.of_own {e : TypeId} {n : Nat} {vs : List Value} (h : w.ownsRow 0 e size v n vs) (hn : n = xs.length) (hR : ∀ i x, xs[i]? = some x → R w ((vs.drop (i * size)).take size) x) : RowsC w size R v (fun i => (vs.drop (i * size)).take size) xs := by
  subst hn
  have hl := h.1
  rcases h.2 with ⟨rfl, h0⟩ | ⟨g, cap, cur, rfl, hg, hh, hc, hm, hs, ht⟩
  · have : xs = [] := List.eq_nil_of_length_eq_zero h0
    subst this
    exact RowsC.none_ w size R _
  · refine ⟨_, _, rfl, hc, hm, fun i x hi => ?_⟩
    have hlt := (List.getElem?_eq_some_iff.1 hi).1
    have hle : (i + 1) * size ≤ xs.length * size := Nat.mul_le_mul_right _ hlt
    rw [Nat.add_mul, Nat.one_mul] at hle
    refine ⟨_, rfl, by rw [List.length_take, List.length_drop]; omega, fun j u hu => ?_, hR i x hi⟩
    rw [addr_add]
    refine h.cells (g := g) rfl (i * size + j) u ?_
    rw [List.getElem?_take] at hu
    split at hu
    · rwa [List.getElem?_drop] at hu
    · cases hu
theorem St.getRows (h : St M0 w L) (i : Nat) (hi : L[i]? = some (rowsR size R v xs)) : Rows w size R v xs := by
  obtain ⟨M, F, ⟨css, hx⟩, ha⟩ := h.fact i hi
  exact ⟨css, hx.2 w ha⟩
/-- one element: its cells, and what they stand for from here on -/
theorem St.elem (h : St M0 w L) (i : Nat) {A : Option Addr} {n c : Nat} (hi : L[i]? = some (rowsR size R (.slice A n c) xs)) {k : Nat} {x : α} (hk : xs[k]? = some x) :
    ∃ ad cs, A = some ad ∧ cs.length = size ∧ (∀ j u, cs[j]? = some u → w.cell? ((ad.add (k * size)).add j) = some u) ∧ R w cs x ∧ St M0 w (persR (fun w' => (∀ j u, cs[j]? = some u → w'.cell? ((ad.add (k * size)).add j) = some u) ∧ R w' cs x) :: L) := by
  obtain ⟨M, Fs, h0, ha, hs⟩ := h
  obtain ⟨css, hx⟩ := hs.at_ i _ hi
  have hat : ∀ w', Agree w' M → ∃ ad, A = some ad ∧ (css k).length = size ∧ (∀ j u, (css k)[j]? = some u → w'.cell? ((ad.add (k * size)).add j) = some u) ∧ R w' (css k) x := by
    intro w' ha'
    obtain ⟨A', c', e, h1, h2, h3⟩ := hx.2 w' ha'
    injection e with e1 e2 e3
    subst e1
    exact h3 k x hk
  obtain ⟨ad, hA, hl, hc, hr⟩ := hat w ha
  refine ⟨ad, css k, hA, hl, hc, hr, M, _, h0, ha, hs.cons (F := fun _ => False) ⟨fun _ x => x, fun w' ha' => ?_⟩ (fun _ _ _ _ x => x) (fun _ x => x.elim)⟩
  obtain ⟨_, hA', _, hc', hr'⟩ := hat w' ha'
  subst hA
  injection hA' with hA'
  subst hA'
  exact ⟨hc', hr'⟩
/-- a row that is not written any more -/
theorem St.rows {e : TypeId} {n : Nat} {vs : List Value} (h : St M0 w (rowR e size v n vs :: persR (fun w' => ∀ i x, xs[i]? = some x → R w' ((vs.drop (i * size)).take size) x) :: L)) (hn : n = xs.length) : St M0 w (rowsR size R v xs :: L) :=
  St.addEx (f := fun css => persR (fun w => RowsC w size R v css xs)) (fun i => (vs.drop (i * size)).take size) (h.freezeR.pers2 (fun _ h1 h2 => RowsC.of_own h1 hn h2))
/-- an argument -/
theorem St.rowsW {w0 : World} {css : Nat → List Value} (h : St (Imm.of w0) w L) (hr : ∀ w', Fr Non w0 w' → RowsC w' size R v css xs) : St (Imm.of w0) w (rowsR size R v xs :: L) :=
  St.addEx (f := fun css => persR (fun w => RowsC w size R v css xs)) css (h.persW hr)
end

/-- a slice of elements that still grows -/
def growR {α : Type} (e : TypeId) (size : Nat) (R : World → List Value → α → Prop) (v : Value) (xs : List α) : Res :=
  exR fun vs => starR (rowR e size v xs.length vs) (persR (fun w => ∀ (i : Nat) x, xs[i]? = some x → R w ((vs.drop (i * size)).take size) x))
section
variable {α : Type} {M0 : Imm} {w : World} {L : List Res} {e : TypeId} {size : Nat} {R : World → List Value → α → Prop} {v : Value} {xs : List α}
theorem St.nilGrow (h : St M0 w L) (e : TypeId) (size : Nat) (R : World → List Value → α → Prop) : St M0 w (growR e size R (.slice none 0 0) [] :: L) :=
  St.addEx (f := fun vs => starR (rowR e size (.slice none 0 0) ([] : List α).length vs) (persR (fun w => ∀ (i : Nat) x, ([] : List α)[i]? = some x → R w ((vs.drop (i * size)).take size) x))) []
    ((h.pers0 (fun w' _ i x hi => by simp at hi)).nilRow e size).addStar
theorem St.openGrow (h : St M0 w (growR e size R v xs :: L)) : ∃ A c q vs, v = .slice A q c ∧ q = xs.length ∧ St M0 w (rowR e size (.slice A q c) q vs :: persR (fun w => ∀ (i : Nat) x, xs[i]? = some x → R w ((vs.drop (i * size)).take size) x) :: L) := by
  obtain ⟨vs, h⟩ := h.ex
  have h := h.star
  obtain ⟨A, c, rfl⟩ := h.slice
  exact ⟨A, c, _, vs, rfl, rfl, h⟩
theorem St.openGrowS {A : Option Addr} {q c : Nat} (h : St M0 w (growR e size R (.slice A q c) xs :: L)) : ∃ vs, q = xs.length ∧ vs.length = q * size ∧ St M0 w (rowR e size (.slice A q c) q vs :: persR (fun w => ∀ (i : Nat) x, xs[i]? = some x → R w ((vs.drop (i * size)).take size) x) :: L) := by
  obtain ⟨A', c', q', vs, e, hq, h⟩ := h.openGrow
  injection e with e1 e2 e3
  subst e1; subst e2; subst e3
  exact ⟨vs, hq, (h.row 0 rfl).1, h⟩
theorem St.snocGrow {q : Nat} {vs cs : List Value} {x : α} (h : St M0 w (rowR e size v (q + 1) (vs ++ cs) :: persR (fun w => ∀ (i : Nat) x, xs[i]? = some x → R w ((vs.drop (i * size)).take size) x) :: persR (fun w => R w cs x) :: L)) (hq : q = xs.length) (hc : cs.length = size) (hv : vs.length = q * size) : St M0 w (growR e size R v (xs ++ [x]) :: L) := by
  subst hq
  refine St.addEx (f := fun vs => starR (rowR e size v (xs ++ [x]).length vs) (persR (fun w => ∀ (i : Nat) y, (xs ++ [x])[i]? = some y → R w ((vs.drop (i * size)).take size) y))) (vs ++ cs) ?_
  refine St.addStar ?_
  rw [show (xs ++ [x]).length = xs.length + 1 by simp]
  refine (h.dn2.pers2 (fun w' h1 h2 i y hi => ?_)).swap
  by_cases hl : i < xs.length
  · rw [List.getElem?_append_left hl] at hi
    have hle : (i + 1) * size ≤ xs.length * size := Nat.mul_le_mul_right _ hl
    rw [Nat.add_mul, Nat.one_mul] at hle
    have := h1 i y hi
    rwa [List.drop_append_of_le_length (by omega), List.take_append_of_le_length (by rw [List.length_drop]; omega)]
  · have hlt := (List.getElem?_eq_some_iff.1 hi).1
    have hie : i = xs.length := by simp at hlt; omega
    subst hie
    rw [List.getElem?_append_right (Nat.le_refl _), Nat.sub_self] at hi
    obtain rfl : x = y := by simpa using hi
    rw [← hv, List.drop_left, ← hc, List.take_length]
    exact h2
theorem St.rowsGrow (h : St M0 w (growR e size R v xs :: L)) : St M0 w (rowsR size R v xs :: L) := by
  obtain ⟨vs, h⟩ := h.ex
  exact h.star.rows rfl
end
/-- the element that was laid just before, of many cells -/
theorem sl_newN (w : World) (e : TypeId) (cs : List Value) : Sl (w.alloc (.cells cs.toArray e)) Any cs.length (some ⟨w.heap.size, 0, none⟩) 1 cs :=
  ⟨by simp, fun _ => ⟨_, rfl, trivial, by simp, fun j y hy => by
    rw [show (⟨w.heap.size, 0, none⟩ : Addr).add j = ⟨w.heap.size, j, none⟩ by simp [Addr.add]; exact Eq.symm, (Blk.new _ _ _).cell]
    simpa using hy⟩⟩

theorem sl_newG {w : World} {e : TypeId} {cs : List Value} {g : Nat} (hg : g = w.heap.size) : Sl (w.alloc (.cells cs.toArray e)) Any cs.length (some ⟨g, 0, none⟩) 1 cs := by
  subst hg
  exact sl_newN w e cs

/-- a slice laid out as a literal -/
theorem St.litRow {M0 : Imm} {w : World} {L : List Res} (h : St M0 w L) (e : TypeId) (size n : Nat) (vs : List Value) (hl : vs.length = n * size) (hn : n ≤ 100000) (g : Nat) (hg : g = w.heap.size := by simp) : St M0 (w.alloc (.cells vs.toArray e)) (rowR e size (.slice (some ⟨g, 0, none⟩) n n) n vs :: L) := by
  subst hg
  refine h.newRow ((Fr.refl _ _).alloc _) (own_of_blk (Blk.new w e vs.toArray) ?_ ?_ (Nat.le_refl _) (by unfold maxLen; omega) (Nat.zero_le _)) (fun b hb => ?_)
  · rw [← hl]; simp
  · simpa using hl
  · simp [Value.ownBlock] at hb; omega
theorem St.litInts {M0 : Imm} {w : World} {L : List Res} (h : St M0 w L) (e : TypeId) (k : IntKind) (xs : List Int) (hn : xs.length ≤ 100000) (g : Nat) (hg : g = w.heap.size := by simp) : St M0 (w.alloc (.cells (xs.map (Value.int k)).toArray e)) (intsR k (.slice (some ⟨g, 0, none⟩) xs.length xs.length) xs :: L) :=
  (h.litRow e 1 xs.length (xs.map (Value.int k)) (by simp) hn g hg).ints

theorem cells3 {w : World} {p : Addr} {a b c : Value} (h : ∀ j u, [a, b, c][j]? = some u → w.cell? (p.add j) = some u) : w.cell? p = some a ∧ w.cell? ⟨p.block, p.off + 1, none⟩ = some b ∧ w.cell? ⟨p.block, p.off + 2, none⟩ = some c :=
  ⟨by simpa [Addr.add] using h 0 a rfl, by simpa [Addr.add] using h 1 b rfl, by simpa [Addr.add] using h 2 c rfl⟩

end Go.Proofs.YtpaelngpmbeedaaGreatDoor
/- The cells of rows one behind the other; a copy of rows that grows on. -/
namespace Go.Proofs.YtpaelngpmbeedaaGreatDoor
open Go.RowKit

def flat (css : Nat → List Value) (n : Nat) : List Value := (List.range n).flatMap css
theorem flat_succ (css : Nat → List Value) (n : Nat) : flat css (n + 1) = flat css n ++ css n := by simp [flat, List.range_succ]
theorem flat_length {css : Nat → List Value} {n size : Nat} (h : ∀ i, i < n → (css i).length = size) : (flat css n).length = n * size := by
  induction n with
  | zero => simp [flat]
  | succ n ih => rw [flat_succ, List.length_append, ih (fun i hi => h i (by omega)), h n (by omega), Nat.add_mul, Nat.one_mul]
theorem flat_at {css : Nat → List Value} {n size : Nat} (h : ∀ i, i < n → (css i).length = size) {i : Nat} (hi : i < n) : ((flat css n).drop (i * size)).take size = css i := by
  induction n with
  | zero => omega
  | succ n ih =>
    have hl := flat_length (css := css) (n := n) (size := size) (fun i hi => h i (by omega))
    rw [flat_succ]
    by_cases hin : i < n
    · have hle : (i + 1) * size ≤ n * size := Nat.mul_le_mul_right _ hin
      rw [Nat.add_mul, Nat.one_mul] at hle
      rw [List.drop_append_of_le_length (by omega), List.take_append_of_le_length (by rw [List.length_drop]; omega)]
      exact ih (fun i hi => h i (by omega)) hin
    · have e : i = n := by omega
      subst e
      rw [← hl, List.drop_left, ← h i (by omega), List.take_length]
theorem flat_mem {css : Nat → List Value} {n : Nat} {u : Value} (h : u ∈ flat css n) : ∃ i, i < n ∧ u ∈ css i := by
  unfold flat at h
  obtain ⟨i, hi, hu⟩ := List.mem_flatMap.1 h
  exact ⟨i, List.mem_range.1 hi, hu⟩

section
variable {α : Type} {M0 : Imm} {w : World} {L : List Res} {size : Nat} {R : World → List Value → α → Prop} {xs : List α}
theorem RowsC.sl {A : Option Addr} {n c : Nat} {css : Nat → List Value} (h : RowsC w size R (.slice A n c) css xs) (hs : 0 < size) : Sl w Any size A n (flat css n) ∧ n = xs.length ∧ n ≤ c ∧ c ≤ maxLen ∧ (∀ i, i < n → (css i).length = size) := by
  obtain ⟨A', c', e, h1, h2, h3⟩ := h
  injection e with e1 e2 e3
  subst e1; subst e2; subst e3
  have hl : ∀ i, i < xs.length → (css i).length = size := fun i hi => by
    obtain ⟨ad, _, h4, _⟩ := h3 i _ (List.getElem?_eq_getElem hi)
    exact h4
  refine ⟨⟨flat_length hl, fun hn => ?_⟩, rfl, h1, h2, hl⟩
  obtain ⟨ad, rfl, _, hc0, _⟩ := h3 0 _ (List.getElem?_eq_getElem hn)
  have hat : ∀ j u, (flat css xs.length)[j]? = some u → w.cell? (ad.add j) = some u := by
    intro j u hu
    have hj : j < xs.length * size := by
      have := (List.getElem?_eq_some_iff.1 hu).1
      rwa [flat_length hl] at this
    have hi : j / size < xs.length := Nat.div_lt_of_lt_mul (by rwa [Nat.mul_comm] at hj)
    obtain ⟨ad', e, _, hc, _⟩ := h3 (j / size) _ (List.getElem?_eq_getElem hi)
    injection e with e
    subst e
    have hfa := flat_at hl hi
    have hj2 : j % size < size := Nat.mod_lt _ hs
    have hu2 : (css (j / size))[j % size]? = some u := by
      rw [← hfa, List.getElem?_take, if_pos hj2, List.getElem?_drop, show j / size * size + j % size = j from Nat.div_add_mod' j size]
      exact hu
    have := hc (j % size) u hu2
    rwa [addr_add, Nat.div_add_mod' j size] at this
  refine ⟨ad, rfl, trivial, ?_, hat⟩
  have hpos : 0 < (flat css xs.length).length := by rw [flat_length hl]; exact Nat.mul_pos hn hs
  have := World.block_lt_of_cell? _ _ (hat 0 _ (List.getElem?_eq_getElem hpos))
  rwa [addr_block] at this
/-- rows, opened: their cells, as facts that stay -/
theorem St.openRows {v : Value} (h : St M0 w (rowsR size R v xs :: L)) : ∃ css, St M0 w (persR (fun w' => RowsC w' size R v css xs) :: L) := h.ex
theorem St.growOf {e : TypeId} {q : Nat} {v u : Value} {css : Nat → List Value} (h : St M0 w (rowR e size v q (flat css q) :: persR (fun w' => RowsC w' size R u css xs) :: L)) (hq : q = xs.length) (hl : ∀ i, i < q → (css i).length = size) : St M0 w (growR e size R v xs :: L) := by
  subst hq
  refine St.addEx (f := fun vs => starR (rowR e size v xs.length vs) (persR (fun w => ∀ (i : Nat) x, xs[i]? = some x → R w ((vs.drop (i * size)).take size) x))) (flat css xs.length) (St.addStar ?_)
  refine (h.swap.pers1 (fun w' hr i x hi => ?_)).swap
  have hlt := (List.getElem?_eq_some_iff.1 hi).1
  rw [flat_at hl hlt]
  obtain ⟨A', c', _, _, _, h3⟩ := hr
  obtain ⟨_, _, _, _, h5⟩ := h3 i x hi
  exact h5
end

end Go.Proofs.YtpaelngpmbeedaaGreatDoor
/- append of a made slice (the number in the place of a slice), told with resources: elements of one cell. -/
namespace Go.Proofs.YtpaelngpmbeedaaGreatDoor
open Go.RowKit

theorem zeroCells_one (z : Value) (k : Nat) : Builtin.zeroCells #[z] k = (List.replicate k z).toArray := by
  apply Array.toList_inj.1
  unfold Builtin.zeroCells
  apply List.ext_getElem?
  intro i
  simp only [Array.toList_map, Array.toList_range, List.getElem?_map]
  by_cases hi : i < k * 1
  · rw [show (#[z] : Array Value).size = 1 from rfl, List.getElem?_range hi, List.getElem?_replicate, if_pos (by omega)]
    simp [Nat.mod_one]
  · rw [show (#[z] : Array Value).size = 1 from rfl, List.getElem?_eq_none (by simpa using Nat.le_of_not_lt hi), List.getElem?_eq_none (by simp; omega)]
    rfl

section
variable {P : Program} {M0 : Imm} {w : World} {L : List Res} {t tn e : TypeId} {z : Value} {bytes : Nat} {A : Option Addr} {n c : Nat} {xs : List Value}

theorem St.run_zeros {kn : IntKind} (hE : ElemOf P t e z 1 bytes) (hz : z.cells = #[z]) (hz1 : z.oneCell' = true) (htn : P.underlying tn = some (.int kn)) (h : St M0 w (rowR e 1 (.slice A n c) n xs :: L)) (ty : TypeId) (kq : IntKind) (k : Nat)
    (hb : (n + k) * bytes ≤ 140737488355328) (hn : n + k ≤ 140737488355328) (hk : (k : Int) * (bytes : Int) ≤ 281474976710656) :
    ∃ v' w', (Builtin.append_ #[t, tn] ty #[.slice A n c, .int kq k]).run P w = .ok v' w' ∧ St M0 w' (rowR e 1 v' (n + k) (xs ++ List.replicate k z) :: L) := by
  obtain ⟨i0, hi0, hz0, hs0, hb0⟩ := info_parts hE.hinfo
  have hown := h.row 0 rfl
  have hw : IntKind.i64.wrap (k : Int) = k := by rw [IntKind.wrap_i64]; omega
  have hneg : ¬ ((k : Int) < 0) := by omega
  have h48i : ¬ (281474976710656 < (k : Int) * (i0.bytes : Int)) := by rw [hb0]; omega
  by_cases h0 : k = 0
  · subst h0
    refine ⟨.slice A n c, w, ?_, by simpa using h⟩
    have hroom : n ≤ c := by
      rcases hown.2 with ⟨e1, e2⟩ | ⟨g, cap, cur, e1, _, _, hc, _⟩
      · rw [e2]; exact Nat.zero_le _
      · injection e1 with _ _ e3
        subst e3; exact hc
    have hw0 : IntKind.i64.wrap 0 = 0 := by rw [IntKind.wrap_i64]; omega
    cases A with
    | none => simp [Builtin.append_, run_underlying hE.ht, run_underlying htn, sizeOf, typeInfo, hi0, asInt, asIntOf, hw0, hroom]
    | some a => simp [Builtin.append_, run_underlying hE.ht, run_underlying htn, sizeOf, typeInfo, hi0, asInt, asIntOf, hw0, hroom, storeCells]
  by_cases hroom : n + k ≤ c
  · rcases hown.2 with ⟨e1, e2⟩ | ⟨g, cap, cur, e1, hg0, hg, hc, hm, hs, ht⟩
    · injection e1 with _ _ e3
      omega
    · injection e1 with e1 _ e3
      subst e1; subst e3
      simp only [Nat.mul_one] at hs ht
      have hst := run_storeCells_at P g n e (List.replicate k z) 0 cur w hg (by simp; omega) (fun u hu => by rw [List.eq_of_mem_replicate hu]; exact hz1)
      simp only [Nat.add_zero, List.length_replicate] at hst
      have hks : ¬ (k * 1 = 0) := by omega
      have hzc := zeroCells_one z k
      have hrun : (Builtin.append_ #[t, tn] ty #[.slice (some ⟨g, 0, none⟩) n c, .int kq k]).run P w = .ok (.slice (some ⟨g, 0, none⟩) (n + k) c) (w.setRow g (cur.toList.take n ++ List.replicate k z ++ cur.toList.drop (n + k)).toArray) := by
        simp [Builtin.append_, run_underlying hE.ht, run_underlying htn, sizeOf, typeInfo, zeroValue, hi0, hz0, hs0, asInt, asIntOf, hw, hneg, h48i, hroom, h0, hz, hzc, Addr.add_lit, hst]
      refine ⟨_, _, hrun, h.app (v' := .slice (some ⟨g, 0, none⟩) (n + k) c) ⟨?_, .inr ⟨g, c, _, rfl, Nat.zero_le _, setRow_heap w g cur _ e _ hg, hroom, hm, ?_, ?_⟩⟩ ⟨rfl, rfl, rfl, by simp, fun j _ hj => setRow_other w g j _ (fun e => hj (by simp [Value.ownBlock, e]))⟩ (.inl rfl)⟩
      · rw [List.length_append, hown.1, List.length_replicate]; omega
      · simp only [List.size_toArray, List.length_append, List.length_take, List.length_drop, Array.length_toList, List.length_replicate]
        omega
      · rw [ht, Nat.mul_one]
        have hl : (xs ++ List.replicate k z).length = n + k := by rw [List.length_append, hown.1, List.length_replicate]; omega
        rw [← hl]
        exact List.take_left
  · have holds : (Builtin.firstCells i0.size n (.slice A n c)).run P w.drew = .ok xs.toArray w.drew := by
      rcases hown.2 with ⟨e1, e2⟩ | ⟨g, cap, cur, e1, hg0, hg, hc, hm, hs, ht⟩
      · injection e1 with e1 e2' e3
        subst e1; subst e2; subst e3
        have : xs = [] := List.eq_nil_of_length_eq_zero (by simpa using hown.1)
        subst this
        rfl
      · injection e1 with e1 _ e3
        subst e1; subst e3
        exact run_firstCells_some (P := P) w.drew i0.size n ⟨g, 0, none⟩ n c xs (by rw [hs0]; exact hown.1) (hown.cells (g := g) rfl)
    have hr := Lib.run_append_grow_zeros (P := P) w t tn ty e i0 z kq kn hE.ht htn hi0 hz0 A n c xs holds k (by omega) (by rw [hs0]; omega) (by omega) (by omega) (by rw [hb0]; omega) (growslice_fits (by omega) (by rw [hb0]; exact hb))
    have hge := grownCap_ge w (n + k) c e
    have hcm : grownCap w (n + k) c e ≤ maxLen := grownCap_le_maxLen w (n + k) c e (by unfold maxLen; omega)
    have hzc := zeroCells_one z k
    have hlen : (xs ++ List.replicate k z).length = n + k := by rw [List.length_append, hown.1, List.length_replicate]; omega
    refine ⟨_, _, hr, h.tail.newRow ((Fr.refl _ _).drew.alloc _) ⟨by rw [hlen, Nat.mul_one], .inr ⟨w.heap.size, _, _, rfl, Nat.zero_le _, heap_alloc_new w.drew _, hge, hcm, ?_, ?_⟩⟩ (fun b hb' => by simp [Value.ownBlock] at hb'; omega)⟩
    · have hxl := hown.1
      simp only [Array.size_append, List.size_toArray, size_zeroCells, hz]
      simp
      omega
    · simp only [Array.toList_append, hz, hzc]
      rw [Nat.mul_one, ← hlen]
      exact List.take_left
end

end Go.Proofs.YtpaelngpmbeedaaGreatDoor
/- Slices of structs laid out as literals. -/
namespace Go.Proofs.YtpaelngpmbeedaaGreatDoor
open Go.RowKit

theorem flatMap_len {α : Type} {size : Nat} (ps : List (List Value × α)) (hl : ∀ p ∈ ps, p.1.length = size) : (ps.flatMap (·.1)).length = ps.length * size := by
  induction ps with
  | nil => simp
  | cons p r ih => rw [List.flatMap_cons, List.length_append, hl p (by simp), ih (fun q hq => hl q (by simp [hq])), List.length_cons, Nat.add_mul, Nat.one_mul, Nat.add_comm]
theorem flatMap_at {α : Type} {size : Nat} (ps : List (List Value × α)) (hl : ∀ p ∈ ps, p.1.length = size) : ∀ (i : Nat) (p : List Value × α), ps[i]? = some p → ((ps.flatMap (·.1)).drop (i * size)).take size = p.1 := by
  induction ps with
  | nil => intro i p h; simp at h
  | cons q r ih =>
    intro i p h
    rw [List.flatMap_cons]
    have hq := hl q (by simp)
    cases i with
    | zero =>
      obtain rfl : q = p := by simpa using h
      rw [Nat.zero_mul, List.drop_zero, ← hq, List.take_left]
    | succ i =>
      rw [Nat.add_mul, Nat.one_mul, Nat.add_comm, ← hq, List.drop_append, hq]
      rw [List.drop_of_length_le (by omega), List.nil_append, show size + i * size - size = i * size by omega]
      exact ih (fun q hq => hl q (by simp [hq])) i p (by simpa using h)
theorem St.litFlat {α : Type} {M0 : Imm} {w : World} {L : List Res} {R : World → List Value → α → Prop} {size : Nat} (ps : List (List Value × α)) (e : TypeId) (hl : ∀ p ∈ ps, p.1.length = size) (h : St M0 w (persR (fun w' => ∀ p ∈ ps, R w' p.1 p.2) :: L)) (hn : ps.length ≤ 100000) (g : Nat) (hg : g = w.heap.size := by simp) :
    St M0 (w.alloc (.cells (ps.flatMap (·.1)).toArray e)) (rowsR size R (.slice (some ⟨g, 0, none⟩) ps.length ps.length) (ps.map (·.2)) :: L) := by
  have h1 := (h.pers1 (R' := fun w' => ∀ i x, (ps.map (·.2))[i]? = some x → R w' (((ps.flatMap (·.1)).drop (i * size)).take size) x) (fun w' hr i x hi => by
    rw [List.getElem?_map] at hi
    cases hp : ps[i]? with
    | none => rw [hp] at hi; cases hi
    | some p =>
      rw [hp] at hi
      obtain rfl : p.2 = x := by simpa using hi
      rw [flatMap_at ps hl i p hp]
      exact hr p (List.mem_of_getElem? hp))).litRow e size ps.length (ps.flatMap (·.1)) (flatMap_len ps hl) hn g hg
  exact h1.rows (by simp)
end Go.Proofs.YtpaelngpmbeedaaGreatDoor
/- append to a slice that is full: a new row; slices.Clip. -/
namespace Go.Proofs.YtpaelngpmbeedaaGreatDoor
open Go.RowKit

section
variable {P : Program} {M0 : Imm} {w w' : World} {L : List Res} {t e : TypeId} {z : Value} {size bytes : Nat} {n : Nat} {xs : List Value}
theorem St.run_full (hE : ElemOf P t e z size bytes) (h : St M0 w L) (ty : TypeId) {B : Option Addr} (hxs : Sl w Any size B n xs) (A : Option Addr) (m c : Nat) (ys : List Value) (hy : Sl w Any size A m ys) (h1 : ∀ u ∈ ys, u.oneCell' = true) (hm : 0 < m)
    (hb : (n + m) * bytes ≤ 140737488355328) (hn : n + m ≤ 140737488355328) :
    ∃ v' w', (Builtin.append_ #[t, t] ty #[.slice B n n, .slice A m c]).run P w = .ok v' w' ∧ St M0 w' (rowR e size v' (n + m) (xs ++ ys) :: L) := by
  rcases B with _ | b
  · have h0 : n = 0 := by
      rcases Nat.eq_zero_or_pos n with h0 | h0
      · exact h0
      · obtain ⟨ad, h, _⟩ := hxs.2 h0
        cases h
    subst h0
    have hx : xs = [] := List.eq_nil_of_length_eq_zero (by simpa using hxs.1)
    subst hx
    exact St.run_app hE (h.nilRow e size) ty A m c ys hy h1 hb hn
  · obtain ⟨i0, hi0, hz0, hz1, hz2⟩ := info_parts hE.hinfo
    obtain ⟨ad, rfl, _, hlt, hc⟩ := hy.2 hm
    obtain ⟨v', w', hrun, ho, hg⟩ := run_append_arg_grows (P := P) w t ty e i0 z size bytes hE.ht hi0 hz0 hz1 hz2 hE.hzs hE.hsz b n n xs hxs.1 (fun j u hu => by
      rcases Nat.eq_zero_or_pos n with h0 | h0
      · subst h0
        have hx : xs = [] := List.eq_nil_of_length_eq_zero (by simpa using hxs.1)
        subst hx
        simp at hu
      · obtain ⟨ad', e', _, _, hc'⟩ := hxs.2 h0
        injection e' with e'
        subst e'
        exact hc' j u hu) ad m c ys hy.1 hc (by omega) (by unfold maxLen; omega) hb
    refine ⟨v', w', hrun, ?_⟩
    have ho' : w'.ownsRow 0 e size v' (n + m) (xs ++ ys) := ⟨ho.1, by
      rcases ho.2 with h2 | ⟨g, cap, cur, e1, e2, r⟩
      · exact .inl h2
      · exact .inr ⟨g, cap, cur, e1, Nat.zero_le _, r⟩⟩
    refine h.newRow ((Fr.refl _ _).grown hg (fun k hk => by cases hk)) ho' (fun g hg' => ?_)
    exact (ho.lt g hg').1
/-- as a step behind those that may be taken first -/
theorem seq_full {Q : Exit → Act → World → Prop} {S : World → Prop} {Lm : Nat} {l : List Oper} {i : Nat} {r : List Nat} {ac : Act} {o : Oper} (hE : ElemOf P t e z size bytes) (h : St M0 w L) (ho : l[i]? = some o) (hg : o.guard = none) (s x : Operand)
    (hop : o.op = .call { callee := .builtin .append, args := #[s, x], argTypes := #[t, t] }) {B : Option Addr} (hs : ac.eval s = .slice B n n) (hxs : Sl w Any size B n xs)
    (A : Option Addr) (m c : Nat) (hx : ac.eval x = .slice A m c) (ys : List Value) (hy : Sl w Any size A m ys) (h1 : ∀ u ∈ ys, u.oneCell' = true) (hm : 0 < m)
    (hb : (n + m) * bytes ≤ 140737488355328) (hn : n + m ≤ 140737488355328)
    (k : ∀ A' c' w', St M0 w' (rowR e size (.slice A' (n + m) c') (n + m) (xs ++ ys) :: L) → (i < Lm → S w') ∧ wpSeq P l.toArray Q S Lm r (ac.put o.dst (.slice A' (n + m) c')) w') : wpSeq P l.toArray Q S Lm (i :: r) ac w := by
  obtain ⟨v', w', hrun, h2⟩ := St.run_full hE h o.type hxs A m c ys hy h1 hm hb hn
  obtain ⟨A', c', rfl⟩ := h2.slice
  have hk := k A' c' w' h2
  exact seq_run ho hg (by unfold execOp; simp only [hop, resolve, invoke, builtin, Sem.run_bind, Sem.run_pure, Result.andThen_ok, List.map_toArray, List.map_cons, List.map_nil, hs, hx, hrun]) hk.1 hk.2
/-- one element more, the old ones zs they stood in another slice -/
theorem St.snocC {α : Type} {R : World → List Value → α → Prop} {zs : List α} {v old : Value} {q : Nat} {css : Nat → List Value} {cs : List Value} {x : α}
    (h : St M0 w (rowR e size v (q + 1) (flat css q ++ cs) :: persR (fun w' => RowsC w' size R old css zs) :: persR (fun w' => R w' cs x) :: L)) (hq : q = zs.length) (hc : cs.length = size) (hl : ∀ i, i < q → (css i).length = size) :
    St M0 w (persR (fun w' => RowsC w' size R v (fun i => ((flat css q ++ cs).drop (i * size)).take size) (zs ++ [x])) :: L) := by
  subst hq
  have hfl := flat_length (css := css) (n := zs.length) hl
  refine (h.freezeR.dn2.pers2 (Q := fun w' => ∀ i y, (zs ++ [x])[i]? = some y → R w' (((flat css zs.length ++ cs).drop (i * size)).take size) y) (fun w' h1 h2 i y hi => ?_)).swap.pers2 (fun w' h1 h2 => RowsC.of_own h1 (by simp) h2)
  by_cases hlt : i < zs.length
  · rw [List.getElem?_append_left hlt] at hi
    have hle : (i + 1) * size ≤ zs.length * size := Nat.mul_le_mul_right _ hlt
    rw [Nat.add_mul, Nat.one_mul] at hle
    rw [List.drop_append_of_le_length (by omega), List.take_append_of_le_length (by rw [List.length_drop]; omega), flat_at hl hlt]
    obtain ⟨_, _, _, _, _, h3⟩ := h1
    obtain ⟨_, _, _, _, h5⟩ := h3 i y hi
    exact h5
  · have hle := (List.getElem?_eq_some_iff.1 hi).1
    have hie : i = zs.length := by simp at hle; omega
    subst hie
    rw [List.getElem?_append_right (Nat.le_refl _), Nat.sub_self] at hi
    obtain rfl : x = y := by simpa using hi
    rw [← hfl, List.drop_left, ← hc, List.take_length]
    exact h2
end

end Go.Proofs.YtpaelngpmbeedaaGreatDoor
/- The comparison of two lists of bytes that stay. -/
namespace Go.Proofs.YtpaelngpmbeedaaGreatDoor
open Go.RowKit

set_option maxHeartbeats 400000 in
theorem same_q (v u : Value) (xs ys : List Int) (w : World) (hx : Ints w .u8 v xs) (hy : Ints w .u8 u ys) :
    Calls Tryz.prog 8 #[v, u] w fun e w' => e = .returned (.bool (decide (xs = ys))) ∧ ∃ n, w' = w.drewN n := by
  obtain ⟨A, c, rfl, _, hm, hsx⟩ := hx
  obtain ⟨B, d, rfl, _, hm', hsy⟩ := hy
  unfold maxLen at hm hm'
  have HX := hide hsx
  have HY := hide hsy
  clear hsx hsy
  by_cases hnm : xs.length = ys.length
  · have HN := hide hnm
    rw [← hnm]
    generalize hn : xs.length = n at *
    have HN2 := hide hn
    clear hn hnm
    go_enter Tryz.func8, Tryz.ntmps8
    go_wp2
    go_loopw [5] (fun i wr => ∃ k : Nat, k ≤ n ∧ i = .int .i64 k ∧ xs.take k = ys.take k ∧ ∃ q, wr = w.drewN q) (fun i _ => n - (intOf i).toNat)
    case atStart => exact ⟨0, Nat.zero_le _, rfl, rfl, 0, rfl⟩
    case round =>
      obtain ⟨k, hk, rfl, he, q, rfl⟩ := hrel
      have HE := hide he
      clear he
      by_cases hlt : k < n
      · have hkx : k < xs.length := by rw [HN2.out]; exact hlt
        have hky : k < ys.length := by rw [← HN.out]; exact hlt
        obtain ⟨ad, x, rfl, _, _, ex, hcx⟩ := Sl.at_ HX.out hlt
        obtain ⟨bd, y, rfl, _, _, ey, hcy⟩ := Sl.at_ HY.out hky
        rw [List.getElem?_map, List.getElem?_eq_getElem hkx] at ex
        rw [List.getElem?_map, List.getElem?_eq_getElem hky] at ey
        obtain rfl : .int .u8 xs[k] = x := by injection ex
        obtain rfl : .int .u8 ys[k] = y := by injection ey
        generalize hX : xs[k] = X at hcx
        generalize hY : ys[k] = Y at hcy
        have H1 := hide hX
        have H2 := hide hY
        clear hX hY ex ey
        by_cases hXY : X = Y
        · subst hXY
          go_wp2
          go_quiet (fail)
          go_wp2
          go_roundw
          case rel => exact ⟨k + 1, by omega, by go_num, take_succ_eq hkx hky HE.out (H1.out.trans H2.out.symm), _, rfl⟩
          case measure => simp [intOf]; omega
        · have hb := isN hXY
          go_wp2
          go_quiet (fail)
          go_wp2
          go_ret
          refine ⟨?_, _, World.drewN_drewN _ _ _⟩
          rw [decide_eq_false (by rintro rfl; exact hXY (H1.out.symm.trans H2.out))]
          rfl
      · go_wp2
        go_ret
        refine ⟨?_, q, rfl⟩
        have e1 : xs = ys := by
          have h := HE.out
          rwa [List.take_of_length_le (by rw [HN2.out]; omega), List.take_of_length_le (by rw [← HN.out]; omega)] at h
        rw [decide_eq_true e1]
        rfl
  · have hb : ((xs.length : Int) != (ys.length : Int)) = true := by rw [bne_iff_ne]; omega
    have HN := hide hnm
    clear hnm HX HY
    go_enter Tryz.func8, Tryz.ntmps8
    go_wp2
    go_ret
    refine ⟨?_, 0, rfl⟩
    rw [decide_eq_false (by rintro rfl; exact HN.out rfl)]
    rfl

theorem same_eq (v u : Value) (xs : List Int) (w : World) (hx : Ints w .u8 v xs) (hy : Ints w .u8 u xs) :
    Calls Tryz.prog 8 #[v, u] w fun e w' => e = .returned (.bool true) ∧ ∃ n, w' = w.drewN n := by
  refine (same_q v u xs xs w hx hy).mono ?_
  rintro e w' ⟨rfl, h⟩
  exact ⟨by simp, h⟩
theorem same_st {M0 : Imm} {L : List Res} (v u : Value) (xs ys : List Int) (w : World) (hx : Ints w .u8 v xs) (hy : Ints w .u8 u ys) (h : St M0 w L) :
    Calls Tryz.prog 8 #[v, u] w fun e w' => e = .returned (.bool (decide (xs = ys))) ∧ St M0 w' L := by
  refine (same_q v u xs ys w hx hy).mono ?_
  rintro e w' ⟨he, n, rfl⟩
  exact ⟨he, h.drewN n⟩
theorem same_true {M0 : Imm} {L : List Res} (v u : Value) (xs : List Int) (w : World) (hx : Ints w .u8 v xs) (hy : Ints w .u8 u xs) (h : St M0 w L) :
    Calls Tryz.prog 8 #[v, u] w fun e w' => e = .returned (.bool true) ∧ St M0 w' L := by
  refine (same_eq v u xs w hx hy).mono ?_
  rintro e w' ⟨he, n, rfl⟩
  exact ⟨he, h.drewN n⟩

end Go.Proofs.YtpaelngpmbeedaaGreatDoor
/- A range over a function whose rounds all go on, by resources. -/
namespace Go.Proofs.YtpaelngpmbeedaaGreatDoor
open Go.RowKit

/-- an object that is no cells -/
def objR (b : Nat) (o : Obj) : Res where
  holds _ w F := (∀ x, F x ↔ x = b) ∧ w.heap[b]? = some o
  lt h hb := by rw [(h.1 _).1 hb]; exact (Array.getElem?_eq_some_iff.1 h.2).1
  loc h _ _ hb := ⟨h.1, (hb _ ((h.1 _).2 rfl)).trans h.2⟩
section
variable {M0 : Imm} {w : World} {L : List Res} {b : Nat} {o : Obj}
theorem St.obj (h : St M0 w L) (i : Nat) (hi : L[i]? = some (objR b o)) : w.heap[b]? = some o := by
  obtain ⟨M, F, hx, ha⟩ := h.fact i hi
  exact hx.2
theorem St.allocO (h : St M0 w L) (o : Obj) : St M0 (w.alloc o) (objR w.heap.size o :: L) :=
  h.add (F' := (· = w.heap.size)) ((Fr.refl _ _).alloc _) (fun _ _ => ⟨fun _ => Iff.rfl, heap_alloc_new w _⟩) (fun _ hb => Nat.le_of_eq hb.symm)
theorem St.putO (h : St M0 w (objR b o :: L)) (o' : Obj) : St M0 (w.putObj b o') (objR b o' :: L) := by
  have hlt : b < w.heap.size := (Array.getElem?_eq_some_iff.1 (h.obj 0 rfl)).1
  obtain ⟨M, F, _, _, hx, _, hk⟩ := h.head
  refine hk _ _ F ⟨rfl, rfl, rfl, by simp, fun k _ hs => World.putObj_heap_other (fun e => hs ((hx.1 k).2 e))⟩ (fun _ => ⟨hx.1, World.putObj_heap_same hlt⟩) (fun _ hb => .inl hb)
end

/-- the loop's record -/
abbrev recL (fn : FuncId) (tmps : Array Value) (ps : Array Tmp) (assign body : Code) (D : Nat) (st : LoopState) : Loop := { state := st, pending := none, fn := fn, tmps := tmps, params := ps, assign := assign, body := body, defers := D }

theorem rangeFunc_st {P : Program} {g : Operand} {ps : Array Tmp} {assign body : Code} {Q : Exit → Act → World → Prop} {a : Act} {w : World} {M0 : Imm} {L : List Res} {gf : Nat} {lb : Array Value} {n : Nat}
    (hg : a.eval g = .func (.func gf) #[] lb) (eg : ∀ args w, (callFunc gf args).run P w = .ok (.enter gf args) w) (h : St M0 w L)
    (hit : ∀ (fn : FuncId) (lr D : Nat) (W1 : World), St M0 W1 (objR lr (.loop (recL fn a.tmps ps assign body D .ready)) :: objR D (.deferred (some [])) :: L) →
      CallsIn Fence.wide (n - 1) P gf (#[.func (.yield lr) #[] #[]] ++ lb) W1 fun e W2 => (∃ v, e = .returned v) ∧ ∃ L', St M0 W2 (objR lr (.loop (recL fn a.tmps ps assign body D .ready)) :: objR D (.deferred (some [])) :: L') ∧
        (∀ W3, St M0 W3 (objR D (.deferred (some [])) :: L') → Q .normal { a with defers := { target := .collected D, args := #[] } :: a.defers } W3)) :
    (Code.rangeFunc g ps assign body).wpIn Fence.wide n P Q a w := by
  refine wpIn_rangeFunc ?_
  intro fn _
  have h1 := (h.allocO (.deferred (some []))).allocO (.loop (recL fn a.tmps ps assign body w.heap.size .ready))
  rw [World.size_alloc] at h1
  refine ⟨w.heap.size + 1, [{ target := .collected w.heap.size, args := #[] }], (w.alloc (.deferred (some []))).alloc (.loop (recL fn a.tmps ps assign body w.heap.size .ready)), { target := .fn (.func gf) lb, args := #[.func (.yield (w.heap.size + 1)) #[] #[]] }, (w.alloc (.deferred (some []))).alloc (.loop (recL fn a.tmps ps assign body w.heap.size .ready)), gf,
    #[.func (.yield (w.heap.size + 1)) #[] #[]] ++ lb, (w.alloc (.deferred (some []))).alloc (.loop (recL fn a.tmps ps assign body w.heap.size .ready)), ?_, ?_, ?_, ?_, fun hd => ?_, ?_⟩
  · exact run_enterLoop_outer _ _ _ _ _
  · simp only [resolve, hg]
    simp [go_sem]
  · intro f' _
    trivial
  · simp [invoke, go_sem, eg]
  · simp [Fence.wide] at hd
  · refine (hit fn (w.heap.size + 1) w.heap.size _ h1).mono ?_
    rintro e W2 ⟨⟨v, rfl⟩, L', h2, hq⟩
    have hl := h2.obj 0 rfl
    exact ⟨none, _, run_endLoop hl (by simp), hq _ (h2.putO _).tail⟩

/-- a round that goes on -/
theorem yield_st {P : Program} {lr D : Nat} {fn : FuncId} {tmps args : Array Value} {ps : Array Tmp} {assign body : Code} {M0 : Imm} {W : World} {L : List Res} {n : Nat} (L' : List Res) (a₁ : Act)
    (h : St M0 W (objR lr (.loop (recL fn tmps ps assign body D .ready)) :: L)) (hs : args.size = ps.size)
    (hassign : ∀ (W1 : World) (K : Act → World → Prop), K a₁ W1 → assign.wpIn (Fence.wide.inRound lr) n P (Exit.then K (fun _ _ _ => False)) { tmps := (ps.zip args).foldl (fun t (p, v) => t.setIfInBounds p v) tmps, defers := [] } W1)
    (hbody : ∀ W1, St M0 W1 (objR lr (.loop (recL fn tmps ps assign body D .busy)) :: L) → body.wpIn (Fence.wide.inRound lr) n P (fun e _ W2 => e = .normal ∧ St M0 W2 (objR lr (.loop (recL fn tmps ps assign body D .busy)) :: L')) a₁ W1) :
    YieldAt Fence.wide n P lr args W fun e W2 => e = .returned (.bool true) ∧ St M0 W2 (objR lr (.loop (recL fn tmps ps assign body D .ready)) :: L') := by
  have hl := h.obj 0 rfl
  refine ⟨fn, _, assign, body, run_yield hl hs, roundIn_of_wpIn trivial (hassign W _ ⟨_, run_beginRound hl rfl, ?_⟩)⟩
  refine wpIn_mono (hbody _ (h.putO _)) ?_
  rintro e a3 W3 ⟨rfl, h3⟩
  have hl3 := h3.obj 0 rfl
  exact ⟨_, _, run_endRound none hl3, rfl, h3.putO _⟩

end Go.Proofs.YtpaelngpmbeedaaGreatDoor
/- pack.Reader. -/
namespace Go.Proofs.YtpaelngpmbeedaaGreatDoor
open Go.RowKit

def rdR (g : Nat) (r : Rd) : Res := exR fun v => starR (blkR g 168 #[v, .bool r.s]) (intsR .u8 v r.xs)
section
variable {M0 : Imm} {w : World} {L : List Res} {g : Nat}
theorem St.rd {r : Rd} (h : St M0 w (rdR g r :: L)) : ∃ A c, r.xs.length ≤ c ∧ c ≤ 9223372036854775807 ∧ St M0 w (blkR g 168 #[.slice A r.xs.length c, .bool r.s] :: intsR .u8 (.slice A r.xs.length c) r.xs :: L) := by
  obtain ⟨v, h⟩ := h.ex
  have h := h.star
  obtain ⟨A, c, rfl, h1, h2, _⟩ := h.get 1 rfl
  exact ⟨A, c, h1, h2, h⟩
theorem St.addRd {v : Value} {xs : List Int} {s : Bool} (h : St M0 w (blkR g 168 #[v, .bool s] :: intsR .u8 v xs :: L)) : St M0 w (rdR g ⟨xs, s⟩ :: L) :=
  h.addStar.addEx (f := fun v => starR (blkR g 168 #[v, .bool s]) (intsR .u8 v xs)) v
end

theorem Ints.drop {w : World} {k : IntKind} {A : Option Addr} {n c m : Nat} {xs : List Int} (h : Ints w k (.slice A n c) xs) (hm : m ≤ n) (A' : Option Addr) (hA : m < n → A' = A.map (·.add m)) : Ints w k (.slice A' (n - m) (c - m)) (xs.drop m) := by
  obtain ⟨h0, h1, h2, h3⟩ := h.sl
  have hl : (xs.drop m).length = n - m := by rw [List.length_drop]; omega
  refine ⟨A', c - m, by rw [hl], by rw [hl]; omega, by unfold maxLen; omega, by rw [List.length_map]; omega, fun hp => ?_⟩
  rw [hl] at hp
  obtain ⟨ad, e, hq, hb, hc⟩ := h3.2 (by omega)
  subst e
  refine ⟨ad.add m, by rw [hA (by omega)]; rfl, trivial, by rw [addr_block]; exact hb, fun j u hu => ?_⟩
  rw [addr_add]
  refine hc (m + j) u ?_
  rwa [List.map_drop, List.getElem?_drop] at hu

set_option maxHeartbeats 400000 in
theorem take_st {M0 : Imm} {L : List Res} (g : Nat) (r : Rd) (n : Nat) (w : World) (h : St M0 w (rdR g r :: L)) :
    Calls Tryz.prog 91 #[.pointer (some ⟨g, 0, none⟩), .int .i64 n] w fun e w' => ∃ v, e = .returned v ∧ St M0 w' (intsR .u8 v (r.take n).1 :: rdR g (r.take n).2 :: L) := by
  obtain ⟨xs, s⟩ := r
  obtain ⟨A, c, hc, hm, h⟩ := h.rd
  simp only at hc h
  unfold Rd.take
  have c0 := (h.blk 0 rfl).cell 0
  have c1 := (h.blk 0 rfl).cell 1
  have f0 := (h.blk 0 rfl).frozen 0
  have f1 := (h.blk 0 rfl).frozen 1
  have H := hide h
  clear h
  cases s with
  | true =>
    rw [if_pos (.inl rfl)]
    go_enter Tryz.func91, Tryz.ntmps91
    go_wp2
    go_ret
    refine ⟨_, rfl, ?_⟩
    have h := (((H.out.del1).set_ 1 (.bool true)).set_ 0 (.slice none 0 0)).pers0 (R := fun w' => Ints w' .u8 (.slice none 0 0) []) (fun w' _ => Ints.none_ w' _)
    exact (St.addRd ((h.copy 0 rfl).up2)).swap
  | false =>
    by_cases hlt : xs.length < n
    · rw [if_pos (.inr hlt)]
      go_enter Tryz.func91, Tryz.ntmps91
      go_wp2
      go_ret
      refine ⟨_, rfl, ?_⟩
      have h := (((H.out.del1).set_ 1 (.bool true)).set_ 0 (.slice none 0 0)).pers0 (R := fun w' => Ints w' .u8 (.slice none 0 0) []) (fun w' _ => Ints.none_ w' _)
      exact (St.addRd ((h.copy 0 rfl).up2)).swap
    · rw [if_neg (by simp; omega)]
      have key : ∀ A' : Option Addr, (n < xs.length → A' = A.map (·.add n)) → St M0 ((w.setCell ⟨g, 1, none⟩ (.bool false)).setCell ⟨g, 0, none⟩ (.slice A' (xs.length - n) (c - n))) (intsR .u8 (.slice A n c) (xs.take n) :: rdR g ⟨xs.drop n, false⟩ :: L) := by
        intro A' hA'
        have h := ((H.out.set_ 1 (.bool false)).set_ 0 (.slice A' (xs.length - n) (c - n))).swap
        have h1 := ((h.copy 0 rfl).pers1 (R' := fun w' => Ints w' .u8 (.slice A n c) (xs.take n)) (fun w' h => h.cut (by omega)))
        have h2 := h1.swap.pers1 (R' := fun w' => Ints w' .u8 (.slice A' (xs.length - n) (c - n)) (xs.drop n)) (fun w' h => h.drop (by omega) _ hA')
        exact (St.addRd h2.up2).swap
      have HK := hide key
      clear key
      go_enter Tryz.func91, Tryz.ntmps91
      go_wp2
      all_goals
        go_ret
        first
        | exact ⟨_, rfl, HK.out _ (fun _ => rfl)⟩
        | (obtain rfl : c = n := by omega
           have h1 := HK.out A (fun _ => by omega)
           rw [Nat.sub_self] at h1
           exact ⟨_, rfl, h1⟩)

theorem or_shift (a c : Int) (k : Nat) (ha : 0 ≤ a) (h1 : a < 256 ^ k) (hc : 0 ≤ c) (hk : k < 8) (h2 : c ≤ 255) : bits .or .u64 a (IntKind.u64.wrap (c * 2 ^ (8 * k))) = a + c * 256 ^ k := by
  obtain ⟨A, rfl⟩ := Int.eq_ofNat_of_zero_le ha
  obtain ⟨C, rfl⟩ := Int.eq_ofNat_of_zero_le hc
  have hp : (256 : Int) ^ k = ((2 ^ (8 * k) : Nat) : Int) := by
    rw [Nat.pow_mul]; simp
  rw [hp] at h1 ⊢
  have hpk : (2 : Nat) ^ (8 * k) ≤ 2 ^ 56 := Nat.pow_le_pow_right (by omega) (by omega)
  have hC : C * 2 ^ (8 * k) ≤ 255 * 2 ^ 56 := Nat.mul_le_mul (by omega) hpk
  have e1 : (C : Int) * 2 ^ (8 * k) = ((C * 2 ^ (8 * k) : Nat) : Int) := by simp
  have e2 : (C : Int) * ((2 ^ (8 * k) : Nat) : Int) = ((C * 2 ^ (8 * k) : Nat) : Int) := by simp
  rw [e1, e2, IntWalk.u64_in _ (by omega), u64_or_nat A _ (by omega) (by omega)]
  have := Nat.two_pow_add_eq_or_of_lt (i := 8 * k) (b := A) (by omega) C
  rw [Nat.or_comm, Nat.mul_comm C, ← this]
  omega

set_option maxHeartbeats 1000000 in
theorem rdnum_st {M0 : Imm} {L : List Res} (g : Nat) (r : Rd) (size : Int) (w : World) (hb : Bytes r.xs) (hl : r.xs.length ≤ 140737488355328) (hz : r.s = true → r.xs = []) (h : St M0 w (rdR g r :: L)) :
    Calls Tryz.prog 49 #[.pointer (some ⟨g, 0, none⟩), .int .i64 size] w fun e w' => e = .returned (.int .u64 (r.num size).1) ∧ St M0 w' (rdR g (r.num size).2 :: L) := by
  obtain ⟨k, hk⟩ : ∃ k, k = r.size size := ⟨_, rfl⟩
  have hks : (size < 1 ∨ 8 < size → k = r.xs.length + 1) ∧ (1 ≤ size → size ≤ 8 → (k : Int) = size) := by
    subst hk
    unfold Rd.size
    split <;> omega
  have hlen : (r.take k).1.length ≤ 8 := by
    have := r.take_len k
    rcases (by omega : (size < 1 ∨ 8 < size) ∨ 1 ≤ size ∧ size ≤ 8) with h1 | h1
    · unfold Rd.take
      have := hks.1 h1
      rw [if_pos (.inr (by omega))]
      simp
    · have := hks.2 h1.1 h1.2
      omega
  have hby := (r.take_xs k hb).1
  have T := hide (fun w (h : St M0 w (rdR g r :: L)) => take_st g r k w h)
  unfold Rd.num
  rw [← hk]
  have HK := hide hk
  generalize (r.take k).1 = out at *
  generalize (r.take k).2 = r2 at *
  clear hk
  obtain ⟨xs, s⟩ := r
  obtain ⟨A, c, hc, hm, h1⟩ := h.rd
  simp only at hc h1 hb hl hz hks
  have c0 := (h1.blk 0 rfl).cell 0
  have H := hide h
  clear h h1
  rcases (by omega : size < 1 ∨ 8 < size ∨ (1 ≤ size ∧ size ≤ 8)) with h1 | h1 | ⟨h1, h8⟩
  · obtain rfl := hks.1 (.inl h1)
    go_enter Tryz.func49, Tryz.ntmps49
    go_wp2_with fail
    refine (T.out _ H.out).mono ?_
    rintro e w1 ⟨v, rfl, h⟩
    clear T H c0
    obtain ⟨A2, c2, rfl, _, _, _⟩ := h.get 0 rfl
    generalize ho : out.length = q at *
    have HO := hide ho
    have H := hide h
    clear ho h
    go_wp2_with fail
    go_loop [5, 24] (fun x i => ∃ j : Nat, j ≤ q ∧ i = .int .i64 j ∧ x = .int .u64 (ofB (out.take j))) (fun _ i => q - (intOf i).toNat)
    case atStart => exact ⟨0, Nat.zero_le _, rfl, rfl⟩
    case round =>
      obtain ⟨j, hj, rfl, rfl⟩ := hrel
      by_cases hlt : j < q
      · have hx := List.getElem?_eq_getElem (l := out) (i := j) (by rw [HO.out]; exact hlt)
        generalize out[j]'(by rw [HO.out]; exact hlt) = x at hx
        obtain ⟨ad, u, rfl, _, _, hu, hcu⟩ := (H.out.get 0 rfl).sl.2.2.2.at_ hlt
        rw [List.getElem?_map, hx] at hu
        obtain rfl : Value.int .u8 x = u := by simpa using hu
        have hxb : isByte x := hby x (List.mem_of_getElem? hx)
        unfold isByte at hxb
        obtain ⟨hx0, hx1⟩ := hxb
        have hr := ofB_range (hby.take j)
        have htl : (out.take j).length = j := by rw [List.length_take, HO.out]; omega
        rw [htl] at hr
        have hsn := ofB_snoc (out.take j) x
        rw [htl, show out.take j ++ [x] = out.take (j + 1) by rw [List.take_add_one, hx]; rfl] at hsn
        have HS := hide hsn
        have ho := or_shift (ofB (out.take j)) x j hr.1 hr.2 hx0 (by omega) hx1
        generalize ofB (out.take j) = a at *
        have w8 : IntKind.i64.wrap (8 * (j : Int)) = 8 * (j : Int) := IntWalk.i64_in _ (by omega)
        have w0 : (0 : Int) ≤ 8 * (j : Int) := by omega
        have wl : 8 * (j : Int) ≤ 64 := by omega
        have w2 : (8 * (j : Int)).toNat = 8 * j := by omega
        clear hsn hx hu hr htl
        go_wp2
        go_round
        case rel => exact ⟨j + 1, by omega, by go_num, by rw [HS.out]⟩
        case measure => simp [intOf]; omega
      · obtain rfl : j = q := by omega
        have e : out.take j = out := List.take_of_length_le (by rw [HO.out]; exact Nat.le_refl _)
        rw [e]
        clear e
        go_wp2
        go_ret
        exact ⟨rfl, H.out.tail⟩
  · obtain rfl := hks.1 (.inr h1)
    have h1' : ¬ size < 1 := by omega
    go_enter Tryz.func49, Tryz.ntmps49
    go_wp2_with fail
    refine (T.out _ H.out).mono ?_
    rintro e w1 ⟨v, rfl, h⟩
    clear T H c0
    obtain ⟨A2, c2, rfl, _, _, _⟩ := h.get 0 rfl
    generalize ho : out.length = q at *
    have HO := hide ho
    have H := hide h
    clear ho h
    go_wp2_with fail
    go_loop [5, 24] (fun x i => ∃ j : Nat, j ≤ q ∧ i = .int .i64 j ∧ x = .int .u64 (ofB (out.take j))) (fun _ i => q - (intOf i).toNat)
    case atStart => exact ⟨0, Nat.zero_le _, rfl, rfl⟩
    case round =>
      obtain ⟨j, hj, rfl, rfl⟩ := hrel
      by_cases hlt : j < q
      · have hx := List.getElem?_eq_getElem (l := out) (i := j) (by rw [HO.out]; exact hlt)
        generalize out[j]'(by rw [HO.out]; exact hlt) = x at hx
        obtain ⟨ad, u, rfl, _, _, hu, hcu⟩ := (H.out.get 0 rfl).sl.2.2.2.at_ hlt
        rw [List.getElem?_map, hx] at hu
        obtain rfl : Value.int .u8 x = u := by simpa using hu
        have hxb : isByte x := hby x (List.mem_of_getElem? hx)
        unfold isByte at hxb
        obtain ⟨hx0, hx1⟩ := hxb
        have hr := ofB_range (hby.take j)
        have htl : (out.take j).length = j := by rw [List.length_take, HO.out]; omega
        rw [htl] at hr
        have hsn := ofB_snoc (out.take j) x
        rw [htl, show out.take j ++ [x] = out.take (j + 1) by rw [List.take_add_one, hx]; rfl] at hsn
        have HS := hide hsn
        have ho := or_shift (ofB (out.take j)) x j hr.1 hr.2 hx0 (by omega) hx1
        generalize ofB (out.take j) = a at *
        have w8 : IntKind.i64.wrap (8 * (j : Int)) = 8 * (j : Int) := IntWalk.i64_in _ (by omega)
        have w0 : (0 : Int) ≤ 8 * (j : Int) := by omega
        have wl : 8 * (j : Int) ≤ 64 := by omega
        have w2 : (8 * (j : Int)).toNat = 8 * j := by omega
        clear hsn hx hu hr htl
        go_wp2
        go_round
        case rel => exact ⟨j + 1, by omega, by go_num, by rw [HS.out]⟩
        case measure => simp [intOf]; omega
      · obtain rfl : j = q := by omega
        have e : out.take j = out := List.take_of_length_le (by rw [HO.out]; exact Nat.le_refl _)
        rw [e]
        clear e
        go_wp2
        go_ret
        exact ⟨rfl, H.out.tail⟩
  · obtain rfl := hks.2 h1 h8
    have h1' : ¬ (k : Int) < 1 := by omega
    have h8' : ¬ 8 < (k : Int) := by omega
    go_enter Tryz.func49, Tryz.ntmps49
    go_wp2_with fail
    refine (T.out _ H.out).mono ?_
    rintro e w1 ⟨v, rfl, h⟩
    clear T H c0
    obtain ⟨A2, c2, rfl, _, _, _⟩ := h.get 0 rfl
    generalize ho : out.length = q at *
    have HO := hide ho
    have H := hide h
    clear ho h
    go_wp2_with fail
    go_loop [5, 24] (fun x i => ∃ j : Nat, j ≤ q ∧ i = .int .i64 j ∧ x = .int .u64 (ofB (out.take j))) (fun _ i => q - (intOf i).toNat)
    case atStart => exact ⟨0, Nat.zero_le _, rfl, rfl⟩
    case round =>
      obtain ⟨j, hj, rfl, rfl⟩ := hrel
      by_cases hlt : j < q
      · have hx := List.getElem?_eq_getElem (l := out) (i := j) (by rw [HO.out]; exact hlt)
        generalize out[j]'(by rw [HO.out]; exact hlt) = x at hx
        obtain ⟨ad, u, rfl, _, _, hu, hcu⟩ := (H.out.get 0 rfl).sl.2.2.2.at_ hlt
        rw [List.getElem?_map, hx] at hu
        obtain rfl : Value.int .u8 x = u := by simpa using hu
        have hxb : isByte x := hby x (List.mem_of_getElem? hx)
        unfold isByte at hxb
        obtain ⟨hx0, hx1⟩ := hxb
        have hr := ofB_range (hby.take j)
        have htl : (out.take j).length = j := by rw [List.length_take, HO.out]; omega
        rw [htl] at hr
        have hsn := ofB_snoc (out.take j) x
        rw [htl, show out.take j ++ [x] = out.take (j + 1) by rw [List.take_add_one, hx]; rfl] at hsn
        have HS := hide hsn
        have ho := or_shift (ofB (out.take j)) x j hr.1 hr.2 hx0 (by omega) hx1
        generalize ofB (out.take j) = a at *
        have w8 : IntKind.i64.wrap (8 * (j : Int)) = 8 * (j : Int) := IntWalk.i64_in _ (by omega)
        have w0 : (0 : Int) ≤ 8 * (j : Int) := by omega
        have wl : 8 * (j : Int) ≤ 64 := by omega
        have w2 : (8 * (j : Int)).toNat = 8 * j := by omega
        clear hsn hx hu hr htl
        go_wp2
        go_round
        case rel => exact ⟨j + 1, by omega, by go_num, by rw [HS.out]⟩
        case measure => simp [intOf]; omega
      · obtain rfl : j = q := by omega
        have e : out.take j = out := List.take_of_length_le (by rw [HO.out]; exact Nat.le_refl _)
        rw [e]
        clear e
        go_wp2
        go_ret
        exact ⟨rfl, H.out.tail⟩

theorem Rd.num_facts (r : Rd) (size : Int) (hb : Bytes r.xs) (_hl : r.xs.length ≤ 140737488355328) : Bytes (r.num size).2.xs ∧ (r.num size).2.xs.length ≤ r.xs.length ∧ 0 ≤ (r.num size).1 ∧ (r.num size).1 < 18446744073709551616 := by
  have h1 := r.take_xs (r.size size) hb
  have h2 := r.take_len (r.size size)
  have h3 := ofB_range h1.1
  refine ⟨h1.2, h2.2.2, h3.1, Int.lt_of_lt_of_le h3.2 (pow_le_8 ?_)⟩
  unfold Rd.size at h2 ⊢
  split at h2
  · rename_i h
    rw [if_pos h]
    unfold Rd.take
    rw [if_pos (.inr (by omega))]
    simp
  · rename_i h
    rw [if_neg h]
    omega
theorem Rd.take_s (r : Rd) (n : Nat) : (r.take n).2.s = true → (r.take n).2.xs = [] := by
  unfold Rd.take
  split
  · intro _; rfl
  · intro h; cases h
theorem Rd.num_2 (r : Rd) (hb : Bytes r.xs) : (r.num 2).1 < 65536 := by
  have h1 := r.take_xs (r.size 2) hb
  have h2 := r.take_len (r.size 2)
  have h3 := ofB_range h1.1
  have h4 : (r.take (r.size 2)).1.length ≤ 2 := h2.1
  refine Int.lt_of_lt_of_le h3.2 ?_
  have : ∀ k, k ≤ 2 → (256 : Int) ^ k ≤ 65536 := by decide
  exact this _ h4

theorem rdend_st {M0 : Imm} {L : List Res} (g : Nat) (r : Rd) (w : World) (h : St M0 w (rdR g r :: L)) :
    Calls Tryz.prog 51 #[.pointer (some ⟨g, 0, none⟩)] w fun e w' => e = .returned (.int .i64 r.endE) ∧ St M0 w' (rdR g r :: L) := by
  obtain ⟨xs, s⟩ := r
  obtain ⟨A, c, hc, hm, h1⟩ := h.rd
  have c0 := (h1.blk 0 rfl).cell 0
  have c1 := (h1.blk 0 rfl).cell 1
  simp only at hc c0 c1
  have H := hide h
  clear h1 h
  unfold Rd.endE
  cases s with
  | true =>
    go_enter Tryz.func51, Tryz.ntmps51
    go_wp2
    go_ret
    exact ⟨rfl, H.out⟩
  | false =>
    by_cases h0 : 0 < xs.length
    · go_enter Tryz.func51, Tryz.ntmps51
      go_wp2
      go_ret
      exact ⟨by simp, H.out⟩
    · go_enter Tryz.func51, Tryz.ntmps51
      go_wp2
      go_ret
      exact ⟨by simp, H.out⟩

set_option maxHeartbeats 400000 in
theorem read_st {M0 : Imm} {L : List Res} (v : Value) (xs : List Int) (w : World) (h : St M0 w (intsR .u8 v xs :: L)) :
    Calls Tryz.prog 48 #[v] w fun e w' => ∃ g, e = .returned (.pointer (some ⟨g, 0, none⟩)) ∧ St M0 w' (rdR g ⟨xs, false⟩ :: intsR .u8 v xs :: L) := by
  obtain ⟨A, c, rfl, _, _, _⟩ := h.get 0 rfl
  have H := hide h
  clear h
  go_enter Tryz.func48, Tryz.ntmps48
  go_wp2
  go_ret
  exact ⟨w.heap.size, rfl, St.addRd (((H.out.copy 0 rfl).alloc 168 #[.slice A xs.length c, .bool false]))⟩

structure Rd.Ok (r : Rd) : Prop where
  hb : Bytes r.xs
  hl : r.xs.length ≤ 140737488355328
  hz : r.s = true → r.xs = []
theorem Rd.Ok.take {r : Rd} (h : r.Ok) (n : Nat) : (r.take n).2.Ok :=
  ⟨(r.take_xs n h.hb).2, Nat.le_trans (r.take_len n).2.2 h.hl, r.take_s n⟩
theorem Rd.Ok.num {r : Rd} (h : r.Ok) (size : Int) : (r.num size).2.Ok := h.take _
theorem Rd.Ok.byt {r : Rd} (h : r.Ok) : r.byt.2.Ok := (h.num 2).take _
theorem Rd.num_lt (r : Rd) (hb : Bytes r.xs) (m : Nat) (hm : m ≤ 8) (h1 : 1 ≤ m) : 0 ≤ (r.num m).1 ∧ (r.num m).1 < 256 ^ m := by
  have h1' := r.take_xs (r.size m) hb
  have h2 := r.take_len (r.size m)
  have h3 := ofB_range h1'.1
  have hs : r.size (m : Int) = m := by
    unfold Rd.size
    rw [if_neg (by omega), Int.toNat_natCast]
  have h4 : (r.take (r.size m)).1.length ≤ m := by have := h2.1; rw [hs] at this ⊢; exact this
  refine ⟨h3.1, Int.lt_of_lt_of_le h3.2 ?_⟩
  have : ∀ m, m ≤ 8 → ∀ k, k ≤ m → (256 : Int) ^ k ≤ 256 ^ m := by decide
  exact this m hm _ h4
theorem Rd.num1_lt {r : Rd} (h : r.Ok) : 0 ≤ (r.num 1).1 ∧ (r.num 1).1 < 256 := r.num_lt h.hb 1 (by omega) (by omega)
theorem Rd.num4_lt {r : Rd} (h : r.Ok) : 0 ≤ (r.num 4).1 ∧ (r.num 4).1 < 4294967296 := r.num_lt h.hb 4 (by omega) (by omega)
theorem Rd.num8_lt {r : Rd} (h : r.Ok) : 0 ≤ (r.num 8).1 ∧ (r.num 8).1 < 18446744073709551616 := r.num_lt h.hb 8 (by omega) (by omega)
theorem numB_cons (n : Int) (k : Nat) : numB n (k + 1) = n % 256 :: numB (n / 256) k := by
  unfold numB
  rw [List.range_succ_eq_map, List.map_cons, List.map_map]
  congr 1
  · simp
  · apply List.map_congr_left
    intro i _
    simp only [Function.comp]
    rw [Nat.succ_eq_add_one, Int.pow_succ, Int.mul_comm, ← Int.ediv_ediv_of_nonneg (by omega)]
theorem ofB_numB (n : Nat) (k : Nat) : ofB (numB n k) = ((n % 256 ^ k : Nat) : Int) := by
  induction k generalizing n with
  | zero => simp [numB_zero, ofB, Nat.mod_one]
  | succ k ih =>
    rw [numB_cons, ofB, show (n : Int) / 256 = ((n / 256 : Nat) : Int) by omega, ih, Nat.pow_succ, Nat.mul_comm (256 ^ k), Nat.mod_mul]
    omega
theorem numB_ofB {t : List Int} (h : Bytes t) : numB (ofB t) t.length = t := by
  induction t with
  | nil => rfl
  | cons x r ih =>
    have hx := h x List.mem_cons_self
    unfold isByte at hx
    rw [List.length_cons, numB_cons, ofB]
    rw [show (x + 256 * ofB r) % 256 = x by omega, show (x + 256 * ofB r) / 256 = ofB r by omega, ih (fun y hy => h y (List.mem_cons_of_mem _ hy))]
theorem Rd.take_append (a b : List Int) : Rd.take ⟨a ++ b, false⟩ a.length = (a, ⟨b, false⟩) := by
  unfold Rd.take
  rw [if_neg (by simp), List.take_left, List.drop_left]
theorem Rd.num_append (n : Nat) (k : Nat) (h1 : 1 ≤ k) (h8 : k ≤ 8) (b : List Int) : Rd.num ⟨numB n k ++ b, false⟩ (k : Int) = (((n % 256 ^ k : Nat) : Int), ⟨b, false⟩) := by
  have e : Rd.size ⟨numB n k ++ b, false⟩ (k : Int) = (numB (n : Int) k).length := by
    unfold Rd.size
    rw [if_neg (by omega), numB_length]
    omega
  unfold Rd.num
  rw [e, Rd.take_append, ofB_numB]
theorem Rd.take_good {r : Rd} {n : Nat} (h : (r.take n).2.s = false) : r.s = false ∧ r.xs = (r.take n).1 ++ (r.take n).2.xs ∧ (r.take n).1.length = n := by
  unfold Rd.take at h ⊢
  split at h
  · cases h
  · rename_i hc
    rw [if_neg hc]
    have h1 : r.s = false := by
      cases hs : r.s with
      | false => rfl
      | true => exact absurd (.inl hs) hc
    refine ⟨h1, (List.take_append_drop n r.xs).symm, ?_⟩
    have : ¬ r.xs.length < n := fun hh => hc (.inr hh)
    show (r.xs.take n).length = n
    rw [List.length_take]
    omega
theorem Rd.num_good {r : Rd} {m : Nat} (hb : Bytes r.xs) (h1 : 1 ≤ m) (h8 : m ≤ 8) (h : (r.num (m : Int)).2.s = false) : r.s = false ∧ r.xs = numB (r.num (m : Int)).1 m ++ (r.num (m : Int)).2.xs ∧ 0 ≤ (r.num (m : Int)).1 := by
  have e : Rd.size r (m : Int) = m := by
    unfold Rd.size
    rw [if_neg (by omega)]
    omega
  unfold Rd.num at h ⊢
  simp only [e] at h ⊢
  obtain ⟨g1, g2, g3⟩ := Rd.take_good h
  have hbt := (r.take_xs m hb).1
  have := numB_ofB hbt
  rw [g3] at this
  exact ⟨g1, by rw [this]; exact g2, (ofB_range hbt).1⟩
end Go.Proofs.YtpaelngpmbeedaaGreatDoor
