/- Words for the document's Do. Printed by gen_rima.py. -/
import Derived.Test.YtbnjeekhoaapiaaRimK2
namespace Go.Proofs.Ytbnjeekhoaapiaa
open Go.RowKit

theorem one_log {w : World} {v : Value} {b : List Int} (h : Ints w .u8 v b) : ∀ (i : Nat) x, [b][i]? = some x → LogR w (([v].drop (i * 1)).take 1) x := by
  intro i x hx
  match i, hx with
  | 0, hx =>
    obtain rfl : b = x := by simpa using hx
    exact ⟨v, rfl, h⟩
  | i + 1, hx => simp at hx
theorem build_log (w : World) (A : Option Addr) (n c : Nat) : (Instr.buildSlice 41 1 #[(0, .slice A n c)]).run Try.prog w = .ok (.slice (some ⟨w.heap.size, 0, none⟩) 1 1) (w.alloc (.cells #[.slice A n c] 60)) := by kernel_rfl
theorem logs_elem : ElemOf Try.prog 41 60 (.slice none 0 0) 1 24 := ⟨Try.underlying41, by kernel_rfl, by kernel_rfl, by omega⟩
theorem RowsC.dropC {α : Type} {w : World} {size : Nat} {R : World → List Value → α → Prop} {A A' : Option Addr} {n c m : Nat} {css : Nat → List Value} {xs : List α} (h : RowsC w size R (.slice A n c) css xs) (hm : m ≤ n) (hA : m < n → A' = A.map (·.add (m * size))) :
    RowsC w size R (.slice A' (n - m) (c - m)) (fun i => css (i + m)) (xs.drop m) := by
  obtain ⟨A0, c0, e, h1, h2, h3⟩ := h
  injection e with e1 e2 e3
  subst e1; subst e2; subst e3
  refine ⟨A', c - m, by rw [List.length_drop], by rw [List.length_drop]; omega, by omega, fun i x hi => ?_⟩
  rw [List.getElem?_drop] at hi
  have hlt := (List.getElem?_eq_some_iff.1 hi).1
  obtain ⟨ad, hA0, hl, hc, hr⟩ := h3 (m + i) x hi
  rw [Nat.add_comm m i] at hl hc hr
  refine ⟨ad.add (m * size), by rw [hA (by omega), hA0]; rfl, hl, fun j u hu => ?_, hr⟩
  have e : m * size + (i * size + j) = (i + m) * size + j := by rw [Nat.add_mul]; omega
  rw [addr_add, addr_add, e, ← addr_add]
  exact hc j u hu
theorem St.noRows {α : Type} {M0 : Imm} {w : World} {L : List Res} (h : St M0 w L) (size : Nat) (R : World → List Value → α → Prop) : St M0 w (rowsR size R (.slice none 0 0) [] :: L) :=
  St.addEx (f := fun css => persR (fun w => RowsC w size R (.slice none 0 0) css [])) (fun _ => []) (h.pers0 (fun _ _ => RowsC.none_ _ _ _ _))
theorem upd_two (m : Nat → Rg) (k : Nat) (h q : Int) : upd (upd m k { m k with high := h }) k { upd m k { m k with high := h } k with seq := q } = upd m k ⟨h, q, (m k).b, (m k).log⟩ := by
  rw [upd_upd, upd_at]
theorem act_put (x : Rg) (a k : Int) (j : Nat) (t q : Int) (d : List Int) (ha : a = 2) : x.act ⟨a, k, j, t, q, d⟩ = ⟨t, q, upd x.b j d, x.log⟩ := by
  subst ha
  simp [Rg.act]
theorem act_more (x : Rg) (a k : Int) (j : Nat) (t q : Int) (d : List Int) (ha : a = 4) : x.act ⟨a, k, j, t, q, d⟩ = ⟨t, q, x.b, x.log ++ [d]⟩ := by
  subst ha
  simp [Rg.act]
theorem act_less (x : Rg) (a k : Int) (j : Nat) (t q : Int) (d : List Int) (ha : a = 5) : x.act ⟨a, k, j, t, q, d⟩ = ⟨t, q, x.b, x.log.drop j⟩ := by
  subst ha
  simp [Rg.act]
theorem out_none (x : Rg) (a k : Int) (j : Nat) (t q : Int) (d : List Int) (h1 : a ≠ 1) (h3 : a ≠ 3) : x.out ⟨a, k, j, t, q, d⟩ = [] := (if_neg h1).trans (if_neg h3)
end Go.Proofs.Ytbnjeekhoaapiaa
