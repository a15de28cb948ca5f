/- Slices that grow, as single operations of a region. -/
import Derived.Test.YtbgknfdaaffeaaaFlow
import Derived.Test.YtbgknfdaaffeaaaStFlat
namespace Go.Proofs.Ytbgknfdaaffeaaa
open Go.RowKit

section
variable {α : Type} {P : Program} {M0 : Imm} {w : World} {L : List Res} {t e : TypeId} {z : Value} {size bytes : Nat} {R : World → List Value → α → Prop} {A : Option Addr} {q c : Nat} {xs : List α}
/-- a slice without room, made just before -/
theorem St.emptyGrow (h : St M0 w L) (e : TypeId) (size : Nat) (R : World → List Value → α → Prop) : St M0 (w.alloc (.cells #[] e)) (growR e size R (.slice (some ⟨w.heap.size, 0, none⟩) 0 0) [] :: L) := by
  refine St.addEx (f := fun vs => starR (rowR e size (.slice (some ⟨w.heap.size, 0, none⟩) 0 0) ([] : List α).length vs) (persR (fun w => ∀ (i : Nat) x, ([] : List α)[i]? = some x → R w ((vs.drop (i * size)).take size) x))) [] (St.addStar ?_)
  have h1 := h.litRow e size 0 [] (by simp) (by omega) w.heap.size rfl
  exact (h1.pers0 (fun w' _ i x hi => by simp at hi)).swap
/-- one more -/
theorem St.grow1 {cs : List Value} {x : α} (hE : ElemOf P t e z size bytes) (h : St M0 w (growR e size R (.slice A q c) xs :: persR (fun w => R w cs x) :: L)) (ty : TypeId) (a : Addr) (k : Nat) (hc : Sl w Any size (some a) 1 cs) (h1 : ∀ u ∈ cs, u.oneCell' = true) (hl : cs.length = size)
    (hb : (q + 1) * bytes ≤ 140737488355328) (hn : q + 1 ≤ 140737488355328) :
    ∃ A' c' w', (Builtin.append_ #[t, t] ty #[.slice A q c, .slice (some a) 1 k]).run P w = .ok (.slice A' (q + 1) c') w' ∧ St M0 w' (growR e size R (.slice A' (q + 1) c') (xs ++ [x]) :: L) := by
  obtain ⟨vs, hq, hxl, h2⟩ := h.openGrowS
  obtain ⟨v', w', hr, h3⟩ := h2.run_app hE ty (some a) 1 k cs hc h1 hb hn
  obtain ⟨A', c', rfl⟩ := h3.slice
  exact ⟨A', c', w', hr, h3.snocGrow hq hl hxl⟩
/-- all of another one -/
theorem St.growAll {ys : List α} {B : Option Addr} {m k : Nat} {css : Nat → List Value} (hE : ElemOf P t e z size bytes) (h : St M0 w (growR e size R (.slice A q c) xs :: persR (fun w' => RowsC w' size R (.slice B m k) css ys) :: L)) (ty : TypeId) (h1 : ∀ u ∈ flat css m, u.oneCell' = true)
    (hb : (q + m) * bytes ≤ 140737488355328) (hn : q + m ≤ 140737488355328) :
    ∃ A' c' w', (Builtin.append_ #[t, t] ty #[.slice A q c, .slice B m k]).run P w = .ok (.slice A' (q + m) c') w' ∧ St M0 w' (growR e size R (.slice A' (q + m) c') (xs ++ ys) :: L) := by
  obtain ⟨vs, hq, hxl, h2⟩ := h.openGrowS
  obtain ⟨hsl, hm, hmk, _, hcs⟩ := (h2.get 2 rfl).sl hE.hsz
  obtain ⟨v', w', hr, h3⟩ := h2.run_app hE ty B m k (flat css m) hsl h1 hb hn
  obtain ⟨A', c', rfl⟩ := h3.slice
  refine ⟨A', c', w', hr, ?_⟩
  have hlen : (xs ++ ys).length = q + m := by rw [List.length_append, ← hq, ← hm]
  refine St.addEx (f := fun vs => starR (rowR e size (.slice A' (q + m) c') (xs ++ ys).length vs) (persR (fun w => ∀ (i : Nat) x, (xs ++ ys)[i]? = some x → R w ((vs.drop (i * size)).take size) x))) (vs ++ flat css m) (St.addStar ?_)
  rw [hlen]
  refine (h3.dn2.pers2 (fun w' g1 g2 i x hi => ?_)).swap
  by_cases hiq : i < xs.length
  · rw [List.getElem?_append_left hiq] at hi
    have hle : (i + 1) * size ≤ q * size := Nat.mul_le_mul_right _ (by omega)
    rw [Nat.add_mul, Nat.one_mul] at hle
    have := g1 i x hi
    rwa [List.drop_append_of_le_length (by omega), List.take_append_of_le_length (by rw [List.length_drop]; omega)]
  · rw [List.getElem?_append_right (Nat.le_of_not_lt hiq)] at hi
    have hlt := (List.getElem?_eq_some_iff.1 hi).1
    have e1 : i * size = vs.length + (i - xs.length) * size := by
      rw [hxl, ← Nat.add_mul]
      congr 1
      omega
    rw [e1, List.drop_append, List.drop_eq_nil_of_le (by omega), List.nil_append, Nat.add_sub_cancel_left, flat_at hcs (by omega)]
    obtain ⟨A2, c2, _, _, _, h5⟩ := g2
    obtain ⟨_, _, _, _, h6⟩ := h5 _ x hi
    exact h6
end
end Go.Proofs.Ytbgknfdaaffeaaa
