/- append to a slice that is full: a new row; slices.Clip. -/
import Derived.Test.YtbgknfdaaffeaaaStFlat
import Derived.ArgAppend
namespace Go.Proofs.Ytbgknfdaaffeaaa
open Go.RowKit

section
variable {P : Program} {M0 : Imm} {w w' : World} {L : List Res} {t e : TypeId} {z : Value} {size bytes : Nat} {n : Nat} {xs : List Value}
theorem St.run_full (hE : ElemOf P t e z size bytes) (h : St M0 w L) (ty : TypeId) {B : Option Addr} (hxs : Sl w Any size B n xs) (A : Option Addr) (m c : Nat) (ys : List Value) (hy : Sl w Any size A m ys) (h1 : ∀ u ∈ ys, u.oneCell' = true) (hm : 0 < m)
    (hb : (n + m) * bytes ≤ 140737488355328) (hn : n + m ≤ 140737488355328) :
    ∃ v' w', (Builtin.append_ #[t, t] ty #[.slice B n n, .slice A m c]).run P w = .ok v' w' ∧ St M0 w' (rowR e size v' (n + m) (xs ++ ys) :: L) := by
  rcases B with _ | b
  · have h0 : n = 0 := by
      rcases Nat.eq_zero_or_pos n with h0 | h0
      · exact h0
      · obtain ⟨ad, h, _⟩ := hxs.2 h0
        cases h
    subst h0
    have hx : xs = [] := List.eq_nil_of_length_eq_zero (by simpa using hxs.1)
    subst hx
    exact St.run_app hE (h.nilRow e size) ty A m c ys hy h1 hb hn
  · obtain ⟨i0, hi0, hz0, hz1, hz2⟩ := info_parts hE.hinfo
    obtain ⟨ad, rfl, _, hlt, hc⟩ := hy.2 hm
    obtain ⟨v', w', hrun, ho, hg⟩ := run_append_arg_grows (P := P) w t ty e i0 z size bytes hE.ht hi0 hz0 hz1 hz2 hE.hzs hE.hsz b n n xs hxs.1 (fun j u hu => by
      rcases Nat.eq_zero_or_pos n with h0 | h0
      · subst h0
        have hx : xs = [] := List.eq_nil_of_length_eq_zero (by simpa using hxs.1)
        subst hx
        simp at hu
      · obtain ⟨ad', e', _, _, hc'⟩ := hxs.2 h0
        injection e' with e'
        subst e'
        exact hc' j u hu) ad m c ys hy.1 hc (by omega) (by unfold maxLen; omega) hb
    refine ⟨v', w', hrun, ?_⟩
    have ho' : w'.ownsRow 0 e size v' (n + m) (xs ++ ys) := ⟨ho.1, by
      rcases ho.2 with h2 | ⟨g, cap, cur, e1, e2, r⟩
      · exact .inl h2
      · exact .inr ⟨g, cap, cur, e1, Nat.zero_le _, r⟩⟩
    refine h.newRow ((Fr.refl _ _).grown hg (fun k hk => by cases hk)) ho' (fun g hg' => ?_)
    exact (ho.lt g hg').1
/-- as a step behind those that may be taken first -/
theorem seq_full {Q : Exit → Act → World → Prop} {S : World → Prop} {Lm : Nat} {l : List Oper} {i : Nat} {r : List Nat} {ac : Act} {o : Oper} (hE : ElemOf P t e z size bytes) (h : St M0 w L) (ho : l[i]? = some o) (hg : o.guard = none) (s x : Operand)
    (hop : o.op = .call { callee := .builtin .append, args := #[s, x], argTypes := #[t, t] }) {B : Option Addr} (hs : ac.eval s = .slice B n n) (hxs : Sl w Any size B n xs)
    (A : Option Addr) (m c : Nat) (hx : ac.eval x = .slice A m c) (ys : List Value) (hy : Sl w Any size A m ys) (h1 : ∀ u ∈ ys, u.oneCell' = true) (hm : 0 < m)
    (hb : (n + m) * bytes ≤ 140737488355328) (hn : n + m ≤ 140737488355328)
    (k : ∀ A' c' w', St M0 w' (rowR e size (.slice A' (n + m) c') (n + m) (xs ++ ys) :: L) → (i < Lm → S w') ∧ wpSeq P l.toArray Q S Lm r (ac.put o.dst (.slice A' (n + m) c')) w') : wpSeq P l.toArray Q S Lm (i :: r) ac w := by
  obtain ⟨v', w', hrun, h2⟩ := St.run_full hE h o.type hxs A m c ys hy h1 hm hb hn
  obtain ⟨A', c', rfl⟩ := h2.slice
  have hk := k A' c' w' h2
  exact seq_run ho hg (by unfold execOp; simp only [hop, resolve, invoke, builtin, Sem.run_bind, Sem.run_pure, Result.andThen_ok, List.map_toArray, List.map_cons, List.map_nil, hs, hx, hrun]) hk.1 hk.2
/-- one element more, the old ones as they stood in another slice -/
theorem St.snocC {α : Type} {R : World → List Value → α → Prop} {as : List α} {v old : Value} {q : Nat} {css : Nat → List Value} {cs : List Value} {x : α}
    (h : St M0 w (rowR e size v (q + 1) (flat css q ++ cs) :: persR (fun w' => RowsC w' size R old css as) :: persR (fun w' => R w' cs x) :: L)) (hq : q = as.length) (hc : cs.length = size) (hl : ∀ i, i < q → (css i).length = size) :
    St M0 w (persR (fun w' => RowsC w' size R v (fun i => ((flat css q ++ cs).drop (i * size)).take size) (as ++ [x])) :: L) := by
  subst hq
  have hfl := flat_length (css := css) (n := as.length) hl
  refine (h.freezeR.dn2.pers2 (Q := fun w' => ∀ i y, (as ++ [x])[i]? = some y → R w' (((flat css as.length ++ cs).drop (i * size)).take size) y) (fun w' h1 h2 i y hi => ?_)).swap.pers2 (fun w' h1 h2 => RowsC.of_own h1 (by simp) h2)
  by_cases hlt : i < as.length
  · rw [List.getElem?_append_left hlt] at hi
    have hle : (i + 1) * size ≤ as.length * size := Nat.mul_le_mul_right _ hlt
    rw [Nat.add_mul, Nat.one_mul] at hle
    rw [List.drop_append_of_le_length (by omega), List.take_append_of_le_length (by rw [List.length_drop]; omega), flat_at hl hlt]
    obtain ⟨_, _, _, _, _, h3⟩ := h1
    obtain ⟨_, _, _, _, h5⟩ := h3 i y hi
    exact h5
  · have hle := (List.getElem?_eq_some_iff.1 hi).1
    have hie : i = as.length := by simp at hle; omega
    subst hie
    rw [List.getElem?_append_right (Nat.le_refl _), Nat.sub_self] at hi
    obtain rfl : x = y := by simpa using hi
    rw [← hfl, List.drop_left, ← hc, List.take_length]
    exact h2
end

end Go.Proofs.Ytbgknfdaaffeaaa
