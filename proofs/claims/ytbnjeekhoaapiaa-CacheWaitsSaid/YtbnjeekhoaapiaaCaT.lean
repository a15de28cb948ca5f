/- A slice that owns the rest of its row from somewhere on: it is cut from the front, and grows. -/
import Derived.Test.YtbnjeekhoaapiaaStFlat
import Derived.ArgAppend
namespace Go.Proofs.Ytbnjeekhoaapiaa
open Go.RowKit

def tailR (e : TypeId) (size : Nat) (v : Value) (n : Nat) (xs : List Value) : Res where
  holds _ w F := (∃ A, v = .slice A 0 0 ∧ n = 0 ∧ xs = [] ∧ ∀ b, ¬ F b) ∨
    ∃ g o c cur, v = .slice (some ⟨g, o, none⟩) n c ∧ (∀ b, F b ↔ b = g) ∧ w.heap[g]? = some (.cells cur e) ∧ o + c * size ≤ cur.size ∧ n ≤ c ∧ c ≤ maxLen ∧ (cur.toList.drop o).take (n * size) = xs
  lt h hb := by
    rcases h with ⟨_, _, _, _, h⟩ | ⟨g, o, c, cur, _, hF, hh, _⟩
    · exact (h _ hb).elim
    · rw [(hF _).1 hb]
      exact (Array.getElem?_eq_some_iff.1 hh).1
  loc h _ _ hb := by
    rcases h with h | ⟨g, o, c, cur, e1, hF, hh, r⟩
    · exact .inl h
    · exact .inr ⟨g, o, c, cur, e1, hF, (hb g ((hF g).2 rfl)).trans hh, r⟩
section
variable {M0 : Imm} {w : World} {L : List Res} {e : TypeId} {size : Nat} {v : Value} {n : Nat} {xs : List Value}
theorem St.rowTail (h : St M0 w (rowR e size v n xs :: L)) : St M0 w (tailR e size v n xs :: L) := by
  obtain ⟨M, F, _, _, hx, _, hk⟩ := h.head
  refine hk w _ F (Fr.refl _ _) (fun _ => ?_) (fun _ hb => .inl hb)
  obtain ⟨hF, hl, h2⟩ := hx
  rcases h2 with ⟨rfl, rfl⟩ | ⟨g, cap, cur, rfl, _, hh, hn, hm, hs, ht⟩
  · refine .inl ⟨none, rfl, rfl, List.eq_nil_of_length_eq_zero (by simpa using hl), fun b hb => ?_⟩
    have := (hF b).1 hb
    simp [Value.ownBlock] at this
  · refine .inr ⟨g, 0, cap, cur, rfl, fun b => (hF b).trans ?_, hh, by omega, hn, hm, by simpa using ht⟩
    simp [Value.ownBlock, eq_comm]
theorem St.tailForm (h : St M0 w (tailR e size v n xs :: L)) : ∃ A c, v = .slice A n c ∧ n ≤ c ∧ c ≤ maxLen ∧ (A = none → c = 0) := by
  obtain ⟨M, F, hx, _⟩ := h.fact 0 rfl
  rcases hx with ⟨A, rfl, rfl, _⟩ | ⟨g, o, c, cur, rfl, _, _, _, h1, h2, _⟩
  · exact ⟨A, 0, rfl, Nat.le_refl _, by unfold maxLen; omega, fun _ => rfl⟩
  · exact ⟨_, c, rfl, h1, h2, fun e => by cases e⟩
theorem St.tailCut {A : Option Addr} {c k : Nat} (h : St M0 w (tailR e size (.slice A n c) n xs :: L)) (hk : k ≤ n) (A' : Option Addr) (hA : ∀ g o, A = some ⟨g, o, none⟩ → A' = if c = k then A else some ⟨g, o + k * size, none⟩) :
    St M0 w (tailR e size (.slice A' (n - k) (c - k)) (n - k) (xs.drop (k * size)) :: L) := by
  obtain ⟨M, F, _, _, hx, _, hk'⟩ := h.head
  rcases hx with ⟨B, e1, rfl, rfl, hF⟩ | ⟨g, o, c', cur, e1, hF, hh, hs, hn, hm, ht⟩
  · injection e1 with e1 e2 e3
    subst e3
    exact hk' w _ F (Fr.refl _ _) (fun _ => .inl ⟨A', by rw [Nat.zero_sub], by omega, by simp, hF⟩) (fun _ hb => .inl hb)
  · injection e1 with e1 e2 e3
    subst e3
    have ha := hA g o e1
    by_cases hck : c = k
    · refine hk' w _ (fun _ => False) (Fr.refl _ _) (fun _ => .inl ⟨A', by rw [show n - k = 0 by omega, show c - k = 0 by omega], by omega, ?_, fun _ hb => hb⟩) (fun _ hb => hb.elim)
      refine List.drop_eq_nil_of_le ?_
      rw [← ht, List.length_take]
      have : n * size ≤ k * size := Nat.mul_le_mul_right _ (by omega)
      omega
    · rw [if_neg hck] at ha
      subst ha
      have m1 : k * size ≤ n * size := Nat.mul_le_mul_right _ hk
      have m2 : (c - k) * size + k * size = c * size := by rw [← Nat.add_mul]; congr 1; omega
      refine hk' w _ F (Fr.refl _ _) (fun _ => .inr ⟨g, o + k * size, c - k, cur, rfl, hF, hh, by omega, by omega, by omega, ?_⟩) (fun _ hb => .inl hb)
      rw [← ht, List.drop_take, List.drop_drop]
      congr 1
      rw [Nat.sub_mul]
theorem tail_cell {cur : Array Value} {o n size : Nat} {g : Nat} (hh : w.heap[g]? = some (.cells cur e)) (ht : (cur.toList.drop o).take (n * size) = xs) (j : Nat) (u : Value) (hu : xs[j]? = some u) : w.cell? ⟨g, o + j, none⟩ = some u := by
  rw [← ht, List.getElem?_take] at hu
  split at hu
  · rw [List.getElem?_drop, Array.getElem?_toList] at hu
    have hb : Blk w g e cur := hh
    rw [hb.cell, hu]
  · cases hu
theorem St.tailApp {P : Program} {t : TypeId} {z : Value} {bytes : Nat} (hE : ElemOf P t e z size bytes) (h : St M0 w (tailR e size v n xs :: L)) (hxl : xs.length = n * size) (ty : TypeId) (a : Addr) (m c : Nat) (ys : List Value) (hyl : ys.length = m * size) (hm0 : 0 < m)
    (hy : ∀ j u, ys[j]? = some u → w.cell? (a.add j) = some u) (h1 : ∀ u ∈ ys, u.oneCell' = true) (hb : (n + m) * bytes ≤ 140737488355328) (hn : n + m ≤ 140737488355328) :
    ∃ A' c' w', (Builtin.append_ #[t, t] ty #[v, .slice (some a) m c]).run P w = .ok (.slice A' (n + m) c') w' ∧ St M0 w' (tailR e size (.slice A' (n + m) c') (n + m) (xs ++ ys) :: L) := by
  obtain ⟨i0, hi0, hz0, hz1, hz2⟩ := info_parts hE.hinfo
  obtain ⟨A0, c0, rfl, hnc, hcm, hnone⟩ := h.tailForm
  have grows : ∀ (b : Addr), A0 = some b → c0 < n + m → (∀ j u, xs[j]? = some u → w.cell? (b.add j) = some u) → ∃ A' c' w', (Builtin.append_ #[t, t] ty #[.slice A0 n c0, .slice (some a) m c]).run P w = .ok (.slice A' (n + m) c') w' ∧ St M0 w' (tailR e size (.slice A' (n + m) c') (n + m) (xs ++ ys) :: L) := by
    rintro b rfl hlt hxc
    obtain ⟨v', w', hrun, ho, hg⟩ := run_append_arg_grows (P := P) w t ty e i0 z size bytes hE.ht hi0 hz0 hz1 hz2 hE.hzs hE.hsz b n c0 xs hxl hxc a m c ys hyl hy hlt (by unfold maxLen; omega) hb
    have ho' : w'.ownsRow 0 e size v' (n + m) (xs ++ ys) := ⟨ho.1, by
      rcases ho.2 with h2 | ⟨g, cap, cur, e1, e2, r⟩
      · exact .inl h2
      · exact .inr ⟨g, cap, cur, e1, Nat.zero_le _, r⟩⟩
    have h2 := h.tail.newRow ((Fr.refl _ _).grown hg (fun k hk => by cases hk)) ho' (fun g hg' => (ho.lt g hg').1)
    obtain ⟨A', c', rfl⟩ := h2.slice
    exact ⟨A', c', w', hrun, h2.rowTail⟩
  obtain ⟨M, F, _, _, hx, _, hk'⟩ := h.head
  rcases hx with ⟨B, e1, rfl, rfl, hF⟩ | ⟨g, o, c', cur, e1, hF, hh, hs, hn', hm, ht⟩
  · injection e1 with e1 e2 e3
    subst e3
    cases A0 with
    | some b => exact grows b rfl (by omega) (fun j u hu => by simp at hu)
    | none =>
      obtain ⟨v', w', hrun, h2⟩ := St.run_app hE (h.tail.nilRow e size) ty (some a) m c ys ⟨hyl, fun _ => ⟨a, rfl, trivial, by
        have hp : 0 < ys.length := by rw [hyl]; exact Nat.mul_pos hm0 hE.hsz
        have := World.block_lt_of_cell? _ _ (hy 0 _ (List.getElem?_eq_getElem hp))
        rwa [addr_block] at this, hy⟩⟩ h1 hb hn
      obtain ⟨A', c', rfl⟩ := h2.slice
      exact ⟨A', c', w', hrun, h2.rowTail⟩
  · injection e1 with e1 e2 e3
    subst e3
    subst e1
    by_cases hroom : n + m ≤ c0
    · have m1 : (n + m) * size ≤ c0 * size := Nat.mul_le_mul_right _ hroom
      rw [Nat.add_mul] at m1
      have hth : ∀ j, j < ys.length → (w.cell? ⟨g, o + n * size + j, none⟩).isSome = true ∧ w.frozen? ⟨g, o + n * size + j, none⟩ = false := by
        intro j hj
        have hbk : Blk w g e cur := hh
        rw [hbk.cell]
        refine ⟨?_, hbk.frozen _⟩
        rw [Array.getElem?_eq_getElem (by omega)]
        rfl
      have hr := run_append_room_cells (P := P) w t ty e i0 hE.ht hi0 g o n c0 a m c ys (by rw [hz1]; exact hyl) hy h1 hroom (fun j hj => by rw [hz1]; exact (hth j hj).1) (fun j hj => by rw [hz1]; exact (hth j hj).2)
      rw [hz1] at hr
      refine ⟨_, _, _, hr, hk' _ _ F (fr_setCells g ys (o + n * size) w (Fr.refl _ _) (fun _ => (hF g).2 rfl)) (fun _ => .inr ?_) (fun _ hb => .inl hb)⟩
      refine ⟨g, o, c0, (splice cur.toList (o + n * size) ys).toArray, rfl, hF, ?_, ?_, hroom, hm, ?_⟩
      · exact blk_setCells g e ys (o + n * size) cur w hh (by omega)
      · rw [List.size_toArray, splice_length _ _ _ (by rw [Array.length_toList]; show o + n * size + ys.length ≤ cur.size; rw [hyl]; omega), Array.length_toList]
        exact hs
      · show ((splice cur.toList (o + n * size) ys).drop o).take ((n + m) * size) = xs ++ ys
        have hle : o ≤ (cur.toList.take (o + n * size)).length := by rw [List.length_take, Array.length_toList]; omega
        unfold splice
        rw [List.append_assoc, List.drop_append_of_le_length hle, List.drop_take, Nat.add_sub_cancel_left, ht, ← List.append_assoc, List.take_left']
        rw [List.length_append, hxl, hyl, Nat.add_mul]
    · exact grows _ rfl (by omega) (fun j u hu => by
        have := tail_cell hh ht j u hu
        rwa [show (⟨g, o, none⟩ : Addr).add j = ⟨g, o + j, none⟩ by simp [Addr.add]])
/-- as a step of the walk -/
theorem St.tail_step {P : Program} {t : TypeId} {z : Value} {bytes : Nat} {ops : Array Oper} {rest : List Oper} {o : Oper} {ac : Act} {Q : Exit → Act → World → Prop} (hE : ElemOf P t e z size bytes) (h : St M0 w (tailR e size v n xs :: L)) (hxl : xs.length = n * size) (hgd : o.guard = none) (s x : Operand)
    (ho : o.op = .call { callee := .builtin .append, args := #[s, x], argTypes := #[t, t] }) (hs : ac.eval s = v)
    (a : Addr) (m c : Nat) (hx : ac.eval x = .slice (some a) m c) (ys : List Value) (hyl : ys.length = m * size) (hm0 : 0 < m) (hy : ∀ j u, ys[j]? = some u → w.cell? (a.add j) = some u) (h1 : ∀ u ∈ ys, u.oneCell' = true)
    (hb : (n + m) * bytes ≤ 140737488355328) (hn : n + m ≤ 140737488355328)
    (k : ∀ A' c' w', St M0 w' (tailR e size (.slice A' (n + m) c') (n + m) (xs ++ ys) :: L) → wpList P ops Q rest (ac.put o.dst (.slice A' (n + m) c')) w') : wpList P ops Q (o :: rest) ac w := by
  obtain ⟨A', c', w', hrun, h2⟩ := St.tailApp hE h hxl o.type a m c ys hyl hm0 hy h1 hb hn
  refine wpList_plain hgd fun K hK => ?_
  unfold Oper.wp execOp
  simp only [ho, resolve, invoke, builtin, Sem.run_bind, Sem.run_pure, Result.andThen_ok, List.map_toArray, List.map_cons, List.map_nil, hs, hx, hrun]
  exact hK _ _ (k A' c' w' h2)
end
/-- the same of elements -/
def growT {α : Type} (e : TypeId) (size : Nat) (R : World → List Value → α → Prop) (v : Value) (xs : List α) : Res :=
  exR fun vs => starR (tailR e size v xs.length vs) (persR (fun w => vs.length = xs.length * size ∧ ∀ (i : Nat) x, xs[i]? = some x → R w ((vs.drop (i * size)).take size) x))
section
variable {α : Type} {M0 : Imm} {w : World} {L : List Res} {e : TypeId} {size : Nat} {R : World → List Value → α → Prop} {v : Value} {xs : List α}
theorem St.nilT (h : St M0 w L) (e : TypeId) (size : Nat) (R : World → List Value → α → Prop) : St M0 w (growT e size R (.slice none 0 0) [] :: L) :=
  St.addEx (f := fun vs => starR (tailR e size (.slice none 0 0) ([] : List α).length vs) (persR (fun w => vs.length = ([] : List α).length * size ∧ ∀ (i : Nat) x, ([] : List α)[i]? = some x → R w ((vs.drop (i * size)).take size) x))) []
    ((h.pers0 (fun w' _ => ⟨by simp, fun i x hi => by simp at hi⟩)).nilRow e size).rowTail.addStar
theorem St.openT (h : St M0 w (growT e size R v xs :: L)) : ∃ A q c vs, v = .slice A q c ∧ q = xs.length ∧ q ≤ c ∧ c ≤ 9223372036854775807 ∧ (A = none → c = 0) ∧ vs.length = q * size ∧
    St M0 w (tailR e size (.slice A q c) q vs :: persR (fun w => ∀ (i : Nat) x, xs[i]? = some x → R w ((vs.drop (i * size)).take size) x) :: L) := by
  obtain ⟨vs, h⟩ := h.ex
  have h := h.star
  have hl := (h.get 1 rfl).1
  obtain ⟨A, c, rfl, h1, h2, h3⟩ := h.tailForm
  exact ⟨A, _, c, vs, rfl, rfl, h1, by unfold maxLen at h2; omega, h3, hl, (h.swap.pers1 (fun w' hr => hr.2)).swap⟩
theorem St.closeT {q : Nat} {vs : List Value} (h : St M0 w (tailR e size v q vs :: persR (fun w => ∀ (i : Nat) x, xs[i]? = some x → R w ((vs.drop (i * size)).take size) x) :: L)) (hq : q = xs.length) (hl : vs.length = q * size) : St M0 w (growT e size R v xs :: L) := by
  subst hq
  exact St.addEx (f := fun vs => starR (tailR e size v xs.length vs) (persR (fun w => vs.length = xs.length * size ∧ ∀ (i : Nat) x, xs[i]? = some x → R w ((vs.drop (i * size)).take size) x))) vs ((h.swap.pers1 (fun w' hr => ⟨hl, hr⟩)).swap.addStar)
theorem St.snocT {q : Nat} {vs cs : List Value} {x : α} (h : St M0 w (tailR e size v (q + 1) (vs ++ cs) :: persR (fun w => ∀ (i : Nat) x, xs[i]? = some x → R w ((vs.drop (i * size)).take size) x) :: persR (fun w => R w cs x) :: L)) (hq : q = xs.length) (hc : cs.length = size) (hv : vs.length = q * size) : St M0 w (growT e size R v (xs ++ [x]) :: L) := by
  subst hq
  refine St.closeT (vs := vs ++ cs) (q := xs.length + 1) ?_ (by simp) (by rw [List.length_append, hv, hc, Nat.add_mul, Nat.one_mul])
  refine (h.dn2.pers2 (fun w' h1 h2 i y hi => ?_)).swap
  by_cases hl : i < xs.length
  · rw [List.getElem?_append_left hl] at hi
    have hle : (i + 1) * size ≤ xs.length * size := Nat.mul_le_mul_right _ hl
    rw [Nat.add_mul, Nat.one_mul] at hle
    have := h1 i y hi
    rwa [List.drop_append_of_le_length (by omega), List.take_append_of_le_length (by rw [List.length_drop]; omega)]
  · have hlt := (List.getElem?_eq_some_iff.1 hi).1
    have hie : i = xs.length := by simp at hlt; omega
    subst hie
    rw [List.getElem?_append_right (Nat.le_refl _), Nat.sub_self] at hi
    obtain rfl : x = y := by simpa using hi
    rw [← hv, List.drop_left, ← hc, List.take_length]
    exact h2
theorem St.cutT {A : Option Addr} {q c k : Nat} (h : St M0 w (growT e size R (.slice A q c) xs :: L)) (hk : k ≤ q) (A' : Option Addr) (hA : ∀ g o, A = some ⟨g, o, none⟩ → A' = if c = k then A else some ⟨g, o + k * size, none⟩) : St M0 w (growT e size R (.slice A' (q - k) (c - k)) (xs.drop k) :: L) := by
  obtain ⟨A0, q0, c0, vs, e1, hq, _, _, _, hl, h1⟩ := h.openT
  injection e1 with e1 e2 e3
  subst e1; subst e2; subst e3
  have h2 := h1.tailCut hk A' hA
  refine St.closeT (vs := vs.drop (k * size)) ((h2.swap.pers1 (fun w' hr i x hi => ?_)).swap) (by rw [List.length_drop, hq]) (by rw [List.length_drop, hl, Nat.sub_mul])
  rw [List.getElem?_drop] at hi
  have := hr (k + i) x hi
  rwa [List.drop_drop, ← Nat.add_mul]
/-- not written any more -/
theorem St.rowsT (h : St M0 w (growT e size R v xs :: L)) : St M0 w (rowsR size R v xs :: L) := by
  obtain ⟨A, q, c, vs, rfl, hq, hqc, hc, hn, hl, h1⟩ := h.openT
  subst hq
  refine St.addEx (f := fun css => persR (fun w => RowsC w size R (.slice A xs.length c) css xs)) (fun i => (vs.drop (i * size)).take size) ?_
  refine (h1.freeze (R := fun w' => ∀ j u, vs[j]? = some u → ∃ ad, A = some ad ∧ w'.cell? (ad.add j) = some u) ?_).pers2 (fun w' h2 h3 => ?_)
  · intro M w' F hx _ j u hu
    rcases hx with ⟨B, _, _, rfl, _⟩ | ⟨g, o, c', cur, e1, _, hh, _, _, _, ht⟩
    · simp at hu
    · injection e1 with e1 e2 e3
      refine ⟨_, e1, ?_⟩
      have := tail_cell hh ht j u hu
      rwa [show (⟨g, o, none⟩ : Addr).add j = ⟨g, o + j, none⟩ by simp [Addr.add]]
  · refine ⟨A, c, rfl, hqc, by unfold maxLen; omega, fun i x hi => ?_⟩
    have hlt := (List.getElem?_eq_some_iff.1 hi).1
    have hle : (i + 1) * size ≤ xs.length * size := Nat.mul_le_mul_right _ hlt
    rw [Nat.add_mul, Nat.one_mul] at hle
    have hcells : ∀ j u, ((vs.drop (i * size)).take size)[j]? = some u → ∃ ad, A = some ad ∧ w'.cell? ((ad.add (i * size)).add j) = some u := fun j u hu => by
      rw [List.getElem?_take] at hu
      split at hu
      · rw [List.getElem?_drop] at hu
        obtain ⟨ad, ea, hc⟩ := h2 _ u hu
        exact ⟨ad, ea, by rw [addr_add]; exact hc⟩
      · cases hu
    have hA : ∃ ad, A = some ad := by
      cases A with
      | some ad => exact ⟨ad, rfl⟩
      | none => have := hn rfl; omega
    obtain ⟨ad, rfl⟩ := hA
    refine ⟨ad, rfl, by rw [List.length_take, List.length_drop]; omega, fun j u hu => ?_, h3 i x hi⟩
    obtain ⟨ad', ea, hc⟩ := hcells j u hu
    injection ea with ea
    rw [ea]
    exact hc
end
end Go.Proofs.Ytbnjeekhoaapiaa
