/- append, told with resources: whatever slice is appended. -/
import Derived.Test.YtbgknfdaaffeaaaMix
import Derived.Test.YtbgknfdaaffeaaaSt
import Derived.Test.YtbgknfdaaffeaaaBv
namespace Go.Proofs.Ytbgknfdaaffeaaa
open Go.RowKit

/-- t is a slice of e; an e has so many cells, so many bytes, and this zero -/
structure ElemOf (P : Program) (t e : TypeId) (z : Value) (size bytes : Nat) : Prop where
  ht : P.underlying t = some (.slice e)
  hinfo : (P.info? e).map (fun i => (i.zero, i.size, i.bytes)) = some (some z, size, bytes)
  hzs : z.cells.size = size
  hsz : 0 < size

theorem run_append_nil {P : Program} (w : World) (base : Nat) (t ty e : TypeId) (i : TypeInfo) (size : Nat) (ht : P.underlying t = some (.slice e)) (hi : P.info? e = some i)
    (v : Value) (n : Nat) (xs : List Value) (hown : w.ownsRow base e size v n xs) (c : Nat) : (Builtin.append_ #[t, t] ty #[v, .slice none 0 c]).run P w = .ok v w := by
  rcases hown.2 with ⟨rfl, rfl⟩ | ⟨g, cap, cur, rfl, _, _, hnc, _⟩
  · simp [Builtin.append_, run_underlying ht, sizeOf, typeInfo, hi, Builtin.lenOf, Builtin.firstCells]
  · simp [Builtin.append_, run_underlying ht, sizeOf, typeInfo, hi, Builtin.lenOf, Builtin.firstCells, hnc, storeCells]

section
variable {P : Program} {M0 : Imm} {w w' : World} {L : List Res} {t e : TypeId} {z : Value} {size bytes : Nat} {v : Value} {n : Nat} {xs : List Value}

theorem St.run_app (hE : ElemOf P t e z size bytes) (h : St M0 w (rowR e size v n xs :: L)) (ty : TypeId) (A : Option Addr) (m c : Nat) (ys : List Value) (hy : Sl w Any size A m ys) (h1 : ∀ u ∈ ys, u.oneCell' = true)
    (hb : (n + m) * bytes ≤ 140737488355328) (hn : n + m ≤ 140737488355328) :
    ∃ v' w', (Builtin.append_ #[t, t] ty #[v, .slice A m c]).run P w = .ok v' w' ∧ St M0 w' (rowR e size v' (n + m) (xs ++ ys) :: L) := by
  have hown := h.row 0 rfl
  rcases A with _ | ad
  · have hm : m = 0 := by
      rcases Nat.eq_zero_or_pos m with h0 | h0
      · exact h0
      · obtain ⟨ad, h, _⟩ := hy.2 h0
        cases h
    subst hm
    have hn : ys = [] := List.eq_nil_of_length_eq_zero (by simpa using hy.1)
    subst hn
    obtain ⟨i0, hi0, _⟩ := info_parts hE.hinfo
    exact ⟨v, w, run_append_nil w 0 t ty e i0 size hE.ht hi0 v n xs hown c, by simpa using h⟩
  · have hcells : ∀ j u, ys[j]? = some u → w.cell? (ad.add j) = some u := by
      intro j u hu
      rcases Nat.eq_zero_or_pos m with h0 | h0
      · subst h0
        have hn : ys = [] := List.eq_nil_of_length_eq_zero (by simpa using hy.1)
        subst hn
        simp at hu
      · obtain ⟨ad', h, _, _, hc⟩ := hy.2 h0
        injection h with h
        subst h
        exact hc j u hu
    obtain ⟨v', w', hrun, h2, h3, h4⟩ := run_append_at (P := P) (w := w) t ty 0 e z size bytes hE.ht hE.hinfo hE.hzs hE.hsz v n xs hown ad m c ys hy.1 hcells h1 hb hn (Nat.zero_le _)
    exact ⟨v', w', hrun, h.app h2 h3 h4⟩

/-- the value of an owned row is a slice -/
theorem St.slice (h : St M0 w (rowR e size v n xs :: L)) : ∃ A c, v = .slice A n c := by
  rcases (h.row 0 rfl).2 with ⟨rfl, h0⟩ | ⟨g, cap, cur, rfl, _⟩
  · exact ⟨_, _, by rw [h0]⟩
  · exact ⟨_, _, rfl⟩
/-- append as a step of the walk -/
theorem St.app_step {ops : Array Oper} {rest : List Oper} {o : Oper} {ac : Act} {Q : Exit → Act → World → Prop} (hE : ElemOf P t e z size bytes) (h : St M0 w (rowR e size v n xs :: L)) (hgd : o.guard = none) (s x : Operand)
    (ho : o.op = .call { callee := .builtin .append, args := #[s, x], argTypes := #[t, t] }) (hs : ac.eval s = v)
    (A : Option Addr) (m c : Nat) (hx : ac.eval x = .slice A m c) (ys : List Value) (hy : Sl w Any size A m ys) (h1 : ∀ u ∈ ys, u.oneCell' = true)
    (hb : (n + m) * bytes ≤ 140737488355328) (hn : n + m ≤ 140737488355328)
    (k : ∀ A' c' w', St M0 w' (rowR e size (.slice A' (n + m) c') (n + m) (xs ++ ys) :: L) → wpList P ops Q rest (ac.put o.dst (.slice A' (n + m) c')) w') : wpList P ops Q (o :: rest) ac w := by
  obtain ⟨v', w', hrun, h2⟩ := St.run_app hE h o.type A m c ys hy h1 hb hn
  obtain ⟨A', c', rfl⟩ := h2.slice
  refine wpList_plain hgd fun K hK => ?_
  unfold Oper.wp execOp
  simp only [ho, resolve, invoke, builtin, Sem.run_bind, Sem.run_pure, Result.andThen_ok, List.map_toArray, List.map_cons, List.map_nil, hs, hx, hrun]
  exact hK _ _ (k A' c' w' h2)
/-- append as a step behind those that may be taken first -/
theorem seq_app {Q : Exit → Act → World → Prop} {S : World → Prop} {Lm : Nat} {l : List Oper} {i : Nat} {r : List Nat} {ac : Act} {o : Oper} (hE : ElemOf P t e z size bytes) (h : St M0 w (rowR e size v n xs :: L)) (ho : l[i]? = some o) (hg : o.guard = none) (s x : Operand)
    (hop : o.op = .call { callee := .builtin .append, args := #[s, x], argTypes := #[t, t] }) (hs : ac.eval s = v)
    (A : Option Addr) (m c : Nat) (hx : ac.eval x = .slice A m c) (ys : List Value) (hy : Sl w Any size A m ys) (h1 : ∀ u ∈ ys, u.oneCell' = true)
    (hb : (n + m) * bytes ≤ 140737488355328) (hn : n + m ≤ 140737488355328)
    (k : ∀ A' c' w', St M0 w' (rowR e size (.slice A' (n + m) c') (n + m) (xs ++ ys) :: L) → (i < Lm → S w') ∧ wpSeq P l.toArray Q S Lm r (ac.put o.dst (.slice A' (n + m) c')) w') : wpSeq P l.toArray Q S Lm (i :: r) ac w := by
  obtain ⟨v', w', hrun, h2⟩ := St.run_app hE h o.type A m c ys hy h1 hb hn
  obtain ⟨A', c', rfl⟩ := h2.slice
  have hk := k A' c' w' h2
  exact seq_run ho hg (by unfold execOp; simp only [hop, resolve, invoke, builtin, Sem.run_bind, Sem.run_pure, Result.andThen_ok, List.map_toArray, List.map_cons, List.map_nil, hs, hx, hrun]) hk.1 hk.2

/-- the one value that was laid just before -/
theorem sl_new1 (w : World) (e : TypeId) (u : Value) : Sl (w.alloc (.cells #[u] e)) Any 1 (some ⟨w.heap.size, 0, none⟩) 1 [u] :=
  ⟨rfl, fun _ => ⟨_, rfl, trivial, by simp, fun j y hy => by
    match j, hy with
    | 0, hy => exact ((Blk.new w e #[u]).cell 0).trans hy
    | j + 1, hy => simp at hy⟩⟩
theorem sl_blk {b : Nat} {xs : List Value} (h : Blk w b t xs.toArray) : Sl w Any 1 (some ⟨b, 0, none⟩) xs.length xs := by
  refine ⟨by simp, fun _ => ⟨_, rfl, trivial, h.lt, fun j u hu => ?_⟩⟩
  rw [show (⟨b, 0, none⟩ : Addr).add j = ⟨b, j, none⟩ by simp [Addr.add]; exact Eq.symm, h.cell]
  simpa using hu
theorem St.row_eq {n' : Nat} {xs' : List Value} (h : St M0 w (rowR e size v n xs :: L)) (hn : n = n') (hx : xs = xs') : St M0 w (rowR e size v n' xs' :: L) := by subst hn; subst hx; exact h
theorem Sl.cut {Q : Nat → Prop} {A : Option Addr} {n k : Nat} {xs : List Value} (h : Sl w Q 1 A n xs) (hk : k ≤ n) : Sl w Q 1 A k (xs.take k) := by
  have h1 := h.1
  refine ⟨by rw [List.length_take]; omega, fun hp => ?_⟩
  obtain ⟨ad, e, hq, hb, hc⟩ := h.2 (by omega)
  refine ⟨ad, e, hq, hb, fun j u hu => hc j u ?_⟩
  rw [List.getElem?_take] at hu
  split at hu
  · exact hu
  · cases hu
theorem St.sl {A : Option Addr} {c : Nat} (h : St M0 w (rowR e size (.slice A n c) n xs :: L)) : Sl w Any size A n xs := (Sl.of_own (h.row 0 rfl)).mono (fun _ _ _ => trivial)
end

end Go.Proofs.Ytbgknfdaaffeaaa
