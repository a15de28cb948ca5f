/- Cache: a row that owns its cells, element by element; changed in place. -/
import Derived.Test.YtbgknfdaaffeaaaRedoM
import Derived.Test.YtbgknfdaaffeaaaMixT
import Derived.Test.YtbgknfdaaffeaaaCloneSt
import Derived.Deep.LoopGhost
import Derived.Test.YtbgknfdaaffeaaaStFlat
namespace Go.Proofs.Ytbgknfdaaffeaaa
open Go.RowKit

section
variable {α : Type}
def flatZ (zs : List (List Value × α)) : List Value := zs.flatMap Prod.fst
def sized (size : Nat) (zs : List (List Value × α)) : Prop := ∀ p ∈ zs, p.1.length = size
theorem flatZ_append (a b : List (List Value × α)) : flatZ (a ++ b) = flatZ a ++ flatZ b := by simp [flatZ]
theorem flatZ_length {size : Nat} (zs : List (List Value × α)) (h : sized size zs) : (flatZ zs).length = zs.length * size := by
  induction zs with
  | nil => simp [flatZ]
  | cons p r ih =>
    have h1 := h p (by simp)
    have h2 := ih (fun q hq => h q (by simp [hq]))
    show (p.1 ++ flatZ r).length = (r.length + 1) * size
    rw [List.length_append, h1, h2, Nat.add_mul]; omega
theorem sized.take {size : Nat} {zs : List (List Value × α)} (h : sized size zs) (k : Nat) : sized size (zs.take k) := fun p hp => h p (List.mem_of_mem_take hp)
theorem sized.drop {size : Nat} {zs : List (List Value × α)} (h : sized size zs) (k : Nat) : sized size (zs.drop k) := fun p hp => h p (List.mem_of_mem_drop hp)
theorem sized.append {size : Nat} {a b : List (List Value × α)} (h : sized size a) (h2 : sized size b) : sized size (a ++ b) := fun p hp => (List.mem_append.1 hp).elim (h p) (h2 p)
theorem flatZ_take {size : Nat} (zs : List (List Value × α)) (h : sized size zs) (k : Nat) (hk : k ≤ zs.length) : (flatZ zs).take (k * size) = flatZ (zs.take k) := by
  have h1 : (flatZ (zs.take k)).length = k * size := by rw [flatZ_length _ (h.take k), List.length_take, Nat.min_eq_left hk]
  have h2 : flatZ zs = flatZ (zs.take k) ++ flatZ (zs.drop k) := by rw [← flatZ_append, List.take_append_drop]
  rw [h2, ← h1, List.take_left]
theorem flatZ_drop {size : Nat} (zs : List (List Value × α)) (h : sized size zs) (k : Nat) (hk : k ≤ zs.length) : (flatZ zs).drop (k * size) = flatZ (zs.drop k) := by
  have h1 : (flatZ (zs.take k)).length = k * size := by rw [flatZ_length _ (h.take k), List.length_take, Nat.min_eq_left hk]
  have h2 : flatZ zs = flatZ (zs.take k) ++ flatZ (zs.drop k) := by rw [← flatZ_append, List.take_append_drop]
  rw [h2, ← h1, List.drop_left]
theorem flatZ_at {size : Nat} (zs : List (List Value × α)) (h : sized size zs) (i : Nat) (p : List Value × α) (hi : zs[i]? = some p) : ((flatZ zs).drop (i * size)).take size = p.1 := by
  have hlt := (List.getElem?_eq_some_iff.1 hi).1
  obtain ⟨_, rfl⟩ := List.getElem?_eq_some_iff.1 hi
  rw [flatZ_drop zs h i (by omega), List.drop_eq_getElem_cons hlt]
  show (zs[i].1 ++ flatZ _).take size = _
  rw [← h zs[i] (List.getElem_mem hlt), List.take_left]
/-- a store of elements -/
theorem flatZ_splice {size : Nat} (zs ys : List (List Value × α)) (h : sized size zs) (hy : sized size ys) (i : Nat) (hi : i + ys.length ≤ zs.length) : splice (flatZ zs) (i * size) (flatZ ys) = flatZ (splice zs i ys) := by
  unfold splice
  rw [flatZ_length _ hy, ← Nat.add_mul, flatZ_take zs h i (by omega), flatZ_drop zs h _ hi, flatZ_append, flatZ_append]
theorem cut_rows {size : Nat} : ∀ (xs : List α) (vs : List Value), vs.length = xs.length * size → ∃ zs : List (List Value × α), zs.map Prod.snd = xs ∧ flatZ zs = vs ∧ sized size zs
  | [], vs, h => by
    obtain rfl : vs = [] := List.eq_nil_of_length_eq_zero (by simpa using h)
    exact ⟨[], rfl, rfl, fun _ hp => by simp at hp⟩
  | x :: r, vs, h => by
    rw [List.length_cons, Nat.add_mul, Nat.one_mul] at h
    obtain ⟨zs, h1, h2, h3⟩ := cut_rows (size := size) r (vs.drop size) (by rw [List.length_drop]; omega)
    refine ⟨(vs.take size, x) :: zs, by simp [h1], ?_, fun p hp => ?_⟩
    · show vs.take size ++ flatZ zs = vs
      rw [h2, List.take_append_drop]
    · rcases List.mem_cons.1 hp with rfl | hp
      · show (vs.take size).length = size
        rw [List.length_take]; omega
      · exact h3 p hp
end
section
variable {α : Type} {M0 : Imm} {w : World} {L : List Res} {e : TypeId} {size : Nat} {R : World → List Value → α → Prop}
def allZ (R : World → List Value → α → Prop) (zs : List (List Value × α)) : World → Prop := fun w => ∀ p ∈ zs, R w p.1 p.2
theorem St.growZ {A : Option Addr} {n c : Nat} {xs : List α} (h : St M0 w (growR e size R (.slice A n c) xs :: L)) :
    ∃ zs : List (List Value × α), zs.map Prod.snd = xs ∧ n = zs.length ∧ sized size zs ∧ St M0 w (rowR e size (.slice A n c) n (flatZ zs) :: persR (allZ R zs) :: L) := by
  obtain ⟨vs, hn, hl, h1⟩ := h.openGrowS
  obtain ⟨zs, e1, e2, e3⟩ := cut_rows xs vs (by rw [hl, hn])
  have hlen : zs.length = xs.length := by rw [← e1, List.length_map]
  refine ⟨zs, e1, by omega, e3, ?_⟩
  rw [e2]
  refine (h1.swap.pers1 (fun w' hr p hp => ?_)).swap
  obtain ⟨i, hi⟩ := List.mem_iff_getElem?.1 hp
  have hx : xs[i]? = some p.2 := by rw [← e1, List.getElem?_map, hi]; rfl
  have := hr i p.2 hx
  rwa [← e2, flatZ_at zs e3 i p hi] at this
theorem St.zGrow {v : Value} {q : Nat} {zs : List (List Value × α)} {xs : List α} (h : St M0 w (rowR e size v q (flatZ zs) :: persR (allZ R zs) :: L)) (hs : sized size zs) (hx : zs.map Prod.snd = xs) (hq : q = zs.length) : St M0 w (growR e size R v xs :: L) := by
  subst hx
  subst hq
  refine St.addEx (f := fun vs => starR (rowR e size v (zs.map Prod.snd).length vs) (persR (fun w => ∀ (i : Nat) y, (zs.map Prod.snd)[i]? = some y → R w ((vs.drop (i * size)).take size) y))) (flatZ zs) ?_
  refine St.addStar ?_
  rw [List.length_map]
  refine (h.swap.pers1 (fun w' hr i y hi => ?_)).swap
  rw [List.getElem?_map] at hi
  cases hz : zs[i]? with
  | none => rw [hz] at hi; simp at hi
  | some p =>
    rw [hz] at hi
    obtain rfl : p.2 = y := by simpa using hi
    rw [flatZ_at zs hs i p hz]
    exact hr p (List.mem_of_getElem? hz)
/-- part of a row written over -/
theorem St.rowSplice {b n c : Nat} {xs : List Value} (h : St M0 w (rowR e size (.slice (some ⟨b, 0, none⟩) n c) n xs :: L)) (o : Nat) (ys : List Value) (ho : o + ys.length ≤ n * size) :
    St M0 (w.setCells b o ys) (rowR e size (.slice (some ⟨b, 0, none⟩) n c) n (splice xs o ys) :: L) :=
  h.app (own_setCells (h.row 0 rfl) o ho) (fr_setCells b ys o w (Fr.refl _ _) (fun _ => rfl)) (.inl rfl)
/-- less of a row -/
theorem St.rowLess {A : Option Addr} {n c m : Nat} {xs : List Value} (h : St M0 w (rowR e size (.slice A n c) n xs :: L)) (hm : m ≤ n) :
    St M0 w (rowR e size (.slice A m c) m (xs.take (m * size)) :: L) := by
  refine h.app (w' := w) ?_ (Fr.refl _ _) (.inl (by cases A <;> rfl))
  have hle : m * size ≤ n * size := Nat.mul_le_mul_right _ hm
  obtain ⟨hl, h2⟩ := h.row 0 rfl
  refine ⟨by rw [List.length_take]; omega, ?_⟩
  rcases h2 with ⟨e1, e2⟩ | ⟨g, cap, cur, e1, hg, hh, hn, hc, hs, ht⟩
  · injection e1 with a1 a2 a3
    exact .inl ⟨by rw [a1, a3, show m = 0 by omega], by omega⟩
  · injection e1 with a1 a2 a3
    exact .inr ⟨g, cap, cur, by rw [a1, a3], hg, hh, by omega, hc, hs, by rw [← ht, List.take_take, Nat.min_eq_left hle]⟩
end
section
variable {P : Program} {M0 : Imm} {w : World} {L : List Res} {t e : TypeId} {z : Value} {size bytes : Nat}
/-- append(s[:i], s[j:]...) within s -/
theorem St.run_shift (hE : ElemOf P t e z size bytes) {b n c : Nat} {xs : List Value} (h : St M0 w (rowR e size (.slice (some ⟨b, 0, none⟩) n c) n xs :: L)) (i j c' : Nat) (a : Addr) (ha : j < n → a = ⟨b, j * size, none⟩)
    (hij : i ≤ j) (hj : j ≤ n) (h1 : ∀ u ∈ xs, u.oneCell' = true) :
    ∃ w', (∀ ty, (Builtin.append_ #[t, t] ty #[.slice (some ⟨b, 0, none⟩) i c, .slice (some a) (n - j) c']).run P w = .ok (.slice (some ⟨b, 0, none⟩) (i + (n - j)) c) w') ∧
      St M0 w' (rowR e size (.slice (some ⟨b, 0, none⟩) n c) n (splice xs (i * size) (xs.drop (j * size))) :: L) := by
  have hown := h.row 0 rfl
  obtain ⟨i0, hi0, _, hsz, _⟩ := info_parts hE.hinfo
  obtain ⟨cur, hb, ht, hs, hn, hm, _⟩ := own_blk hown
  have hl : (xs.drop (j * size)).length = (n - j) * size := by rw [List.length_drop, hown.1, Nat.sub_mul]
  have m1 : i * size ≤ j * size := Nat.mul_le_mul_right _ hij
  have m2 : j * size ≤ n * size := Nat.mul_le_mul_right _ hj
  have m3 : n * size ≤ cur.size := by rw [hs]; exact Nat.mul_le_mul_right _ hn
  have hfit : i * size + (xs.drop (j * size)).length ≤ n * size := by rw [hl, Nat.sub_mul]; omega
  have hnews : ∀ k u, (xs.drop (j * size))[k]? = some u → w.cell? (a.add k) = some u := by
    intro k u hu
    have hk := (List.getElem?_eq_some_iff.1 hu).1
    by_cases hjn : j < n
    · rw [ha hjn]
      have e1 := hown.cells (g := b) rfl (j * size + k) u (by rw [← List.getElem?_drop]; exact hu)
      have e2 : (⟨b, 0, none⟩ : Addr).add (j * size + k) = (⟨b, j * size, none⟩ : Addr).add k := by
        unfold Addr.add
        split <;> split <;> simp_all
      rwa [e2] at e1
    · have : n - j = 0 := by omega
      rw [hl, this] at hk
      omega
  have hr := fun ty => run_append_room (P := P) w t ty e i0 hE.ht hi0 b i c cur hb a (n - j) c' (xs.drop (j * size)) (by rw [hsz]; exact hl) hnews (fun u hu => h1 u (List.mem_of_mem_drop hu)) (by omega) (by rw [hsz]; omega)
  refine ⟨_, hr, ?_⟩
  rw [hsz]
  refine h.app ?_ ?_ (.inl rfl)
  · refine own_of_blk (setRow_heap w b cur _ e _ hb) ?_ ?_ hn hm (Nat.zero_le _)
    · show (splice cur.toList (i * size) (xs.drop (j * size))).take (n * size) = _
      rw [splice_take _ _ _ _ hfit (by simpa using m3), ht]
    · rw [List.size_toArray]
      show (splice cur.toList (i * size) (xs.drop (j * size))).length = _
      rw [splice_length cur.toList (i * size) (xs.drop (j * size)) (by rw [Array.length_toList]; exact Nat.le_trans hfit m3), Array.length_toList, hs]
  · exact ⟨rfl, rfl, rfl, by simp, fun k _ hk => setRow_other w b k _ (fun e => hk (by simp [Value.ownBlock, e]))⟩
/-- clear(s[i:j]) within s -/
theorem St.run_clear (hE : ElemOf P t e z size bytes) (hz : ∀ w, (zeroValue e).run P w = .ok z w) (hz1 : ∀ u ∈ z.cells, u.oneCell' = true) {b n c : Nat} {xs : List Value} (h : St M0 w (rowR e size (.slice (some ⟨b, 0, none⟩) n c) n xs :: L)) (i j c' : Nat) (a : Addr) (ha : i < j → a = ⟨b, i * size, none⟩)
    (hij : i ≤ j) (hj : j ≤ n) :
    ∃ w' ys, (∀ ty, (Builtin.clear_ #[t] ty #[.slice (some a) (j - i) c']).run P w = .ok (.tuple #[]) w') ∧ ys.length = (j - i) * size ∧
      St M0 w' (rowR e size (.slice (some ⟨b, 0, none⟩) n c) n (splice xs (i * size) ys) :: L) := by
  by_cases hlt : i < j
  · rw [ha hlt]
    have hown := h.row 0 rfl
    have m1 : i * size + (j - i) * size ≤ n * size := by rw [← Nat.add_mul]; exact Nat.mul_le_mul_right _ (by omega)
    have hl : (Builtin.zeroCells z.cells (j - i)).toList.length = (j - i) * size := by rw [Array.length_toList, size_zeroCells, hE.hzs]
    have hth := own_there hown (i * size) ((j - i) * size) m1
    have hst := run_storeCells_cells (P := P) b (i * size) (Builtin.zeroCells z.cells (j - i)).toList 0 w (fun k hk => by rw [Nat.add_zero]; exact (hth k (by omega)).1) (fun k hk => by rw [Nat.add_zero]; exact (hth k (by omega)).2) (by
      intro u hu
      have hz0 : 0 < z.cells.size := by rw [hE.hzs]; exact hE.hsz
      unfold Builtin.zeroCells at hu
      rw [Array.toList_map, List.mem_map] at hu
      obtain ⟨k, _, rfl⟩ := hu
      have hk := Nat.mod_lt k hz0
      rw [getElem!_pos z.cells _ hk]
      exact hz1 _ (Array.getElem_mem hk))
    simp only [Nat.add_zero] at hst
    refine ⟨_, _, ?_, hl, h.rowSplice (i * size) _ (by rw [hl]; exact m1)⟩
    intro ty
    obtain ⟨m, hm⟩ : ∃ m, j - i = m + 1 := ⟨j - i - 1, by omega⟩
    rw [hm] at hst ⊢
    simp [Builtin.clear_, run_underlying hE.ht, hz, hst]
  · have h0 : j - i = 0 := by omega
    refine ⟨w, [], ?_, by rw [h0]; simp, by simpa [splice] using h⟩
    rw [h0]
    intro ty
    simp [Builtin.clear_, run_underlying hE.ht]
/-- append and clear as steps whose runs are known -/
theorem at_append {ops : Array Oper} {rest : List Oper} {o : Oper} {ac : Act} {Q : Exit → Act → World → Prop} {s x : Operand} {v u v' : Value} {w' : World} (t : TypeId) (hgd : o.guard = none)
    (ho : o.op = .call { callee := .builtin .append, args := #[s, x], argTypes := #[t, t] }) (hs : ac.eval s = v) (hx : ac.eval x = u)
    (hr : ∀ ty, (Builtin.append_ #[t, t] ty #[v, u]).run P w = .ok v' w') (k : wpList P ops Q rest (ac.put o.dst v') w') : wpList P ops Q (o :: rest) ac w := by
  refine wpList_plain hgd fun K hK => ?_
  unfold Oper.wp execOp
  simp only [ho, resolve, invoke, builtin, Sem.run_bind, Sem.run_pure, Result.andThen_ok, List.map_toArray, List.map_cons, List.map_nil, hs, hx, hr]
  exact hK _ _ k
theorem at_clear {ops : Array Oper} {rest : List Oper} {o : Oper} {ac : Act} {Q : Exit → Act → World → Prop} {s : Operand} {v : Value} {w' : World} (t : TypeId) (hgd : o.guard = none)
    (ho : o.op = .call { callee := .builtin .clear, args := #[s], argTypes := #[t] }) (hs : ac.eval s = v)
    (hr : ∀ ty, (Builtin.clear_ #[t] ty #[v]).run P w = .ok (.tuple #[]) w') (k : wpList P ops Q rest (ac.put o.dst (.tuple #[])) w') : wpList P ops Q (o :: rest) ac w := by
  refine wpList_plain hgd fun K hK => ?_
  unfold Oper.wp execOp
  simp only [ho, resolve, invoke, builtin, Sem.run_bind, Sem.run_pure, Result.andThen_ok, List.map_toArray, List.map_cons, List.map_nil, hs, hr]
  exact hK _ _ k
end
end Go.Proofs.Ytbgknfdaaffeaaa
