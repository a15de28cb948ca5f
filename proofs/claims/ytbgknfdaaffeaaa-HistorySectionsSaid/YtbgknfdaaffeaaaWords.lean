/- Slices that read as lists. -/
import Derived.Test.YtbgknfdaaffeaaaBase
namespace Go.Proofs.Ytbgknfdaaffeaaa
open Go.RowKit

theorem addr_block (a : Addr) (n : Nat) : (a.add n).block = a.block := by unfold Addr.add; split <;> rfl
theorem addr_add (a : Addr) (i j : Nat) : (a.add i).add j = a.add (i + j) := by
  unfold Addr.add
  by_cases hi : i = 0 <;> by_cases hj : j = 0 <;> simp [hi, hj, Nat.add_assoc]

/-- a slice of n elements of that many cells reads as xs; its cells lie in a block of which Q holds -/
def Sl (w : World) (Q : Nat → Prop) (size : Nat) (A : Option Addr) (n : Nat) (xs : List Value) : Prop :=
  xs.length = n * size ∧ (0 < n → ∃ ad, A = some ad ∧ Q ad.block ∧ ad.block < w.heap.size ∧ ∀ j u, xs[j]? = some u → w.cell? (ad.add j) = some u)

section
variable {w w' : World} {Q Q' : Nat → Prop} {size n : Nat} {A : Option Addr} {xs : List Value}
theorem Sl.nil_ (w : World) (Q : Nat → Prop) (size : Nat) (A : Option Addr) : Sl w Q size A 0 [] := ⟨by simp, fun h => absurd h (by omega)⟩
theorem Sl.at_ {k : Nat} (h : Sl w Q 1 A n xs) (hk : k < n) : ∃ ad u, A = some ad ∧ Q ad.block ∧ ad.block < w.heap.size ∧ xs[k]? = some u ∧ w.cell? (ad.add k) = some u := by
  obtain ⟨ad, e, hq, hb, hc⟩ := h.2 (by omega)
  have hl : k < xs.length := by have := h.1; omega
  exact ⟨ad, xs[k], e, hq, hb, List.getElem?_eq_getElem hl, hc k _ (List.getElem?_eq_getElem hl)⟩
theorem Sl.fr {S : Nat → Prop} (h : Sl w Q size A n xs) (hf : Fr S w w') (hq : ∀ b, Q b → b < w.heap.size → ¬ S b) : Sl w' Q size A n xs :=
  ⟨h.1, fun hn => by
    obtain ⟨ad, e, hQ, hb, hc⟩ := h.2 hn
    exact ⟨ad, e, hQ, Nat.lt_of_lt_of_le hb hf.size, fun j u hu => (hf.cell (p := ad.add j) (by rw [addr_block]; exact hb) (by rw [addr_block]; exact hq _ hQ hb)).trans (hc j u hu)⟩⟩
theorem Sl.non (h : Sl w Q size A n xs) (hf : Fr Non w w') : Sl w' Q size A n xs := h.fr hf (fun _ _ _ x => x)
theorem Sl.mono (h : Sl w Q size A n xs) (hq : ∀ b, Q b → b < w.heap.size → Q' b) : Sl w Q' size A n xs :=
  ⟨h.1, fun hn => by
    obtain ⟨ad, e, hQ, hb, hc⟩ := h.2 hn
    exact ⟨ad, e, hq _ hQ hb, hb, hc⟩⟩
theorem Sl.of_own {base : Nat} {e : TypeId} {c : Nat} (h : w.ownsRow base e size (.slice A n c) n xs) : Sl w (fun b => base ≤ b) size A n xs := by
  refine ⟨h.1, fun hn => ?_⟩
  rcases h.2 with ⟨_, h0⟩ | ⟨g, cap, cur, hv, hg, hh, _⟩
  · omega
  · have hA : A = some ⟨g, 0, none⟩ := by injection hv
    subst hA
    exact ⟨_, rfl, hg, Blk.lt hh, h.cells (g := g) rfl⟩
end

/-- a value that is a slice of numbers of kind k -/
def Nums (w : World) (Q : Nat → Prop) (k : IntKind) (v : Value) (xs : List Int) : Prop :=
  ∃ A c, v = .slice A xs.length c ∧ xs.length ≤ 140737488355328 ∧ Sl w Q 1 A xs.length (xs.map (Value.int k))

theorem Nums.fr {w w' : World} {Q S : Nat → Prop} {k : IntKind} {v : Value} {xs : List Int} (h : Nums w Q k v xs) (hf : Fr S w w') (hq : ∀ b, Q b → b < w.heap.size → ¬ S b) : Nums w' Q k v xs := by
  obtain ⟨A, c, e, hl, hs⟩ := h
  exact ⟨A, c, e, hl, hs.fr hf hq⟩
theorem Nums.non {w w' : World} {Q : Nat → Prop} {k : IntKind} {v : Value} {xs : List Int} (h : Nums w Q k v xs) (hf : Fr Non w w') : Nums w' Q k v xs := h.fr hf (fun _ _ _ x => x)
theorem Nums.of_own {w : World} {base : Nat} {e : TypeId} {k : IntKind} {v : Value} {xs : List Int} (h : w.ownsRow base e 1 v xs.length (xs.map (Value.int k))) (hl : xs.length ≤ 140737488355328) :
    Nums w (fun b => base ≤ b) k v xs := by
  have h' := h
  rcases h.2 with ⟨rfl, h0⟩ | ⟨g, cap, cur, rfl, _⟩
  · have hx : xs = [] := List.eq_nil_of_length_eq_zero h0
    subst hx
    exact ⟨none, 0, rfl, by simp, Sl.nil_ _ _ _ _⟩
  · exact ⟨_, _, rfl, hl, Sl.of_own h'⟩
theorem Nums.none_ (w : World) (Q : Nat → Prop) (k : IntKind) : Nums w Q k (.slice none 0 0) [] := ⟨none, 0, rfl, by simp, Sl.nil_ _ _ _ _⟩

theorem take_succ_eq {xs ys : List Int} {k : Nat} (hx : k < xs.length) (hy : k < ys.length) (h : xs.take k = ys.take k) (he : xs[k] = ys[k]) : xs.take (k + 1) = ys.take (k + 1) := by
  rw [List.take_succ_eq_append_getElem hx, List.take_succ_eq_append_getElem hy, h, he]

/-- append of one value of one cell to a slice of the call's own -/
theorem append1 {P : Program} {ops : Array Oper} {rest : List Oper} {o : Oper} {a : Act} {Q : Exit → Act → World → Prop} {w : World} (hgd : o.guard = none) (s x : Operand) (t : TypeId)
    (ho : o.op = .call { callee := .builtin .append, args := #[s, x], argTypes := #[t, t] })
    (base : Nat) (e : TypeId) (z : Value) (bytes : Nat) (ht : P.underlying t = some (.slice e)) (hinfo : (P.info? e).map (fun i => (i.zero, i.size, i.bytes)) = some (some z, 1, bytes)) (hzs : z.cells.size = 1)
    (v : Value) (n : Nat) (xs : List Value) (hs : a.eval s = v) (hown : w.ownsRow base e 1 v n xs)
    (g : Nat) (u : Value) (hx : a.eval x = .slice (some ⟨g, 0, none⟩) 1 1) (hc : w.cell? ⟨g, 0, none⟩ = some u) (h1 : u.oneCell' = true)
    (hbytes : (n + 1) * bytes ≤ 140737488355328) (hn : n + 1 ≤ 140737488355328) (hbase : base ≤ w.heap.size)
    (h : ∀ v' w', w'.ownsRow base e 1 v' (n + 1) (xs ++ [u]) → Fr (fun b => base ≤ b) w w' → wpList P ops Q rest (a.put o.dst v') w') : wpList P ops Q (o :: rest) a w := by
  obtain ⟨i0, hi0, hz0, hz1, hz2⟩ := info_parts hinfo
  refine wpList_append_own w hgd s x t ho base e i0 z 1 bytes ht hi0 hz0 hz1 hz2 hzs (by decide) v n xs hs hown ⟨g, 0, none⟩ 1 1 [u] hx rfl ?_ ?_ (by unfold maxLen; omega) hbytes hbase ?_
  · intro j y hy
    match j, hy with
    | 0, hy =>
      obtain rfl : u = y := by simpa using hy
      exact hc
    | j + 1, hy => simp at hy
  · intro y hy
    simp at hy
    subst hy
    exact h1
  · intro v' w' h2 h3 _
    exact h v' w' h2 ((Fr.refl _ _).grown h3 (fun k hk _ => (hown.lt k hk).1))

theorem own_congr {w : World} {base : Nat} {e : TypeId} {size : Nat} {v : Value} {n m : Nat} {xs ys : List Value} (h : w.ownsRow base e size v n xs) (hn : n = m) (hx : xs = ys) : w.ownsRow base e size v m ys := by subst hn; subst hx; exact h
theorem own_fr {S : Nat → Prop} {w w' : World} {base : Nat} {e : TypeId} {size : Nat} {v : Value} {n : Nat} {xs : List Value} (h : w.ownsRow base e size v n xs) (hf : Fr S w w') (hs : ∀ g, v.ownBlock = some g → ¬ S g) : w'.ownsRow base e size v n xs := by
  refine ⟨h.1, ?_⟩
  rcases h.2 with h2 | ⟨g, cap, cur, rfl, hg, hh, r⟩
  · exact .inl h2
  · exact .inr ⟨g, cap, cur, rfl, hg, (hf.block g (Blk.lt hh) (hs g rfl)).trans hh, r⟩
theorem own_non {w w' : World} {base : Nat} {e : TypeId} {size : Nat} {v : Value} {n : Nat} {xs : List Value} (h : w.ownsRow base e size v n xs) (hf : Fr Non w w') : w'.ownsRow base e size v n xs := own_fr h hf (fun _ _ x => x)

theorem cell_new (w : World) (e : TypeId) (u : Value) {g : Nat} (h : g = w.heap.size) : (w.alloc (.cells #[u] e)).cell? ⟨g, 0, none⟩ = some u := by subst h; exact (Blk.new _ _ _).cell 0

end Go.Proofs.Ytbgknfdaaffeaaa
