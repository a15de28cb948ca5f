/- Small words and lemmas used by all proofs of this seat: a block that is known whole, and frames. -/
import Derived.WalkKit
import Derived.WalkSpells
import Derived.WalkLawsBesides
import Derived.BigQuiet
import Derived.Deep.QuietTactic
import Derived.BigRegion
import Derived.Deep.MidRow
import Derived.Maps.AppendAt
import Derived.StillTailTactics
import Derived.Deep.RegionLaw
import Derived.Great.BuildSlice
import Derived.OrdersHeld
namespace Go.Proofs.YtpaelngpmbeedaaGreatDoor
open Go.RowKit

theorem hide {p : Prop} (h : p) : Hid p := h

theorem isF {a b : Int} (h : a ≠ b) : (a == b) = false := by simpa using h
theorem isN {a b : Int} (h : a ≠ b) : (a != b) = true := bne_iff_ne.2 h
theorem isNF {a b : Int} (h : a = b) : (a != b) = false := by simp [h]
theorem isT {a b : Int} (h : a = b) : (a == b) = true := by simpa using h

/-- the blocks below the heap's size are as they were, but those in S -/
structure Fr (S : Nat → Prop) (w w' : World) : Prop where
  os : w'.os = w.os
  tape : w'.tape = w.tape
  output : w'.output = w.output
  size : w.heap.size ≤ w'.heap.size
  block : ∀ k, k < w.heap.size → ¬ S k → w'.heap[k]? = w.heap[k]?

def Non : Nat → Prop := fun _ => False

theorem Fr.refl (S : Nat → Prop) (w : World) : Fr S w w := ⟨rfl, rfl, rfl, Nat.le_refl _, fun _ _ _ => rfl⟩
theorem Fr.trans {S : Nat → Prop} {a b c : World} (h : Fr S a b) (k : Fr S b c) : Fr S a c :=
  ⟨k.os.trans h.os, k.tape.trans h.tape, k.output.trans h.output, Nat.le_trans h.size k.size, fun i hi hs => (k.block i (Nat.lt_of_lt_of_le hi h.size) hs).trans (h.block i hi hs)⟩
/-- the second step may change what is in T: each such block is new, or in S -/
theorem Fr.step {S T : Nat → Prop} {a b c : World} (h : Fr S a b) (k : Fr T b c) (hT : ∀ i, T i → i < a.heap.size → S i) : Fr S a c :=
  ⟨k.os.trans h.os, k.tape.trans h.tape, k.output.trans h.output, Nat.le_trans h.size k.size, fun i hi hs => (k.block i (Nat.lt_of_lt_of_le hi h.size) (fun ht => hs (hT i ht hi))).trans (h.block i hi hs)⟩
theorem Fr.mono {S T : Nat → Prop} {a b : World} (h : Fr S a b) (hT : ∀ i, i < a.heap.size → S i → T i) : Fr T a b :=
  ⟨h.os, h.tape, h.output, h.size, fun i hi hs => h.block i hi (fun h' => hs (hT i hi h'))⟩
theorem Fr.drew {S : Nat → Prop} {a w : World} (h : Fr S a w) : Fr S a w.drew := ⟨h.os, h.tape, h.output, h.size, h.block⟩
theorem Fr.drewN {S : Nat → Prop} {a w : World} (h : Fr S a w) (n : Nat) : Fr S a (w.drewN n) := ⟨h.os, h.tape, h.output, h.size, h.block⟩
theorem Fr.alloc {S : Nat → Prop} {a w : World} (h : Fr S a w) (o : Obj) : Fr S a (w.alloc o) :=
  ⟨h.os, h.tape, h.output, Nat.le_trans h.size (by simp), fun k hk hs => (Below.heap_alloc _ _ _ (Nat.lt_of_lt_of_le hk h.size)).trans (h.block k hk hs)⟩
theorem Fr.setCell {S : Nat → Prop} {a w : World} (h : Fr S a w) {p : Addr} (hp : p.block < a.heap.size → S p.block) (u : Value) : Fr S a (w.setCell p u) :=
  ⟨h.os, h.tape, h.output, by simpa [World.setCell] using h.size, fun k hk hs => (Below.heap_setCell _ _ _ _ (by rintro rfl; exact hs (hp hk))).trans (h.block k hk hs)⟩
theorem Fr.grown {S : Nat → Prop} {a w w' : World} {row : Option Nat} (h : Fr S a w) (hg : w.grownBy w' row) (hr : ∀ k, row = some k → k < a.heap.size → S k) : Fr S a w' :=
  ⟨hg.os.trans h.os, hg.tape.trans h.tape, hg.output.trans h.output, Nat.le_trans h.size hg.size, fun k hk hs => (hg.block k (Nat.lt_of_lt_of_le hk h.size) (fun e => hs (hr k e.symm hk))).trans (h.block k hk hs)⟩
theorem Fr.of_below {S : Nat → Prop} {a w : World} (h : Below a.heap.size a w) : Fr S a w := ⟨h.os, h.tape, h.output, h.size, fun k hk _ => h.block k hk⟩
theorem Fr.below {a w : World} (h : Fr Non a w) : Below a.heap.size a w := ⟨h.os, h.tape, h.output, h.size, fun k hk => h.block k hk (fun x => x)⟩
theorem Fr.any {S : Nat → Prop} {a w : World} (h : Fr Non a w) : Fr S a w := h.mono (fun _ _ x => x.elim)
theorem Fr.cell {S : Nat → Prop} {w w' : World} (h : Fr S w w') {p : Addr} (hp : p.block < w.heap.size) (hs : ¬ S p.block) : w'.cell? p = w.cell? p := World.cell?_of_block (w := w) (h.block p.block hp hs)
theorem Fr.frozen {S : Nat → Prop} {w w' : World} (h : Fr S w w') {p : Addr} (hp : p.block < w.heap.size) (hs : ¬ S p.block) : w'.frozen? p = w.frozen? p := World.frozen?_of_block (w := w) (h.block p.block hp hs)

/-- block g is just the cells cs of element type t, none frozen -/
def Blk (w : World) (g : Nat) (t : TypeId) (cs : Array Value) : Prop := w.heap[g]? = some (.cells cs t (0, 0))

section
variable {w w' : World} {g : Nat} {t : TypeId} {cs : Array Value}
theorem Blk.lt (h : Blk w g t cs) : g < w.heap.size := by
  rcases Nat.lt_or_ge g w.heap.size with hlt | hge
  · exact hlt
  · unfold Blk at h; rw [Array.getElem?_eq_none hge] at h; cases h
theorem Blk.cell (h : Blk w g t cs) (i : Nat) : w.cell? ⟨g, i, none⟩ = cs[i]? := cell_of_row w g i cs t (0, 0) h
theorem Blk.frozen (h : Blk w g t cs) (i : Nat) : w.frozen? ⟨g, i, none⟩ = false := by
  unfold Blk at h
  simp [World.frozen?, h]
theorem Blk.new (w : World) (t : TypeId) (cs : Array Value) : Blk (w.alloc (.cells cs t)) w.heap.size t cs := heap_alloc_new w _
theorem Blk.drew (h : Blk w g t cs) : Blk w.drew g t cs := h
theorem Blk.drewN (h : Blk w g t cs) (n : Nat) : Blk (w.drewN n) g t cs := h
theorem Blk.alloc (h : Blk w g t cs) (o : Obj) : Blk (w.alloc o) g t cs := (Below.heap_alloc w o g h.lt).trans h
theorem Blk.set_ (h : Blk w g t cs) (i : Nat) (u : Value) : Blk (w.setCell ⟨g, i, none⟩ u) g t (cs.setIfInBounds i u) := by
  unfold Blk at h ⊢
  simp [World.setCell, Array.getElem?_modify, h]
theorem Blk.far (h : Blk w g t cs) {p : Addr} (hp : g ≠ p.block) (u : Value) : Blk (w.setCell p u) g t cs := (Below.heap_setCell w p u g hp).trans h
theorem Blk.fr {S : Nat → Prop} (h : Blk w g t cs) (hb : Fr S w w') (hg : ¬ S g) : Blk w' g t cs := (hb.block g h.lt hg).trans h
theorem Blk.ne_ {g' : Nat} {t' : TypeId} {cs' : Array Value} (h : Blk w g t cs) (h' : Blk w g' t' cs') (hne : t ≠ t') : g ≠ g' := by
  rintro rfl
  unfold Blk at h h'
  rw [h] at h'
  injection h' with h'
  injection h' with _ ht
  exact hne ht
end

/-- an operation behind an undecided guard that reads alone: no parting of ways -/
theorem wpList_gq {P : Program} {ops : Array Oper} {Q : Exit → Act → World → Prop} {a : Act} {w : World} {rest : List Oper} {o : Oper} {b : Bool} {v : Value} {jw : Nat × Bool} (_hg : o.guard = some jw)
    (hb : Region.wanted o (yielded ops a.tmps) = b) (h : b = true → (execOp a.eval o).run P w = .ok (.value v) w)
    (hk : wpList P ops Q rest (a.put o.dst (if b = true then v else undef)) w) : wpList P ops Q (o :: rest) a w := by
  unfold wpList
  cases b with
  | true =>
    rw [if_pos hb]
    refine .inl ?_
    unfold Oper.wp
    rw [h rfl]
    simpa [Oper.upon] using hk
  | false =>
    rw [if_neg (by simp [hb])]
    simpa using hk

end Go.Proofs.YtpaelngpmbeedaaGreatDoor
/- Slices that read as lists. -/
namespace Go.Proofs.YtpaelngpmbeedaaGreatDoor
open Go.RowKit

theorem addr_block (a : Addr) (n : Nat) : (a.add n).block = a.block := by unfold Addr.add; split <;> rfl
theorem addr_add (a : Addr) (i j : Nat) : (a.add i).add j = a.add (i + j) := by
  unfold Addr.add
  by_cases hi : i = 0 <;> by_cases hj : j = 0 <;> simp [hi, hj, Nat.add_assoc]

/-- a slice of n elements of that many cells reads as xs; its cells lie in a block of which Q holds -/
def Sl (w : World) (Q : Nat → Prop) (size : Nat) (A : Option Addr) (n : Nat) (xs : List Value) : Prop :=
  xs.length = n * size ∧ (0 < n → ∃ ad, A = some ad ∧ Q ad.block ∧ ad.block < w.heap.size ∧ ∀ j u, xs[j]? = some u → w.cell? (ad.add j) = some u)

section
variable {w w' : World} {Q Q' : Nat → Prop} {size n : Nat} {A : Option Addr} {xs : List Value}
theorem Sl.nil_ (w : World) (Q : Nat → Prop) (size : Nat) (A : Option Addr) : Sl w Q size A 0 [] := ⟨by simp, fun h => absurd h (by omega)⟩
theorem Sl.at_ {k : Nat} (h : Sl w Q 1 A n xs) (hk : k < n) : ∃ ad u, A = some ad ∧ Q ad.block ∧ ad.block < w.heap.size ∧ xs[k]? = some u ∧ w.cell? (ad.add k) = some u := by
  obtain ⟨ad, e, hq, hb, hc⟩ := h.2 (by omega)
  have hl : k < xs.length := by have := h.1; omega
  exact ⟨ad, xs[k], e, hq, hb, List.getElem?_eq_getElem hl, hc k _ (List.getElem?_eq_getElem hl)⟩
theorem Sl.fr {S : Nat → Prop} (h : Sl w Q size A n xs) (hf : Fr S w w') (hq : ∀ b, Q b → b < w.heap.size → ¬ S b) : Sl w' Q size A n xs :=
  ⟨h.1, fun hn => by
    obtain ⟨ad, e, hQ, hb, hc⟩ := h.2 hn
    exact ⟨ad, e, hQ, Nat.lt_of_lt_of_le hb hf.size, fun j u hu => (hf.cell (p := ad.add j) (by rw [addr_block]; exact hb) (by rw [addr_block]; exact hq _ hQ hb)).trans (hc j u hu)⟩⟩
theorem Sl.non (h : Sl w Q size A n xs) (hf : Fr Non w w') : Sl w' Q size A n xs := h.fr hf (fun _ _ _ x => x)
theorem Sl.mono (h : Sl w Q size A n xs) (hq : ∀ b, Q b → b < w.heap.size → Q' b) : Sl w Q' size A n xs :=
  ⟨h.1, fun hn => by
    obtain ⟨ad, e, hQ, hb, hc⟩ := h.2 hn
    exact ⟨ad, e, hq _ hQ hb, hb, hc⟩⟩
theorem Sl.of_own {base : Nat} {e : TypeId} {c : Nat} (h : w.ownsRow base e size (.slice A n c) n xs) : Sl w (fun b => base ≤ b) size A n xs := by
  refine ⟨h.1, fun hn => ?_⟩
  rcases h.2 with ⟨_, h0⟩ | ⟨g, cap, cur, hv, hg, hh, _⟩
  · omega
  · have hA : A = some ⟨g, 0, none⟩ := by injection hv
    subst hA
    exact ⟨_, rfl, hg, Blk.lt hh, h.cells (g := g) rfl⟩
end

/-- a value that is a slice of numbers of kind k -/
def Nums (w : World) (Q : Nat → Prop) (k : IntKind) (v : Value) (xs : List Int) : Prop :=
  ∃ A c, v = .slice A xs.length c ∧ xs.length ≤ 140737488355328 ∧ Sl w Q 1 A xs.length (xs.map (Value.int k))

theorem Nums.fr {w w' : World} {Q S : Nat → Prop} {k : IntKind} {v : Value} {xs : List Int} (h : Nums w Q k v xs) (hf : Fr S w w') (hq : ∀ b, Q b → b < w.heap.size → ¬ S b) : Nums w' Q k v xs := by
  obtain ⟨A, c, e, hl, hs⟩ := h
  exact ⟨A, c, e, hl, hs.fr hf hq⟩
theorem Nums.non {w w' : World} {Q : Nat → Prop} {k : IntKind} {v : Value} {xs : List Int} (h : Nums w Q k v xs) (hf : Fr Non w w') : Nums w' Q k v xs := h.fr hf (fun _ _ _ x => x)
theorem Nums.of_own {w : World} {base : Nat} {e : TypeId} {k : IntKind} {v : Value} {xs : List Int} (h : w.ownsRow base e 1 v xs.length (xs.map (Value.int k))) (hl : xs.length ≤ 140737488355328) :
    Nums w (fun b => base ≤ b) k v xs := by
  have h' := h
  rcases h.2 with ⟨rfl, h0⟩ | ⟨g, cap, cur, rfl, _⟩
  · have hx : xs = [] := List.eq_nil_of_length_eq_zero h0
    subst hx
    exact ⟨none, 0, rfl, by simp, Sl.nil_ _ _ _ _⟩
  · exact ⟨_, _, rfl, hl, Sl.of_own h'⟩
theorem Nums.none_ (w : World) (Q : Nat → Prop) (k : IntKind) : Nums w Q k (.slice none 0 0) [] := ⟨none, 0, rfl, by simp, Sl.nil_ _ _ _ _⟩

theorem take_succ_eq {xs ys : List Int} {k : Nat} (hx : k < xs.length) (hy : k < ys.length) (h : xs.take k = ys.take k) (he : xs[k] = ys[k]) : xs.take (k + 1) = ys.take (k + 1) := by
  rw [List.take_succ_eq_append_getElem hx, List.take_succ_eq_append_getElem hy, h, he]

/-- append of one value of one cell to a slice of the call's own -/
theorem append1 {P : Program} {ops : Array Oper} {rest : List Oper} {o : Oper} {a : Act} {Q : Exit → Act → World → Prop} {w : World} (hgd : o.guard = none) (s x : Operand) (t : TypeId)
    (ho : o.op = .call { callee := .builtin .append, args := #[s, x], argTypes := #[t, t] })
    (base : Nat) (e : TypeId) (z : Value) (bytes : Nat) (ht : P.underlying t = some (.slice e)) (hinfo : (P.info? e).map (fun i => (i.zero, i.size, i.bytes)) = some (some z, 1, bytes)) (hzs : z.cells.size = 1)
    (v : Value) (n : Nat) (xs : List Value) (hs : a.eval s = v) (hown : w.ownsRow base e 1 v n xs)
    (g : Nat) (u : Value) (hx : a.eval x = .slice (some ⟨g, 0, none⟩) 1 1) (hc : w.cell? ⟨g, 0, none⟩ = some u) (h1 : u.oneCell' = true)
    (hbytes : (n + 1) * bytes ≤ 140737488355328) (hn : n + 1 ≤ 140737488355328) (hbase : base ≤ w.heap.size)
    (h : ∀ v' w', w'.ownsRow base e 1 v' (n + 1) (xs ++ [u]) → Fr (fun b => base ≤ b) w w' → wpList P ops Q rest (a.put o.dst v') w') : wpList P ops Q (o :: rest) a w := by
  obtain ⟨i0, hi0, hz0, hz1, hz2⟩ := info_parts hinfo
  refine wpList_append_own w hgd s x t ho base e i0 z 1 bytes ht hi0 hz0 hz1 hz2 hzs (by decide) v n xs hs hown ⟨g, 0, none⟩ 1 1 [u] hx rfl ?_ ?_ (by unfold maxLen; omega) hbytes hbase ?_
  · intro j y hy
    match j, hy with
    | 0, hy =>
      obtain rfl : u = y := by simpa using hy
      exact hc
    | j + 1, hy => simp at hy
  · intro y hy
    simp at hy
    subst hy
    exact h1
  · intro v' w' h2 h3 _
    exact h v' w' h2 ((Fr.refl _ _).grown h3 (fun k hk _ => (hown.lt k hk).1))

theorem own_congr {w : World} {base : Nat} {e : TypeId} {size : Nat} {v : Value} {n m : Nat} {xs ys : List Value} (h : w.ownsRow base e size v n xs) (hn : n = m) (hx : xs = ys) : w.ownsRow base e size v m ys := by subst hn; subst hx; exact h
theorem own_fr {S : Nat → Prop} {w w' : World} {base : Nat} {e : TypeId} {size : Nat} {v : Value} {n : Nat} {xs : List Value} (h : w.ownsRow base e size v n xs) (hf : Fr S w w') (hs : ∀ g, v.ownBlock = some g → ¬ S g) : w'.ownsRow base e size v n xs := by
  refine ⟨h.1, ?_⟩
  rcases h.2 with h2 | ⟨g, cap, cur, rfl, hg, hh, r⟩
  · exact .inl h2
  · exact .inr ⟨g, cap, cur, rfl, hg, (hf.block g (Blk.lt hh) (hs g rfl)).trans hh, r⟩
theorem own_non {w w' : World} {base : Nat} {e : TypeId} {size : Nat} {v : Value} {n : Nat} {xs : List Value} (h : w.ownsRow base e size v n xs) (hf : Fr Non w w') : w'.ownsRow base e size v n xs := own_fr h hf (fun _ _ x => x)

theorem cell_new (w : World) (e : TypeId) (u : Value) {g : Nat} (h : g = w.heap.size) : (w.alloc (.cells #[u] e)).cell? ⟨g, 0, none⟩ = some u := by subst h; exact (Blk.new _ _ _).cell 0

end Go.Proofs.YtpaelngpmbeedaaGreatDoor
/- Rows of cells: many cells written at once, read at once; an append whose row is the old one or a new one. -/
namespace Go.Proofs.YtpaelngpmbeedaaGreatDoor
open Go.RowKit

/-- a list in which vs stands from o on -/
def splice {α : Type} (xs : List α) (o : Nat) (vs : List α) : List α := xs.take o ++ vs ++ xs.drop (o + vs.length)
theorem splice_length {α : Type} (xs : List α) (o : Nat) (vs : List α) (h : o + vs.length ≤ xs.length) : (splice xs o vs).length = xs.length := by
  unfold splice
  simp
  omega
theorem splice_take {α : Type} (xs : List α) (o m : Nat) (vs : List α) (h : o + vs.length ≤ m) (_hm : m ≤ xs.length) : (splice xs o vs).take m = splice (xs.take m) o vs := by
  unfold splice
  rw [List.take_append, List.take_append, List.drop_take]
  simp only [List.length_append, List.length_take, List.take_take]
  congr 1
  · congr 1
    · congr 1; omega
    · rw [List.take_of_length_le (by omega)]
  · congr 1; omega
theorem splice_map {α β : Type} (f : α → β) (xs : List α) (o : Nat) (vs : List α) : (splice xs o vs).map f = splice (xs.map f) o (vs.map f) := by
  unfold splice
  simp [List.map_append, List.map_take, List.map_drop]
theorem splice_cons {α : Type} (xs : List α) (o : Nat) (v : α) (vs : List α) (h : o + (vs.length + 1) ≤ xs.length) : splice (xs.set o v) (o + 1) vs = splice xs o (v :: vs) := by
  unfold splice
  rw [List.drop_set_of_lt (by omega), List.length_cons, show o + 1 + vs.length = o + (vs.length + 1) by omega]
  have : (xs.set o v).take (o + 1) = xs.take o ++ [v] := by
    rw [List.take_succ_eq_append_getElem (by simp; omega)]
    simp [List.take_set_of_le]
  rw [this]
  simp

theorem blk_setCells (b : Nat) (e : TypeId) : ∀ (vs : List Value) (o : Nat) (cur : Array Value) (w : World), Blk w b e cur → o + vs.length ≤ cur.size → Blk (w.setCells b o vs) b e (splice cur.toList o vs).toArray
  | [], o, cur, w, h, _ => by simpa [World.setCells, splice] using h
  | v :: vs, o, cur, w, h, hl => by
    rw [World.setCells]
    have h1 := blk_setCells b e vs (o + 1) _ _ (h.set_ o v) (by simp at hl ⊢; omega)
    have h2 : (cur.setIfInBounds o v).toList = cur.toList.set o v := by simp
    rw [h2, splice_cons _ _ _ _ (by simpa using hl)] at h1
    exact h1

theorem fr_setCells {S : Nat → Prop} {a : World} (b : Nat) : ∀ (vs : List Value) (o : Nat) (w : World), Fr S a w → (b < a.heap.size → S b) → Fr S a (w.setCells b o vs)
  | [], _, _, h, _ => by simpa [World.setCells] using h
  | v :: vs, o, w, h, hb => by
    rw [World.setCells]
    exact fr_setCells b vs (o + 1) _ (h.setCell hb v) hb

section
variable {w w' : World} {base : Nat} {e : TypeId} {size n b cap : Nat} {xs vs : List Value}

theorem own_blk (h : w.ownsRow base e size (.slice (some ⟨b, 0, none⟩) n cap) n xs) : ∃ cur, Blk w b e cur ∧ cur.toList.take (n * size) = xs ∧ cur.size = cap * size ∧ n ≤ cap ∧ cap ≤ maxLen ∧ base ≤ b := by
  rcases h.2 with ⟨h0, _⟩ | ⟨g, c, cur, hv, hg, hh, hn, hm, hs, ht⟩
  · cases h0
  · simp only [Value.slice.injEq, Option.some.injEq, Addr.mk.injEq, and_true, true_and] at hv
    obtain ⟨rfl, rfl⟩ := hv
    exact ⟨cur, hh, ht, hs, hn, hm, hg⟩

theorem own_of_blk {cur : Array Value} (h : Blk w b e cur) (ht : cur.toList.take (n * size) = xs) (hs : cur.size = cap * size) (hn : n ≤ cap) (hm : cap ≤ maxLen) (hb : base ≤ b) :
    w.ownsRow base e size (.slice (some ⟨b, 0, none⟩) n cap) n xs :=
  ⟨by rw [← ht, List.length_take, Array.length_toList, hs]; exact Nat.min_eq_left (Nat.mul_le_mul_right _ hn), .inr ⟨b, cap, cur, rfl, hb, h, hn, hm, hs, ht⟩⟩

theorem own_setCells (h : w.ownsRow base e size (.slice (some ⟨b, 0, none⟩) n cap) n xs) (o : Nat) (ho : o + vs.length ≤ n * size) :
    (w.setCells b o vs).ownsRow base e size (.slice (some ⟨b, 0, none⟩) n cap) n (splice xs o vs) := by
  obtain ⟨cur, hb, ht, hs, hn, hm, hg⟩ := own_blk h
  have hle : n * size ≤ cur.size := by rw [hs]; exact Nat.mul_le_mul_right _ hn
  refine own_of_blk (blk_setCells b e vs o cur w hb (by omega)) ?_ ?_ hn hm hg
  · simp only
    rw [splice_take _ _ _ _ ho (by simpa using hle), ht]
  · rw [List.size_toArray, splice_length _ _ _ (by simp; omega), Array.length_toList, hs]

theorem own_range (h : w.ownsRow base e size (.slice (some ⟨b, 0, none⟩) n cap) n xs) (o k : Nat) : w.rangeAt b o ((xs.drop o).take k) := by
  obtain ⟨cur, hb, ht, _⟩ := own_blk h
  intro j v hv
  rw [hb.cell]
  rw [List.getElem?_take] at hv
  split at hv
  · rw [List.getElem?_drop, ← ht, List.getElem?_take] at hv
    split at hv
    · simpa using hv
    · cases hv
  · cases hv

theorem own_there (h : w.ownsRow base e size (.slice (some ⟨b, 0, none⟩) n cap) n xs) (o k : Nat) (ho : o + k ≤ n * size) : w.there b o k := by
  obtain ⟨cur, hb, ht, hs, hn, _⟩ := own_blk h
  have hle : n * size ≤ cur.size := by rw [hs]; exact Nat.mul_le_mul_right _ hn
  intro j hj
  exact ⟨by rw [hb.cell, Array.getElem?_eq_getElem (show o + j < cur.size by omega)]; rfl, hb.frozen _⟩

theorem own_fr1 {S : Nat → Prop} (h : w.ownsRow base e size (.slice (some ⟨b, 0, none⟩) n cap) n xs) (hf : Fr S w w') (hs : ¬ S b) : w'.ownsRow base e size (.slice (some ⟨b, 0, none⟩) n cap) n xs :=
  own_fr h hf (fun g hg => by obtain rfl : b = g := by simpa [Value.ownBlock] using hg
                              exact hs)

theorem own_form {A : Option Addr} {c : Nat} (h : w.ownsRow base e size (.slice A n c) n xs) (hn : 0 < n) : ∃ g, A = some ⟨g, 0, none⟩ := by
  rcases h.2 with ⟨_, h0⟩ | ⟨g, cap, cur, hv, _⟩
  · omega
  · exact ⟨g, by injection hv⟩
end

theorem Blk.range {w : World} {b : Nat} {e : TypeId} {cur : Array Value} (h : Blk w b e cur) (o k : Nat) : w.rangeAt b o ((cur.toList.drop o).take k) := by
  intro j v hv
  rw [h.cell]
  rw [List.getElem?_take] at hv
  split at hv
  · rw [List.getElem?_drop] at hv
    simpa using hv
  · cases hv
theorem Blk.there {w : World} {b : Nat} {e : TypeId} {cur : Array Value} (h : Blk w b e cur) (o k : Nat) (ho : o + k ≤ cur.size) : w.there b o k := by
  intro j hj
  exact ⟨by rw [h.cell, Array.getElem?_eq_getElem (show o + j < cur.size by omega)]; rfl, h.frozen _⟩

/-- append, as a run: of m elements, that lie at an address, to a row of one's own; the row behind it is the old one or a new one -/
theorem run_append_at {P : Program} {w : World} (t ty : TypeId) (base : Nat) (e : TypeId) (z : Value) (size bytes : Nat) (ht : P.underlying t = some (.slice e))
    (hinfo : (P.info? e).map (fun i => (i.zero, i.size, i.bytes)) = some (some z, size, bytes)) (hzs : z.cells.size = size) (hsz : 0 < size)
    (v : Value) (n : Nat) (xs : List Value) (hown : w.ownsRow base e size v n xs)
    (a : Addr) (m c : Nat) (news : List Value) (hl : news.length = m * size) (hc : ∀ j u, news[j]? = some u → w.cell? (a.add j) = some u) (h1 : ∀ u ∈ news, u.oneCell' = true)
    (hbytes : (n + m) * bytes ≤ 140737488355328) (hn : n + m ≤ 140737488355328) (hbase : base ≤ w.heap.size) :
    ∃ v' w', (Builtin.append_ #[t, t] ty #[v, .slice (some a) m c]).run P w = .ok v' w' ∧ w'.ownsRow base e size v' (n + m) (xs ++ news) ∧ Fr (fun b => v.ownBlock = some b) w w' ∧
      (v'.ownBlock = v.ownBlock ∨ v'.ownBlock = some w.heap.size) := by
  obtain ⟨i0, hi0, hz0, hz1, hz2⟩ := info_parts hinfo
  obtain ⟨v', w', h1, h2, h3, _, h5⟩ := run_append_own_at (P := P) w base t ty e i0 z size bytes ht hi0 hz0 hz1 hz2 hzs hsz v n xs hown a m c news hl hc h1 (by unfold maxLen; omega) hbytes hbase
  exact ⟨v', w', h1, h2, (Fr.refl _ _).grown h3 (fun k hk _ => hk), h5⟩

/-- the same as a step of the walk -/
theorem append_at {P : Program} {ops : Array Oper} {rest : List Oper} {o : Oper} {ac : Act} {Q : Exit → Act → World → Prop} {w : World} (hgd : o.guard = none) (s x : Operand) (t : TypeId)
    (ho : o.op = .call { callee := .builtin .append, args := #[s, x], argTypes := #[t, t] })
    (base : Nat) (e : TypeId) (z : Value) (size bytes : Nat) (ht : P.underlying t = some (.slice e))
    (hinfo : (P.info? e).map (fun i => (i.zero, i.size, i.bytes)) = some (some z, size, bytes)) (hzs : z.cells.size = size) (hsz : 0 < size)
    (v : Value) (n : Nat) (xs : List Value) (hs : ac.eval s = v) (hown : w.ownsRow base e size v n xs)
    (a : Addr) (m c : Nat) (hx : ac.eval x = .slice (some a) m c) (news : List Value) (hl : news.length = m * size) (hc : ∀ j u, news[j]? = some u → w.cell? (a.add j) = some u) (h1 : ∀ u ∈ news, u.oneCell' = true)
    (hbytes : (n + m) * bytes ≤ 140737488355328) (hn : n + m ≤ 140737488355328) (hbase : base ≤ w.heap.size)
    (h : ∀ v' w', w'.ownsRow base e size v' (n + m) (xs ++ news) → Fr (fun b => v.ownBlock = some b) w w' → (v'.ownBlock = v.ownBlock ∨ v'.ownBlock = some w.heap.size) → wpList P ops Q rest (ac.put o.dst v') w') :
    wpList P ops Q (o :: rest) ac w := by
  obtain ⟨v', w', hrun, h2, h3, h4⟩ := run_append_at (P := P) (w := w) t o.type base e z size bytes ht hinfo hzs hsz v n xs hown a m c news hl hc h1 hbytes hn hbase
  refine wpList_plain hgd fun K hK => ?_
  unfold Oper.wp execOp
  simp only [ho, resolve, invoke, builtin, Sem.run_bind, Sem.run_pure, Result.andThen_ok, List.map_toArray, List.map_cons, List.map_nil, hs, hx, hrun]
  exact hK _ _ (h v' w' h2 h3 h4)

theorem nums_oneCell (k : IntKind) (l : List Int) : ∀ u ∈ l.map (Value.int k), u.oneCell' = true := by
  intro u hu
  obtain ⟨x, _, rfl⟩ := List.mem_map.1 hu
  rfl

/-- a region that draws its order: n operations that only read, then the rest in order; the world behind the draw under a name of its own -/
theorem region_tail {P : Program} {id : Nat} {Q : Exit → Act → World → Prop} {a : Act} {w : World} {l : List Oper} (n : Nat) (hm : P.follows .mixedOrders = true) (hB : Region.lexTailB .any l.toArray n = true)
    (h : ∀ W : World, W = w.drew → wpStill P l.toArray W (fun a' => wpList P l.toArray Q (l.drop n) a' W) (l.take n) a) : (Code.region id l.toArray true).wp P Q a w :=
  wp_region_still_tail n hm hB (h _ rfl)

theorem drew_cell (w : World) (p : Addr) : w.drew.cell? p = w.cell? p := rfl
theorem drew_frozen (w : World) (p : Addr) : w.drew.frozen? p = w.frozen? p := rfl

/-- the append as a step of a region that draws its order -/
theorem step_append_at {P : Program} {ops : Array Oper} {o : Oper} {ac : Act} {K : Act → World → Prop} {Q : Exit → Act → World → Prop} {E : Prop} {w : World} (hgd : o.guard = none) (s x : Operand) (t : TypeId)
    (ho : o.op = .call { callee := .builtin .append, args := #[s, x], argTypes := #[t, t] })
    (base : Nat) (e : TypeId) (z : Value) (size bytes : Nat) (ht : P.underlying t = some (.slice e))
    (hinfo : (P.info? e).map (fun i => (i.zero, i.size, i.bytes)) = some (some z, size, bytes)) (hzs : z.cells.size = size) (hsz : 0 < size)
    (v : Value) (n : Nat) (xs : List Value) (hs : ac.eval s = v) (hown : w.ownsRow base e size v n xs)
    (a : Addr) (m c : Nat) (hx : ac.eval x = .slice (some a) m c) (news : List Value) (hl : news.length = m * size) (hc : ∀ j u, news[j]? = some u → w.cell? (a.add j) = some u) (h1 : ∀ u ∈ news, u.oneCell' = true)
    (hbytes : (n + m) * bytes ≤ 140737488355328) (hn : n + m ≤ 140737488355328) (hbase : base ≤ w.heap.size)
    (h : ∀ v' w', w'.ownsRow base e size v' (n + m) (xs ++ news) → Fr (fun b => v.ownBlock = some b) w w' → (v'.ownBlock = v.ownBlock ∨ v'.ownBlock = some w.heap.size) → K (ac.put o.dst v') w') :
    if Region.wanted o (yielded ops ac.tmps) = true then Oper.wp P o ac w K Q else E := by
  have hw : Region.wanted o (yielded ops ac.tmps) = true := by simp [Region.wanted, hgd]
  rw [if_pos hw]
  obtain ⟨v', w', hrun, h2, h3, h4⟩ := run_append_at (P := P) (w := w) t o.type base e z size bytes ht hinfo hzs hsz v n xs hown a m c news hl hc h1 hbytes hn hbase
  unfold Oper.wp execOp
  simp only [ho, resolve, invoke, builtin, Sem.run_bind, Sem.run_pure, Result.andThen_ok, List.map_toArray, List.map_cons, List.map_nil, hs, hx, hrun]
  exact h v' w' h2 h3 h4

/-- many cells stored into the block that was laid last -/
theorem setCells_alloc (e : TypeId) : ∀ (vs : List Value) (o : Nat) (w : World) (cs : Array Value), o + vs.length ≤ cs.size → (w.alloc (.cells cs e)).setCells w.heap.size o vs = w.alloc (.cells (splice cs.toList o vs).toArray e)
  | [], o, w, cs, _ => by simp [World.setCells, splice]
  | v :: vs, o, w, cs, h => by
    rw [World.setCells, World.setCell_alloc_at _ _ _ _ _ rfl, setCells_alloc e vs (o + 1) w _ (by simp at h ⊢; omega)]
    congr 2
    rw [Array.toList_setIfInBounds, splice_cons _ _ _ _ (by simpa using h)]

theorem foldl_set (cs : List Value) : ∀ (k : Nat) (acc : Array Value), k + cs.length = acc.size →
    ((cs.zipIdx k).foldl (fun (a : Array Value) (x : Value × Nat) => a.setIfInBounds (0 + x.2) x.1) acc).toList = acc.toList.take k ++ cs := by
  induction cs with
  | nil => intro k acc h; simp only [List.zipIdx_nil, List.foldl_nil, List.append_nil]; rw [List.take_of_length_le (by simp at h ⊢; omega)]
  | cons c cs ih =>
    intro k acc h
    simp only [List.zipIdx_cons, List.foldl_cons, Nat.zero_add]
    have := ih (k + 1) (acc.setIfInBounds k c) (by simp at h ⊢; omega)
    simp only [Nat.zero_add] at this
    rw [this, Array.toList_setIfInBounds, List.take_succ_eq_append_getElem (by simp at h ⊢; omega)]
    simp [List.take_set_of_le]

/-- one element of many cells, put into a new slice -/
theorem run_buildSlice_one {P : Program} (w : World) (t e : TypeId) (cs : Array Value) (z : Value) (bytes : Nat) (hu : P.underlying t = some (.slice e))
    (hinfo : (P.info? e).map (fun i => (i.zero, i.size, i.bytes)) = some (some z, cs.size, bytes)) (hpos : 0 < cs.size) (hsmall : cs.size ≤ 1000) :
    (Instr.buildSlice t 1 #[(0, .agg cs)]).run P w = .ok (.slice (some ⟨w.heap.size, 0, none⟩) 1 1) (w.alloc (.cells cs e)) := by
  obtain ⟨i0, hi0, hz0, hz1, hz2⟩ := info_parts hinfo
  refine run_buildSlice w t e 1 _ cs i0 z hu hi0 hz0 (by rw [hz1]; omega) (by rw [hz1]; omega) ?_
  simp only [Instr.fill, Value.cells, hz1, Nat.zero_mul, Nat.one_mul]
  rw [if_neg (by simp)]
  congr 1
  apply Array.toList_inj.1
  have := foldl_set cs.toList 0 ((Array.range cs.size).map (z.cells[· % z.cells.size]!)) (by simp)
  simp only [List.take_zero, List.nil_append] at this
  rw [← this, ← Array.foldl_toList]
  simp
  rfl

/-! Steps of the walk whose run is given by an equation: the operation is named, so that no other one is met. -/
section
variable {P : Program} {ops : Array Oper} {rest : List Oper} {o : Oper} {ac : Act} {Q : Exit → Act → World → Prop} {w w' : World} {v : Value}
theorem at_build1 (hgd : o.guard = none) (t : TypeId) (k : Nat) (x : Operand) (u : Value) (ho : o.op = .build t #[(k, x)]) (hx : ac.eval x = u)
    (hrun : (Instr.build t #[(k, u)]).run P w = .ok v w') (h : wpList P ops Q rest (ac.put o.dst v) w') : wpList P ops Q (o :: rest) ac w := by
  refine wpList_plain hgd fun K hK => ?_
  unfold Oper.wp execOp
  simp only [ho, hx, List.map_toArray, List.map_cons, List.map_nil, Sem.run_bind, Sem.run_pure, Result.andThen_ok, hrun]
  exact hK _ _ h
theorem at_buildSlice1 (hgd : o.guard = none) (t : TypeId) (len k : Nat) (x : Operand) (u : Value) (ho : o.op = .buildSlice t len #[(k, x)]) (hx : ac.eval x = u)
    (hrun : (Instr.buildSlice t len #[(k, u)]).run P w = .ok v w') (h : wpList P ops Q rest (ac.put o.dst v) w') : wpList P ops Q (o :: rest) ac w := by
  refine wpList_plain hgd fun K hK => ?_
  unfold Oper.wp execOp
  simp only [ho, hx, List.map_toArray, List.map_cons, List.map_nil, Sem.run_bind, Sem.run_pure, Result.andThen_ok, hrun]
  exact hK _ _ h
theorem at_alloc (hgd : o.guard = none) (t : TypeId) (ho : o.op = .alloc t)
    (hrun : (Instr.alloc t true (.tuple #[])).run P w = .ok v w') (h : wpList P ops Q rest (ac.put o.dst v) w') : wpList P ops Q (o :: rest) ac w := by
  refine wpList_plain hgd fun K hK => ?_
  unfold Oper.wp execOp
  simp only [ho, Sem.run_bind, Sem.run_pure, Result.andThen_ok, hrun]
  exact hK _ _ h
theorem at_box (hgd : o.guard = none) (t : TypeId) (x : Operand) (u : Value) (ho : o.op = .box t x) (hx : ac.eval x = u)
    (hrun : (Instr.box t u).run P w = .ok v w') (h : wpList P ops Q rest (ac.put o.dst v) w') : wpList P ops Q (o :: rest) ac w := by
  refine wpList_plain hgd fun K hK => ?_
  unfold Oper.wp execOp
  simp only [ho, hx, Sem.run_bind, Sem.run_pure, Result.andThen_ok, hrun]
  exact hK _ _ h
theorem at_store (hgd : o.guard = none) (t : TypeId) (x y : Operand) (p u : Value) (ho : o.op = .store t x y) (hx : ac.eval x = p) (hy : ac.eval y = u)
    (hrun : (Instr.storeAt t p u).run P w = .ok () w') (h : wpList P ops Q rest (ac.put o.dst undef) w') : wpList P ops Q (o :: rest) ac w := by
  refine wpList_plain hgd fun K hK => ?_
  unfold Oper.wp execOp
  simp only [ho, hx, hy, Sem.run_bind, Sem.run_pure, Result.andThen_ok, hrun]
  exact hK _ _ h
theorem at_load (hgd : o.guard = none) (t : TypeId) (x : Operand) (p : Value) (ho : o.op = .load t x) (hx : ac.eval x = p)
    (hrun : (Instr.loadAt t p).run P w = .ok v w') (h : wpList P ops Q rest (ac.put o.dst v) w') : wpList P ops Q (o :: rest) ac w := by
  refine wpList_plain hgd fun K hK => ?_
  unfold Oper.wp execOp
  simp only [ho, hx, Sem.run_bind, Sem.run_pure, Result.andThen_ok, hrun]
  exact hK _ _ h
theorem at_copy (hgd : o.guard = none) (x y : Operand) (tx ty : TypeId) (p u : Value) (ho : o.op = .call { callee := .builtin .copy, args := #[x, y], argTypes := #[tx, ty] }) (hx : ac.eval x = p) (hy : ac.eval y = u)
    (hrun : (Builtin.copy_ #[tx, ty] o.type #[p, u]).run P w = .ok v w') (h : wpList P ops Q rest (ac.put o.dst v) w') : wpList P ops Q (o :: rest) ac w := by
  refine wpList_plain hgd fun K hK => ?_
  unfold Oper.wp execOp
  simp only [ho, hx, hy, resolve, invoke, builtin, Sem.run_bind, Sem.run_pure, Result.andThen_ok, List.map_toArray, List.map_cons, List.map_nil, hrun]
  exact hK _ _ h
end

/-- a load among the operations that only read, its run given -/
theorem still_load {P : Program} {ops : Array Oper} {rest : List Oper} {o : Oper} {ac : Act} {Q : Act → Prop} {w : World} {v : Value} (hgd : o.guard = none) (t : TypeId) (x : Operand) (p : Value) (ho : o.op = .load t x) (hx : ac.eval x = p)
    (hrun : (Instr.loadAt t p).run P w = .ok v w) (h : wpStill P ops w Q rest (ac.put o.dst v)) : wpStill P ops w Q (o :: rest) ac := by
  unfold wpStill
  rw [if_pos (by simp [Region.wanted, hgd])]
  unfold Oper.still execOp
  simp only [ho, hx, Sem.run_bind, Sem.run_pure, Result.andThen_ok, hrun]
  exact ⟨rfl, h⟩

/-- copy of one's bytes into a row that one knows -/
theorem copy_run {P : Program} {w : World} (dT sT ty e : TypeId) (b o dl dc : Nat) (A : Option Addr) (n c : Nat) (cs : List Value) (Q : Nat → Prop)
    (hu : P.underlying dT = some (.slice e)) (hs : (P.info? e).map (·.size) = some 1) (hr : Sl w Q 1 A n cs) (hn : n ≤ dl) (ht : w.there b o n) (h1 : ∀ v ∈ cs, v.oneCell' = true) :
    (Builtin.copy_ #[dT, sT] ty #[.slice (some ⟨b, o, none⟩) dl dc, .slice A n c]).run P w = .ok (goInt n) (w.setCells b o cs) := by
  have hl : cs.length = n := by simpa using hr.1
  rcases Nat.eq_zero_or_pos n with h0 | h0
  · subst h0
    obtain rfl := List.eq_nil_of_length_eq_zero hl
    rw [run_copy_none w dT sT ty e _ _ dl dc 0 c hu hs (by simp)]
    rfl
  · obtain ⟨ad, rfl, _, _, hc⟩ := hr.2 h0
    have hmin : Nat.min n dl = n := Nat.min_eq_left hn
    have := run_copy_cells (P := P) w dT sT ty e b o dl dc ad n c cs hu hs (by rw [hmin, hl]) hc (fun j hj => (ht j (by omega)).1) (fun j hj => (ht j (by omega)).2) h1
    rw [this, hl]

end Go.Proofs.YtpaelngpmbeedaaGreatDoor
/- Bytes as values. -/
namespace Go.Proofs.YtpaelngpmbeedaaGreatDoor

def bv (l : List Int) : List Value := l.map (Value.int .u8)
@[simp] theorem bv_length (l : List Int) : (bv l).length = l.length := by simp [bv]
theorem bv_one (l : List Int) : ∀ u ∈ bv l, u.oneCell' = true := nums_oneCell .u8 l
theorem bv_splice (l vs : List Int) (o : Nat) : bv (splice l o vs) = splice (bv l) o (bv vs) := splice_map _ _ _ _
theorem bv_append (a b : List Int) : bv (a ++ b) = bv a ++ bv b := by simp [bv]
theorem bv_snoc (a : List Int) (x : Int) : bv (a ++ [x]) = bv a ++ [.int .u8 x] := by simp [bv]

end Go.Proofs.YtpaelngpmbeedaaGreatDoor
/- Numbers and bytes, one behind the other (plain). -/
namespace Go.Proofs.YtpaelngpmbeedaaGreatDoor

/-- a number's bytes, the lowest one first -/
def numB (n : Int) (k : Nat) : List Int := (List.range k).map fun i => n / 256 ^ i % 256
theorem numB_zero (n : Int) : numB n 0 = [] := rfl
theorem numB_succ (n : Int) (k : Nat) : numB n (k + 1) = numB n k ++ [n / 256 ^ k % 256] := by simp [numB, List.range_succ]
theorem numB_length (n : Int) (k : Nat) : (numB n k).length = k := by simp [numB]
/-- none, where the size is none -/
def numI (n size : Int) : List Int := if size < 1 ∨ 8 < size then [] else numB n size.toNat
theorem numI_length (n size : Int) : (numI n size).length ≤ 8 := by
  unfold numI
  split
  · simp
  · rw [numB_length]; omega
/-- bytes, their number ahead of them -/
def bytB (b : List Int) : List Int := numB (b.take 1000).length 2 ++ b.take 1000
theorem bytB_length (b : List Int) : (bytB b).length ≤ 1002 := by
  unfold bytB
  rw [List.length_append, numB_length, List.length_take]
  omega

end Go.Proofs.YtpaelngpmbeedaaGreatDoor
/- A reader of numbers and bytes (plain). -/
namespace Go.Proofs.YtpaelngpmbeedaaGreatDoor

/-- what is left, and whether nothing is read any more -/
structure Rd where
  xs : List Int
  s : Bool
def Rd.take (r : Rd) (n : Nat) : List Int × Rd := if r.s = true ∨ r.xs.length < n then ([], ⟨[], true⟩) else (r.xs.take n, ⟨r.xs.drop n, false⟩)
/-- the number of bytes, the lowest one first -/
def ofB : List Int → Int
  | [] => 0
  | x :: r => x + 256 * ofB r
def Rd.size (r : Rd) (size : Int) : Nat := if size < 1 ∨ 8 < size then r.xs.length + 1 else size.toNat
def Rd.num (r : Rd) (size : Int) : Int × Rd := (ofB (r.take (r.size size)).1, (r.take (r.size size)).2)
def Rd.count (n : Int) (r : Rd) : Nat := if 1000 < n then r.xs.length + 1 else n.toNat
def Rd.byt (r : Rd) : List Int × Rd := (r.num 2).2.take (Rd.count (r.num 2).1 (r.num 2).2)
def Rd.endE (r : Rd) : Int := if r.s = true then 10 else if 0 < r.xs.length then 11 else 0

def isByte (x : Int) : Prop := 0 ≤ x ∧ x ≤ 255
def Bytes (xs : List Int) : Prop := ∀ x ∈ xs, isByte x
theorem Bytes.take {xs : List Int} (h : Bytes xs) (n : Nat) : Bytes (xs.take n) := fun x hx => h x (List.mem_of_mem_take hx)
theorem Bytes.drop {xs : List Int} (h : Bytes xs) (n : Nat) : Bytes (xs.drop n) := fun x hx => h x (List.mem_of_mem_drop hx)
theorem Bytes.append {xs ys : List Int} (h : Bytes xs) (k : Bytes ys) : Bytes (xs ++ ys) := fun x hx => (List.mem_append.1 hx).elim (h x) (k x)
theorem Bytes.nil : Bytes [] := fun _ h => absurd h (List.not_mem_nil)
theorem numB_bytes (n : Int) (k : Nat) : Bytes (numB n k) := by
  intro x hx
  obtain ⟨i, _, rfl⟩ := List.mem_map.1 hx
  unfold isByte
  omega
theorem numI_bytes (n size : Int) : Bytes (numI n size) := by
  unfold numI
  split
  · exact Bytes.nil
  · exact numB_bytes _ _

theorem Rd.take_xs (r : Rd) (n : Nat) (h : Bytes r.xs) : Bytes (r.take n).1 ∧ Bytes (r.take n).2.xs := by
  unfold Rd.take
  split
  · exact ⟨Bytes.nil, Bytes.nil⟩
  · exact ⟨h.take n, h.drop n⟩
theorem Rd.take_len (r : Rd) (n : Nat) : (r.take n).1.length ≤ n ∧ (r.take n).1.length ≤ r.xs.length ∧ (r.take n).2.xs.length ≤ r.xs.length := by
  unfold Rd.take
  split
  · simp
  · simp [List.length_take, List.length_drop]; omega
theorem ofB_snoc (xs : List Int) (x : Int) : ofB (xs ++ [x]) = ofB xs + x * 256 ^ xs.length := by
  induction xs with
  | nil => simp [ofB]
  | cons y r ih =>
    simp only [List.cons_append, ofB, ih, List.length_cons, Int.pow_succ, Int.mul_add]
    rw [show 256 * (x * 256 ^ r.length) = x * (256 ^ r.length * 256) by rw [Int.mul_left_comm, Int.mul_comm 256 (256 ^ r.length)]]
    omega
theorem ofB_range {xs : List Int} (h : Bytes xs) : 0 ≤ ofB xs ∧ ofB xs < 256 ^ xs.length := by
  induction xs with
  | nil => simp [ofB]
  | cons y r ih =>
    have h1 := ih (fun x hx => h x (List.mem_cons_of_mem _ hx))
    have h2 : isByte y := h y (List.mem_cons_self)
    unfold isByte at h2
    simp only [ofB, List.length_cons, Int.pow_succ]
    omega
theorem pow_le_8 {k : Nat} (h : k ≤ 8) : (256 : Int) ^ k ≤ 18446744073709551616 := by
  have : ∀ k, k ≤ 8 → (256 : Int) ^ k ≤ 18446744073709551616 := by decide
  exact this k h

end Go.Proofs.YtpaelngpmbeedaaGreatDoor
/- A region that draws its order, told by two lists: operations that read alone, each of which may be taken first in every world of a class S; and the others, which can come up in one order only, the last one waiting for all. -/
namespace Go.Proofs.YtpaelngpmbeedaaGreatDoor
open Go.RowKit

section
variable {P : Program} {ops : Array Oper} {Q : Exit → Act → World → Prop} {S : World → Prop} {L : Nat}

/-- whatever order is picked from here on; S holds behind every operation below the number L; those from L on wait for all below -/
def wpT (P : Program) (ops : Array Oper) (Q : Exit → Act → World → Prop) (S : World → Prop) (L : Nat) : Nat → Array Bool → Act → World → Prop
  | 0, listed, a, w => Region.ready .any ops listed = [] ∧ Q .normal a w
  | k + 1, listed, a, w => (Region.ready .any ops listed = [] → Q .normal a w) ∧
    ∀ i ∈ Region.ready .any ops listed, wpOp P ops Q i (fun a' w' => (i < L → S w') ∧ wpT P ops Q S L k (listed.setIfInBounds i true) a' w') a w

theorem wpAny_of_wpT : ∀ (k : Nat) (listed : Array Bool) (a : Act) (w : World), wpT P ops Q S L k listed a w → wpAny P .any ops Q k listed a w
  | 0, _, _, _, h => h
  | k + 1, _, _, _, h => ⟨h.1, fun i hi => wpOp_mono (fun a' w' h' => wpAny_of_wpT k _ a' w' h'.2) (h.2 i hi)⟩

/-- from L on every operation waits for all below L -/
def lastB (ops : Array Oper) (L : Nat) : Bool :=
  (List.range ops.size).all fun j => decide (j < L) || match ops[j]? with
    | none => true
    | some o => (List.range L).all fun i => o.after.any fun e => Region.binds .any e && e.on == i

theorem last_waits (h : lastB ops L = true) {listed : Array Bool} {j : Nat} (hj : j ∈ Region.ready .any ops listed) (hL : L ≤ j) {i : Nat} (hi : i < L) : listed.getD i false = true := by
  obtain ⟨_, o, ho, hall⟩ := mem_ready.1 hj
  unfold lastB at h
  have h0 := List.all_eq_true.1 h j (List.mem_range.2 (Array.getElem?_eq_some_iff.1 ho).1)
  rw [ho] at h0
  simp only [Bool.or_eq_true, decide_eq_true_eq] at h0
  have h1 := List.all_eq_true.1 (h0.resolve_left (by omega)) i (List.mem_range.2 hi)
  simp only [Array.any_eq_true'] at h1
  obtain ⟨e, he, hb⟩ := h1
  rw [Bool.and_eq_true, beq_iff_eq] at hb
  rw [← hb.2]
  exact hall e he hb.1

theorem ready_not_listed {listed : Array Bool} {i : Nat} (h : i ∈ Region.ready .any ops listed) : listed.getD i false = true → False := by
  intro h1
  have h0 := (mem_ready.1 h).1
  rcases Nat.lt_or_ge i listed.size with h' | h'
  · simp [h'] at h0 h1; rw [h0] at h1; cases h1
  · simp [Array.getElem?_eq_none h'] at h1

/-- an operation that may come up, and reads alone wherever S holds, may be taken first -/
theorem wpT_first {i : Nat} {oi : Oper} {v : Value} (hi : ops[i]? = some oi) (hsel : ∀ (j : Nat) (o : Oper) cs b, ops[j]? = some o → o.op ≠ .select cs b) (hlast : lastB ops L = true) (hiL : i < L)
    (hQ : ∀ c a w, Q (.panic c) (a.put oi.dst v) w → Q (.panic c) a w) :
    ∀ (k : Nat) (listed : Array Bool) (a : Act) (w : World),
      (∀ j oj, ops[j]? = some oj → j ≠ i → listed.getD j true = false → (∀ e ∈ oj.after, Region.binds .any e = true → e.on ≠ i) → oi.apart ops oj = true) →
      i ∈ Region.ready .any ops listed → YieldsIf P ops S oi v a → S w →
      wpT P ops Q S L k (listed.setIfInBounds i true) (a.put oi.dst v) w → wpT P ops Q S L (k + 1) listed a w := by
  have hin : i < ops.size := (Array.getElem?_eq_some_iff.1 hi).1
  intro k
  induction k with
  | zero =>
    intro listed a w _ hr hy hS H
    refine ⟨fun h => (by rw [h] at hr; cases hr), fun j hj => ?_⟩
    by_cases hji : j = i
    · subst hji; exact hy.wpOp hi hS ⟨fun _ => hS, H⟩
    · have := ready_mono hj hji
      rw [H.1] at this
      cases this
  | succ k ih =>
    intro listed a w hfree hr hy hS H
    refine ⟨fun h => (by rw [h] at hr; cases hr), fun j hj => ?_⟩
    by_cases hji : j = i
    · subst hji; exact hy.wpOp hi hS ⟨fun _ => hS, H⟩
    · have hjL : j < L := by
        refine Nat.lt_of_not_le fun e => ready_not_listed hr (last_waits hlast hj e hiL)
      have h1 := H.2 j (ready_mono hj hji)
      obtain ⟨hjun, oj, hoj, hall⟩ := mem_ready.1 hj
      have hnot : ∀ e ∈ oj.after, Region.binds .any e = true → e.on ≠ i := fun e he hb heq => ready_not_listed hr (by rw [← heq]; exact hall e he hb)
      have h2 := wpOp_putIf hoj (hfree j oj hoj hji hjun hnot) (fun cs b => hsel i oi cs b hi) (fun cs b => hsel j oj cs b hoj) hQ hy h1
      have hfree' : ∀ m om, ops[m]? = some om → m ≠ i → (listed.setIfInBounds j true).getD m true = false →
          (∀ e ∈ om.after, Region.binds .any e = true → e.on ≠ i) → oi.apart ops om = true := fun m om hm hmi hun hno => by
        refine hfree m om hm hmi ?_ hno
        by_cases hjm : j = m
        · subst hjm; exact hjun
        · rw [getD_set_ne true hjm] at hun; exact hun
      refine wpOp_mono (fun a' w' h3 => ⟨fun _ => h3.2.1 hjL, ih (listed.setIfInBounds j true) a' w' hfree' (ready_mono hr (Ne.symm hji)) h3.1 (h3.2.1 hjL) ?_⟩) h2
      rw [Array.setIfInBounds_comm _ _ hji]
      exact h3.2.2

/-- the first list, one behind the other -/
def wpTake (P : Program) (ops : Array Oper) (S : World → Prop) (K : Act → Prop) : List Nat → Act → Prop
  | [], a => K a
  | i :: r, a => ∃ o v, ops[i]? = some o ∧ YieldsIf P ops S o v a ∧ wpTake P ops S K r (a.put o.dst v)
/-- the second list: the world is the one at hand -/
def wpSeq (P : Program) (ops : Array Oper) (Q : Exit → Act → World → Prop) (S : World → Prop) (L : Nat) : List Nat → Act → World → Prop
  | [], a, w => Q .normal a w
  | i :: r, a, w => ∃ o, ops[i]? = some o ∧ (if Region.wanted o (yielded ops a.tmps) = true then o.wp P a w (fun a' w' => (i < L → S w') ∧ wpSeq P ops Q S L r a' w') Q else (i < L → S w) ∧ wpSeq P ops Q S L r (a.put o.dst undef) w)

def takeB (ops : Array Oper) (L : Nat) : List Nat → Array Bool → Option (Array Bool)
  | [], listed => some listed
  | i :: r, listed => if Region.free .any ops listed i && (Region.ready .any ops listed).contains i && decide (i < L) then takeB ops L r (listed.setIfInBounds i true) else none
def seqB (ops : Array Oper) : List Nat → Array Bool → Bool
  | [], listed => Region.ready .any ops listed == []
  | i :: r, listed => Region.ready .any ops listed == [i] && seqB ops r (listed.setIfInBounds i true)
def mixB (ops : Array Oper) (L : Nat) (hd tl : List Nat) : Bool :=
  Region.noSelect ops && lastB ops L && (hd.length + tl.length == ops.size) &&
    match takeB ops L hd (Array.replicate ops.size false) with
    | some l => seqB ops tl l
    | none => false

theorem wpT_seq : ∀ (tl : List Nat) (listed : Array Bool) (a : Act) (w : World), seqB ops tl listed = true → wpSeq P ops Q S L tl a w → wpT P ops Q S L tl.length listed a w
  | [], listed, a, w, h, hs => ⟨by simpa [seqB] using h, hs⟩
  | i :: r, listed, a, w, h, hs => by
    simp only [seqB, Bool.and_eq_true, beq_iff_eq] at h
    obtain ⟨o, ho, hs⟩ := hs
    refine ⟨fun h0 => (by rw [h.1] at h0; cases h0), fun j hj => ?_⟩
    rw [h.1] at hj
    obtain rfl := List.mem_singleton.1 hj
    unfold wpOp
    simp only [ho]
    split
    · rename_i hw
      rw [if_pos hw] at hs
      exact .inl (Oper.wp_mono (fun a' w' h' => ⟨h'.1, wpT_seq r _ a' w' h.2 h'.2⟩) hs)
    · rename_i hw
      rw [if_neg hw] at hs
      exact ⟨hs.1, wpT_seq r _ _ w h.2 hs.2⟩

/-- one of these lists, each with another head -/
def altB (ops : Array Oper) (listed : Array Bool) (n : Nat) : List (List Nat) → Bool
  | tls => Region.ready .any ops listed == tls.filterMap List.head? && tls.all (fun tl => tl.length == n + 1 && match tl with
      | i :: r => seqB ops r (listed.setIfInBounds i true)
      | [] => false)
theorem wpT_alt {n : Nat} {tls : List (List Nat)} {listed : Array Bool} {a : Act} {w : World} (h : altB ops listed n tls = true) (hne : Region.ready .any ops listed ≠ [])
    (hs : ∀ tl ∈ tls, wpSeq P ops Q S L tl a w) : wpT P ops Q S L (n + 1) listed a w := by
  simp only [altB, Bool.and_eq_true, beq_iff_eq] at h
  refine ⟨fun h0 => absurd h0 hne, fun j hj => ?_⟩
  rw [h.1] at hj
  obtain ⟨tl, htl, he⟩ := List.mem_filterMap.1 hj
  have h2 := List.all_eq_true.1 h.2 tl htl
  simp only [Bool.and_eq_true, beq_iff_eq] at h2
  match tl, he, h2, hs tl htl with
  | i :: r, he, h2, hsi =>
    obtain rfl : i = j := by simpa using he
    have hlen : r.length = n := by simpa using h2.1
    obtain ⟨o, ho, hsi⟩ := hsi
    unfold wpOp
    simp only [ho]
    rw [← hlen]
    split
    · rename_i hw
      rw [if_pos hw] at hsi
      exact .inl (Oper.wp_mono (fun a' w' h' => ⟨h'.1, wpT_seq r _ a' w' h2.2 h'.2⟩) hsi)
    · rename_i hw
      rw [if_neg hw] at hsi
      exact ⟨hsi.1, wpT_seq r _ _ w h2.2 hsi.2⟩

theorem wpT_takes (hsel : ∀ (j : Nat) (o : Oper) cs b, ops[j]? = some o → o.op ≠ .select cs b) (hlast : lastB ops L = true) (hQ : ∀ d v c a w, Q (.panic c) (a.put d v) w → Q (.panic c) a w)
    (n : Nat) (tls : List (List Nat)) {w : World} (hS : S w) : ∀ (hd : List Nat) (listed l : Array Bool) (a : Act), takeB ops L hd listed = some l → altB ops l n tls = true → Region.ready .any ops l ≠ [] →
      wpTake P ops S (fun a' => ∀ tl ∈ tls, wpSeq P ops Q S L tl a' w) hd a → wpT P ops Q S L (hd.length + (n + 1)) listed a w
  | [], listed, l, a, h, hs, hne, ht => by
    simp only [takeB, Option.some.injEq] at h
    subst h
    rw [List.length_nil, Nat.zero_add]
    exact wpT_alt hs hne ht
  | i :: r, listed, l, a, h, hs, hne, ht => by
    unfold takeB at h
    split at h
    · rename_i hc
      simp only [Bool.and_eq_true, decide_eq_true_eq] at hc
      obtain ⟨⟨hf, hr⟩, hiL⟩ := hc
      obtain ⟨o, v, ho, hy, ht⟩ := ht
      have := wpT_takes hsel hlast hQ n tls hS r _ l _ h hs hne ht
      rw [List.length_cons, show r.length + 1 + (n + 1) = (r.length + (n + 1)) + 1 by omega]
      exact wpT_first ho hsel hlast hiL (hQ _ _) _ listed a w (Region.free_spec ho hf) (by simpa using hr) hy hS this
    · cases h

def mixsB (ops : Array Oper) (L n : Nat) (hd : List Nat) (tls : List (List Nat)) : Bool :=
  Region.noSelect ops && lastB ops L && (hd.length + (n + 1) == ops.size) &&
    match takeB ops L hd (Array.replicate ops.size false) with
    | some l => altB ops l n tls && Region.ready .any ops l != []
    | none => false

theorem wpT_take (hsel : ∀ (j : Nat) (o : Oper) cs b, ops[j]? = some o → o.op ≠ .select cs b) (hlast : lastB ops L = true) (hQ : ∀ d v c a w, Q (.panic c) (a.put d v) w → Q (.panic c) a w)
    (tl : List Nat) {w : World} (hS : S w) : ∀ (hd : List Nat) (listed l : Array Bool) (a : Act), takeB ops L hd listed = some l → seqB ops tl l = true →
      wpTake P ops S (fun a' => wpSeq P ops Q S L tl a' w) hd a → wpT P ops Q S L (hd.length + tl.length) listed a w
  | [], listed, l, a, h, hs, ht => by
    simp only [takeB, Option.some.injEq] at h
    subst h
    simpa using wpT_seq tl _ _ _ hs ht
  | i :: r, listed, l, a, h, hs, ht => by
    unfold takeB at h
    split at h
    · rename_i hc
      simp only [Bool.and_eq_true, decide_eq_true_eq] at hc
      obtain ⟨⟨hf, hr⟩, hiL⟩ := hc
      obtain ⟨o, v, ho, hy, ht⟩ := ht
      have := wpT_take hsel hlast hQ tl hS r _ l _ h hs ht
      rw [List.length_cons, show r.length + 1 + tl.length = (r.length + tl.length) + 1 by omega]
      exact wpT_first ho hsel hlast hiL (hQ _ _) _ listed a w (Region.free_spec ho hf) (by simpa using hr) hy hS this
    · cases h

theorem region_mix {id : Nat} {a : Act} {w : World} {l : List Oper} (S : World → Prop) (L : Nat) (hd tl : List Nat) (hm : P.follows .mixedOrders = true) (hB : mixB l.toArray L hd tl = true)
    (hQ : ∀ d v c a w, Q (.panic c) (a.put d v) w → Q (.panic c) a w)
    (h : ∀ W : World, W = w.drew → S W ∧ wpTake P l.toArray S (fun a' => wpSeq P l.toArray Q S L tl a' W) hd a) : (Code.region id l.toArray true).wp P Q a w := by
  obtain ⟨hS, ht⟩ := h _ rfl
  simp only [mixB, Bool.and_eq_true, beq_iff_eq] at hB
  obtain ⟨⟨⟨hsel, hlast⟩, hlen⟩, hB⟩ := hB
  split at hB
  · rename_i l' hl'
    refine wp_region_any hm (wpAny_of_wpT (S := S) (L := L) _ _ _ _ ?_)
    rw [← hlen]
    exact wpT_take (Region.noSelect_spec hsel) hlast hQ tl hS hd _ l' a (by rw [hlen]; exact hl') hB ht
  · cases hB

end

section
variable {P : Program} {l : List Oper} {Q : Exit → Act → World → Prop} {S : World → Prop} {L : Nat}
/-- the same where the rest can begin with one or the other: one list each -/
theorem region_mixs {id : Nat} {a : Act} {w : World} {l : List Oper} (S : World → Prop) (L n : Nat) (hd : List Nat) (tls : List (List Nat)) (hm : P.follows .mixedOrders = true) (hB : mixsB l.toArray L n hd tls = true)
    (hQ : ∀ d v c a w, Q (.panic c) (a.put d v) w → Q (.panic c) a w)
    (h : ∀ W : World, W = w.drew → S W ∧ wpTake P l.toArray S (fun a' => ∀ tl ∈ tls, wpSeq P l.toArray Q S L tl a' W) hd a) : (Code.region id l.toArray true).wp P Q a w := by
  obtain ⟨hS, ht⟩ := h _ rfl
  simp only [mixsB, Bool.and_eq_true, beq_iff_eq] at hB
  obtain ⟨⟨⟨hsel, hlast⟩, hlen⟩, hB⟩ := hB
  split at hB
  · rename_i l' hl'
    simp only [Bool.and_eq_true, bne_iff_ne] at hB
    refine wp_region_any hm (wpAny_of_wpT (S := S) (L := L) _ _ _ _ ?_)
    rw [← hlen]
    exact wpT_takes (Region.noSelect_spec hsel) hlast hQ n tls hS hd _ l' a (by rw [hlen]; exact hl') hB.1 hB.2 ht
  · cases hB

/-! ### the steps -/
theorem take_nil {K : Act → Prop} {a : Act} (h : K a) : wpTake P l.toArray S K [] a := h
theorem take_run {K : Act → Prop} {i : Nat} {r : List Nat} {a : Act} {o : Oper} {v : Value} (ho : l[i]? = some o) (hg : o.guard = none)
    (hrun : ∀ W, S W → (execOp a.eval o).run P W = .ok (.value v) W) (h : wpTake P l.toArray S K r (a.put o.dst v)) : wpTake P l.toArray S K (i :: r) a :=
  ⟨o, v, by simpa using ho, .inl ⟨by simp [Region.wanted, hg], hrun⟩, h⟩
theorem take_load {K : Act → Prop} {i : Nat} {r : List Nat} {a : Act} {o : Oper} {v : Value} (ho : l[i]? = some o) (hg : o.guard = none) (t : TypeId) (x : Operand) (p : Value) (hop : o.op = .load t x) (hx : a.eval x = p)
    (hrun : ∀ W, S W → (Instr.loadAt t p).run P W = .ok v W) (h : wpTake P l.toArray S K r (a.put o.dst v)) : wpTake P l.toArray S K (i :: r) a :=
  take_run ho hg (fun W hW => by unfold execOp; simp only [hop, hx, Sem.run_bind, Sem.run_pure, Result.andThen_ok, hrun W hW]) h
theorem take_skip {K : Act → Prop} {i : Nat} {r : List Nat} {a : Act} {o : Oper} (ho : l[i]? = some o) (hw : Region.wanted o (yielded l.toArray a.tmps) = false)
    (h : wpTake P l.toArray S K r (a.put o.dst undef)) : wpTake P l.toArray S K (i :: r) a := ⟨o, undef, by simpa using ho, .inr ⟨hw, rfl⟩, h⟩

theorem seq_nil {a : Act} {w : World} (h : Q .normal a w) : wpSeq P l.toArray Q S L [] a w := h
theorem seq_wp {i : Nat} {r : List Nat} {a : Act} {w : World} {o : Oper} (ho : l[i]? = some o) (hg : o.guard = none)
    (h : o.wp P a w (fun a' w' => (i < L → S w') ∧ wpSeq P l.toArray Q S L r a' w') Q) : wpSeq P l.toArray Q S L (i :: r) a w :=
  ⟨o, by simpa using ho, by rw [if_pos (by simp [Region.wanted, hg])]; exact h⟩
theorem seq_run {i : Nat} {r : List Nat} {a : Act} {w w' : World} {o : Oper} {v : Value} (ho : l[i]? = some o) (hg : o.guard = none)
    (hrun : (execOp a.eval o).run P w = .ok (.value v) w') (hS : i < L → S w') (h : wpSeq P l.toArray Q S L r (a.put o.dst v) w') : wpSeq P l.toArray Q S L (i :: r) a w :=
  seq_wp ho hg (by unfold Oper.wp; rw [hrun]; exact ⟨hS, h⟩)
theorem seq_read {i : Nat} {r : List Nat} {a : Act} {w : World} {o : Oper} {v : Value} (ho : l[i]? = some o) (hg : o.guard = none)
    (hrun : (execOp a.eval o).run P w = .ok (.value v) w) (hS : i < L → S w) (h : wpSeq P l.toArray Q S L r (a.put o.dst v) w) : wpSeq P l.toArray Q S L (i :: r) a w :=
  seq_run ho hg hrun hS h
theorem seq_build {i : Nat} {r : List Nat} {a : Act} {w w' : World} {o : Oper} {v : Value} (ho : l[i]? = some o) (hg : o.guard = none) (t : TypeId) (fs : List (Nat × Operand)) (us : List (Nat × Value)) (hop : o.op = .build t fs.toArray) (hx : fs.map (fun p => (p.1, a.eval p.2)) = us)
    (hrun : (Instr.build t us.toArray).run P w = .ok v w') (hS : i < L → S w') (h : wpSeq P l.toArray Q S L r (a.put o.dst v) w') : wpSeq P l.toArray Q S L (i :: r) a w :=
  seq_run ho hg (by unfold execOp; simp only [hop, List.map_toArray, hx, Sem.run_bind, Sem.run_pure, Result.andThen_ok, hrun]) hS h
theorem seq_box {i : Nat} {r : List Nat} {a : Act} {w w' : World} {o : Oper} {v : Value} (ho : l[i]? = some o) (hg : o.guard = none) (t : TypeId) (x : Operand) (u : Value) (hop : o.op = .box t x) (hx : a.eval x = u)
    (hrun : (Instr.box t u).run P w = .ok v w') (hS : i < L → S w') (h : wpSeq P l.toArray Q S L r (a.put o.dst v) w') : wpSeq P l.toArray Q S L (i :: r) a w :=
  seq_run ho hg (by unfold execOp; simp only [hop, hx, Sem.run_bind, Sem.run_pure, Result.andThen_ok, hrun]) hS h
theorem seq_store {i : Nat} {r : List Nat} {a : Act} {w w' : World} {o : Oper} (ho : l[i]? = some o) (hg : o.guard = none) (t : TypeId) (x y : Operand) (p u : Value) (hop : o.op = .store t x y) (hx : a.eval x = p) (hy : a.eval y = u)
    (hrun : (Instr.storeAt t p u).run P w = .ok () w') (hS : i < L → S w') (h : wpSeq P l.toArray Q S L r (a.put o.dst undef) w') : wpSeq P l.toArray Q S L (i :: r) a w :=
  seq_wp ho hg (by unfold Oper.wp execOp; simp only [hop, hx, hy, Sem.run_bind, Sem.run_pure, Result.andThen_ok, hrun]; exact ⟨hS, h⟩)
theorem seq_buildSlice1 {i : Nat} {r : List Nat} {a : Act} {w w' : World} {o : Oper} {v : Value} (ho : l[i]? = some o) (hg : o.guard = none) (t : TypeId) (len k : Nat) (x : Operand) (u : Value) (hop : o.op = .buildSlice t len #[(k, x)]) (hx : a.eval x = u)
    (hrun : (Instr.buildSlice t len #[(k, u)]).run P w = .ok v w') (hS : i < L → S w') (h : wpSeq P l.toArray Q S L r (a.put o.dst v) w') : wpSeq P l.toArray Q S L (i :: r) a w :=
  seq_run ho hg (by unfold execOp; simp only [hop, hx, List.map_toArray, List.map_cons, List.map_nil, Sem.run_bind, Sem.run_pure, Result.andThen_ok, hrun]) hS h
theorem seq_copy {i : Nat} {r : List Nat} {a : Act} {w w' : World} {o : Oper} {v : Value} (ho : l[i]? = some o) (hg : o.guard = none) (x y : Operand) (tx ty : TypeId) (p u : Value) (hop : o.op = .call { callee := .builtin .copy, args := #[x, y], argTypes := #[tx, ty] }) (hx : a.eval x = p) (hy : a.eval y = u)
    (hrun : (Builtin.copy_ #[tx, ty] o.type #[p, u]).run P w = .ok v w') (hS : i < L → S w') (h : wpSeq P l.toArray Q S L r (a.put o.dst v) w') : wpSeq P l.toArray Q S L (i :: r) a w :=
  seq_run ho hg (by unfold execOp; simp only [hop, hx, hy, resolve, invoke, builtin, Sem.run_bind, Sem.run_pure, Result.andThen_ok, List.map_toArray, List.map_cons, List.map_nil, hrun]) hS h
theorem seq_append {i : Nat} {r : List Nat} {ac : Act} {w : World} {o : Oper} (ho : l[i]? = some o) (hg : o.guard = none) (s x : Operand) (t : TypeId)
    (hop : o.op = .call { callee := .builtin .append, args := #[s, x], argTypes := #[t, t] })
    (base : Nat) (e : TypeId) (z : Value) (size bytes : Nat) (ht : P.underlying t = some (.slice e))
    (hinfo : (P.info? e).map (fun i => (i.zero, i.size, i.bytes)) = some (some z, size, bytes)) (hzs : z.cells.size = size) (hsz : 0 < size)
    (v : Value) (n : Nat) (xs : List Value) (hs : ac.eval s = v) (hown : w.ownsRow base e size v n xs)
    (a : Addr) (m c : Nat) (hx : ac.eval x = .slice (some a) m c) (news : List Value) (hl : news.length = m * size) (hc : ∀ j u, news[j]? = some u → w.cell? (a.add j) = some u) (h1 : ∀ u ∈ news, u.oneCell' = true)
    (hbytes : (n + m) * bytes ≤ 140737488355328) (hn : n + m ≤ 140737488355328) (hbase : base ≤ w.heap.size)
    (h : ∀ v' w', w'.ownsRow base e size v' (n + m) (xs ++ news) → Fr (fun b => v.ownBlock = some b) w w' → (v'.ownBlock = v.ownBlock ∨ v'.ownBlock = some w.heap.size) → (i < L → S w') ∧ wpSeq P l.toArray Q S L r (ac.put o.dst v') w') :
    wpSeq P l.toArray Q S L (i :: r) ac w := by
  obtain ⟨v', w', hrun, h2, h3, h4⟩ := run_append_at (P := P) (w := w) t o.type base e z size bytes ht hinfo hzs hsz v n xs hown a m c news hl hc h1 hbytes hn hbase
  have hk := h v' w' h2 h3 h4
  exact seq_run ho hg (by unfold execOp; simp only [hop, resolve, invoke, builtin, Sem.run_bind, Sem.run_pure, Result.andThen_ok, List.map_toArray, List.map_cons, List.map_nil, hs, hx, hrun]) hk.1 hk.2
theorem seq_call {i : Nat} {r : List Nat} {a : Act} {w : World} {o : Oper} {f : FuncId} {args : Array Value} (ho : l[i]? = some o) (hg : o.guard = none)
    (hrun : (execOp a.eval o).run P w = .ok (.enter f args) w)
    (h : Calls P f args w fun e w' => ∃ v, e = .returned v ∧ (i < L → S w') ∧ wpSeq P l.toArray Q S L r (a.put o.dst v) w') : wpSeq P l.toArray Q S L (i :: r) a w :=
  seq_wp ho hg (by
    unfold Oper.wp
    rw [hrun, Oper.upon_enter]
    refine h.mono fun e w' ⟨v, he, hS, h⟩ => ?_
    subst he
    exact ⟨hS, h⟩)
end

end Go.Proofs.YtpaelngpmbeedaaGreatDoor
/- What is known of the memory at a point of a walk: resources that lie apart from each other, and facts that stay whatever is done. -/
namespace Go.Proofs.YtpaelngpmbeedaaGreatDoor
open Go.RowKit

/-- what stays as it is from here on -/
structure Imm where
  os : Os
  tape : Nat → Question → Nat
  output : Array (Nat × ByteArray)
  heap : Nat → Option Obj
def Imm.of (w : World) : Imm := ⟨w.os, w.tape, w.output, fun b => w.heap[b]?⟩
structure Agree (w : World) (M : Imm) : Prop where
  os : w.os = M.os
  tape : w.tape = M.tape
  output : w.output = M.output
  heap : ∀ b o, M.heap b = some o → w.heap[b]? = some o
structure Imm.le (M M' : Imm) : Prop where
  os : M'.os = M.os
  tape : M'.tape = M.tape
  output : M'.output = M.output
  heap : ∀ b o, M.heap b = some o → M'.heap b = some o

theorem Imm.le.refl (M : Imm) : M.le M := ⟨rfl, rfl, rfl, fun _ _ h => h⟩
theorem Imm.le.trans {A B C : Imm} (h : A.le B) (k : B.le C) : A.le C := ⟨k.os.trans h.os, k.tape.trans h.tape, k.output.trans h.output, fun b o x => k.heap b o (h.heap b o x)⟩
theorem Agree.le {w : World} {M M' : Imm} (h : Agree w M') (k : M.le M') : Agree w M := ⟨h.os.trans k.os, h.tape.trans k.tape, h.output.trans k.output, fun b o x => h.heap b o (k.heap b o x)⟩
theorem Agree.self (w : World) : Agree w (Imm.of w) := ⟨rfl, rfl, rfl, fun _ _ h => h⟩
theorem Agree.fr {w w' : World} {M : Imm} {S : Nat → Prop} (h : Agree w M) (hf : Fr S w w') (hs : ∀ b, S b → M.heap b = none) : Agree w' M :=
  ⟨hf.os.trans h.os, hf.tape.trans h.tape, hf.output.trans h.output, fun b o hb => by
    have h1 := h.heap b o hb
    have hlt : b < w.heap.size := (Array.getElem?_eq_some_iff.1 h1).1
    exact (hf.block b hlt (fun hs' => by rw [hs b hs'] at hb; cases hb)).trans h1⟩
theorem Agree.non {w w' : World} (h : Agree w' (Imm.of w)) : Fr Non w w' := by
  have hb : ∀ b, b < w.heap.size → w'.heap[b]? = w.heap[b]? := fun b hb => (h.heap b _ (Array.getElem?_eq_getElem hb)).trans (Array.getElem?_eq_getElem hb).symm
  refine ⟨h.os, h.tape, h.output, ?_, fun b hlt _ => hb b hlt⟩
  rcases Nat.eq_zero_or_pos w.heap.size with h0 | h0
  · omega
  · have h1 := hb (w.heap.size - 1) (by omega)
    rw [Array.getElem?_eq_getElem (show w.heap.size - 1 < w.heap.size by omega)] at h1
    have := (Array.getElem?_eq_some_iff.1 h1).1
    omega

/-- a thing that lies in memory, in blocks F that are its own -/
structure Res where
  holds : Imm → World → (Nat → Prop) → Prop
  lt : ∀ {M w F b}, holds M w F → F b → b < w.heap.size
  loc : ∀ {M M' w w' F}, holds M w F → Agree w' M' → M.le M' → (∀ b, F b → w'.heap[b]? = w.heap[b]?) → holds M' w' F

structure StAt (M : Imm) (w : World) (L : List Res) (Fs : Nat → Nat → Prop) : Prop where
  at_ : ∀ (i : Nat) (X : Res), L[i]? = some X → X.holds M w (Fs i)
  apart : ∀ i j b, i ≠ j → i < L.length → j < L.length → Fs i b → ¬ Fs j b
  off : ∀ i b, i < L.length → Fs i b → M.heap b = none
def St (M0 : Imm) (w : World) (L : List Res) : Prop := ∃ M Fs, M0.le M ∧ Agree w M ∧ StAt M w L Fs

def shift (F : Nat → Prop) (Fs : Nat → Nat → Prop) : Nat → Nat → Prop
  | 0 => F
  | i + 1 => Fs i

/-- what another world leaves of all -/
theorem StAt.keep {M M' : Imm} {w w' : World} {L : List Res} {Fs : Nat → Nat → Prop} (h : StAt M w L Fs) (ha : Agree w' M') (hm : M.le M') (hb : ∀ i b, i < L.length → Fs i b → w'.heap[b]? = w.heap[b]?) (hn : ∀ i b, i < L.length → Fs i b → M'.heap b = none) : StAt M' w' L Fs :=
  ⟨fun i X hi => X.loc (h.at_ i X hi) ha hm (hb i · (List.getElem?_eq_some_iff.1 hi).1), h.apart, hn⟩
theorem StAt.cons {M : Imm} {w : World} {L : List Res} {Fs : Nat → Nat → Prop} {X : Res} {F : Nat → Prop} (h : StAt M w L Fs) (hx : X.holds M w F) (hd : ∀ i b, i < L.length → Fs i b → ¬ F b) (hm : ∀ b, F b → M.heap b = none) : StAt M w (X :: L) (shift F Fs) := by
  refine ⟨?_, ?_, ?_⟩
  · intro i Y hi
    cases i with
    | zero => obtain rfl : X = Y := by simpa using hi
              exact hx
    | succ i => exact h.at_ i Y (by simpa using hi)
  · intro i j b hij hi hj h1 h2
    cases i with
    | zero =>
      cases j with
      | zero => exact hij rfl
      | succ j => exact hd j b (by simpa using hj) h2 h1
    | succ i =>
      cases j with
      | zero => exact hd i b (by simpa using hi) h1 h2
      | succ j => exact h.apart i j b (by omega) (by simpa using hi) (by simpa using hj) h1 h2
  · intro i b hi h1
    cases i with
    | zero => exact hm b h1
    | succ i => exact h.off i b (by simpa using hi) h1
theorem StAt.tail {M : Imm} {w : World} {L : List Res} {Fs : Nat → Nat → Prop} {X : Res} (h : StAt M w (X :: L) Fs) : StAt M w L (fun i => Fs (i + 1)) :=
  ⟨fun i Y hi => h.at_ (i + 1) Y (by simpa using hi), fun i j b hij hi hj => h.apart (i + 1) (j + 1) b (by omega) (by simpa using hi) (by simpa using hj), fun i b hi => h.off (i + 1) b (by simpa using hi)⟩

section
variable {M0 : Imm} {w w' : World} {L : List Res} {X Y Z : Res}

theorem St.init (w : World) : St (Imm.of w) w [] := ⟨Imm.of w, fun _ _ => False, Imm.le.refl _, Agree.self w, fun i X h => by simp at h, fun _ _ _ _ h => by simp at h, fun _ _ h => by simp at h⟩
theorem St.done {w0 : World} (h : St (Imm.of w0) w L) : Fr Non w0 w := by
  obtain ⟨M, Fs, h0, ha, _⟩ := h
  exact (ha.le h0).non
/-- what has been made since belongs to nobody -/
theorem St.grow (h : St M0 w L) (hf : Fr Non w w') : St M0 w' L := by
  obtain ⟨M, Fs, h0, ha, hs⟩ := h
  refine ⟨M, Fs, h0, ha.fr hf (fun _ x => x.elim), hs.keep (ha.fr hf (fun _ x => x.elim)) (Imm.le.refl _) ?_ hs.off⟩
  intro i b hi hb
  exact hf.block b ((L[i]).lt (hs.at_ i _ (List.getElem?_eq_getElem hi)) hb) (fun x => x)
theorem St.drew (h : St M0 w L) : St M0 w.drew L := h.grow (Fr.refl _ _).drew
theorem St.drewN (h : St M0 w L) (n : Nat) : St M0 (w.drewN n) L := h.grow ((Fr.refl _ _).drewN n)
theorem St.junk (h : St M0 w L) (o : Obj) : St M0 (w.alloc o) L := h.grow ((Fr.refl _ _).alloc o)
theorem St.pickAll (h : St M0 w L) (is : List Nat) {L' : List Res} (hd : is.Nodup) (hl : is.map (L[·]?) = L'.map some) : St M0 w L' := by
  obtain ⟨M, Fs, h0, ha, hs⟩ := h
  have hlen : is.length = L'.length := by simpa using congrArg List.length hl
  have hat : ∀ (k : Nat) (hk : k < is.length), L[is[k]]? = some (L'[k]'(by omega)) := by
    intro k hk
    have := congrArg (·[k]?) hl
    simpa [List.getElem?_eq_getElem hk, List.getElem?_eq_getElem (show k < L'.length by omega)] using this
  have hin : ∀ (k : Nat) (hk : k < is.length), is[k] < L.length := fun k hk => (List.getElem?_eq_some_iff.1 (hat k hk)).1
  refine ⟨M, fun k => Fs (is.getD k 0), h0, ha, ?_, ?_, ?_⟩
  · intro k X hk
    have hlt := (List.getElem?_eq_some_iff.1 hk).1
    obtain rfl : L'[k] = X := by simpa [List.getElem?_eq_getElem hlt] using hk
    simp only [List.getD_eq_getElem?_getD, List.getElem?_eq_getElem (show k < is.length by omega), Option.getD_some]
    exact hs.at_ _ _ (hat k (by omega))
  · intro i j b hij hi hj
    simp only [List.getD_eq_getElem?_getD, List.getElem?_eq_getElem (show i < is.length by omega), List.getElem?_eq_getElem (show j < is.length by omega), Option.getD_some]
    exact hs.apart _ _ b (fun e => (Nat.lt_or_gt_of_ne hij).elim (fun h1 => List.pairwise_iff_getElem.1 hd i j (by omega) (by omega) h1 e) (fun h1 => List.pairwise_iff_getElem.1 hd j i (by omega) (by omega) h1 e.symm)) (hin i (by omega)) (hin j (by omega))
  · intro i b hi
    simp only [List.getD_eq_getElem?_getD, List.getElem?_eq_getElem (show i < is.length by omega), Option.getD_some]
    exact hs.off _ b (hin i (by omega))
/-- of the first n resources those of these numbers alone, in this order; and all others -/
theorem St.pick (h : St M0 w L) (n : Nat) (is : List Nat) {L' : List Res} (hd : (is.all (· < n) && decide is.Nodup) = true := by rfl) (hl : is.map (L[·]?) ++ (L.drop n).map some = L'.map some := by rfl) : St M0 w L' := by
  simp only [Bool.and_eq_true, List.all_eq_true, decide_eq_true_eq] at hd
  refine h.pickAll (is ++ (List.range (L.length - n)).map (n + ·)) ?_ ?_
  · rw [List.nodup_append]
    refine ⟨hd.2, ?_, ?_⟩
    · exact List.Pairwise.map _ (fun a b hab e => hab (by omega)) List.nodup_range
    · intro a ha b hb e
      obtain ⟨c, _, rfl⟩ := List.mem_map.1 hb
      have := hd.1 a ha
      omega
  · rw [List.map_append, ← hl]
    congr 1
    apply List.ext_getElem?
    intro i
    by_cases hi : i < L.length - n
    · simp [List.getElem?_range hi, List.getElem?_drop, List.getElem?_eq_getElem (show n + i < L.length by omega)]
    · rw [List.getElem?_eq_none (by simp; omega), List.getElem?_eq_none (by simp; omega)]
theorem St.tail (h : St M0 w (X :: L)) : St M0 w L := by
  obtain ⟨M, Fs, h0, ha, hs⟩ := h
  exact ⟨M, _, h0, ha, hs.tail⟩
theorem St.swap (h : St M0 w (X :: Y :: L)) : St M0 w (Y :: X :: L) := by
  obtain ⟨M, Fs, h0, ha, hs⟩ := h
  have h1 := hs.tail
  refine ⟨M, _, h0, ha, (h1.tail.cons (hs.at_ 0 X rfl) ?_ (fun b => hs.off 0 b (by simp))).cons (hs.at_ 1 Y rfl) ?_ (fun b => hs.off 1 b (by simp))⟩
  · intro i b hi hb
    exact hs.apart (i + 2) 0 b (by omega) (by simpa using hi) (by simp) hb
  · intro i b hi hb
    cases i with
    | zero => exact hs.apart 0 1 b (by omega) (by simp) (by simp) hb
    | succ i => exact hs.apart (i + 2) 1 b (by omega) (by simpa using hi) (by simp) hb
/-- the first one goes on -/
theorem St.head (h : St M0 w (X :: L)) : ∃ M F, M0.le M ∧ Agree w M ∧ X.holds M w F ∧ (∀ b, F b → M.heap b = none) ∧
    ∀ (w' : World) (Y : Res) (F' : Nat → Prop), Fr F w w' → (Agree w' M → Y.holds M w' F') → (∀ b, F' b → F b ∨ w.heap.size ≤ b) → St M0 w' (Y :: L) := by
  obtain ⟨M, Fs, h0, ha, hs⟩ := h
  refine ⟨M, Fs 0, h0, ha, hs.at_ 0 X rfl, fun b => hs.off 0 b (by simp), fun w' Y F' hf hy hF => ?_⟩
  have ha' : Agree w' M := ha.fr hf (fun b hb => hs.off 0 b (by simp) hb)
  have hlt : ∀ i b, i < L.length → Fs (i + 1) b → b < w.heap.size := fun i b hi hb => (L[i]).lt (hs.at_ (i + 1) _ (by simp [List.getElem?_eq_getElem hi])) hb
  have ht : StAt M w' L (fun i => Fs (i + 1)) := hs.tail.keep ha' (Imm.le.refl _) (fun i b hi hb => hf.block b (hlt i b hi hb) (hs.apart (i + 1) 0 b (by omega) (by simpa using hi) (by simp) hb)) (fun i b hi => hs.off (i + 1) b (by simpa using hi))
  refine ⟨M, _, h0, ha', ht.cons (hy ha') ?_ ?_⟩
  · intro i b hi hb h1
    rcases hF b h1 with h2 | h2
    · exact hs.apart (i + 1) 0 b (by omega) (by simpa using hi) (by simp) hb h2
    · have := hlt i b hi hb; omega
  · intro b hb
    rcases hF b hb with h2 | h2
    · exact hs.off 0 b (by simp) h2
    · cases hM : M.heap b with
      | none => rfl
      | some o => have := (Array.getElem?_eq_some_iff.1 (ha.heap b o hM)).1; omega
/-- something new -/
theorem St.add (h : St M0 w L) {F' : Nat → Prop} (hf : Fr Non w w') (hy : ∀ M, Agree w' M → Y.holds M w' F') (hF : ∀ b, F' b → w.heap.size ≤ b) : St M0 w' (Y :: L) := by
  obtain ⟨M, Fs, h0, ha, hs⟩ := h
  have ha' : Agree w' M := ha.fr hf (fun b hb => hb.elim)
  have hlt : ∀ i b, i < L.length → Fs i b → b < w.heap.size := fun i b hi hb => (L[i]).lt (hs.at_ i _ (List.getElem?_eq_getElem hi)) hb
  refine ⟨M, _, h0, ha', (hs.keep ha' (Imm.le.refl _) (fun i b hi hb => hf.block b (hlt i b hi hb) (fun x => x)) hs.off).cons (hy M ha') ?_ ?_⟩
  · intro i b hi hb h1
    have := hlt i b hi hb
    have := hF b h1
    omega
  · intro b hb
    cases hM : M.heap b with
    | none => rfl
    | some o => have := (Array.getElem?_eq_some_iff.1 (ha.heap b o hM)).1; have := hF b hb; omega

/-! ### the resources -/
/-- a fact that stays -/
def persR (R : World → Prop) : Res where
  holds M _ F := (∀ b, ¬ F b) ∧ ∀ w', Agree w' M → R w'
  lt h hb := (h.1 _ hb).elim
  loc h _ hm _ := ⟨h.1, fun w'' ha => h.2 w'' (ha.le hm)⟩
/-- a fact that has nothing to do with memory -/
def pureR (p : Prop) : Res where
  holds _ _ F := (∀ b, ¬ F b) ∧ p
  lt h hb := (h.1 _ hb).elim
  loc h _ _ _ := h
/-- a block -/
def blkR (g : Nat) (t : TypeId) (cs : Array Value) : Res where
  holds _ w F := (∀ b, F b ↔ b = g) ∧ Blk w g t cs
  lt h hb := by rw [(h.1 _).1 hb]; exact h.2.lt
  loc h _ _ hb := ⟨h.1, (hb _ ((h.1 _).2 rfl)).trans h.2⟩
/-- a slice that owns its row -/
def rowR (e : TypeId) (size : Nat) (v : Value) (n : Nat) (xs : List Value) : Res where
  holds _ w F := (∀ b, F b ↔ v.ownBlock = some b) ∧ w.ownsRow 0 e size v n xs
  lt h hb := (h.2.lt _ ((h.1 _).1 hb)).2
  loc h _ _ hb := by
    refine ⟨h.1, h.2.1, ?_⟩
    rcases h.2.2 with h2 | ⟨g, cap, cur, rfl, hg, hh, r⟩
    · exact .inl h2
    · exact .inr ⟨g, cap, cur, rfl, hg, (hb g ((h.1 g).2 rfl)).trans hh, r⟩
/-- one and the other, apart -/
def starR (X Y : Res) : Res where
  holds M w F := ∃ A B : Nat → Prop, X.holds M w A ∧ Y.holds M w B ∧ (∀ b, A b → ¬ B b) ∧ ∀ b, F b ↔ A b ∨ B b
  lt h hb := by
    obtain ⟨A, B, hx, hy, _, hF⟩ := h
    rcases (hF _).1 hb with h1 | h1
    · exact X.lt hx h1
    · exact Y.lt hy h1
  loc h ha hm hb := by
    obtain ⟨A, B, hx, hy, hd, hF⟩ := h
    exact ⟨A, B, X.loc hx ha hm (fun b h1 => hb b ((hF b).2 (.inl h1))), Y.loc hy ha hm (fun b h1 => hb b ((hF b).2 (.inr h1))), hd, hF⟩
/-- one of these -/
def exR {α : Type} (f : α → Res) : Res where
  holds M w F := ∃ a, (f a).holds M w F
  lt h hb := by obtain ⟨a, h⟩ := h; exact (f a).lt h hb
  loc h ha hm hb := by obtain ⟨a, h⟩ := h; exact ⟨a, (f a).loc h ha hm hb⟩

theorem St.fact (h : St M0 w L) (i : Nat) (hi : L[i]? = some X) : ∃ M F, X.holds M w F ∧ Agree w M := by
  obtain ⟨M, Fs, h0, ha, hs⟩ := h
  exact ⟨M, _, hs.at_ i X hi, ha⟩
theorem St.get {R : World → Prop} (h : St M0 w L) (i : Nat) (hi : L[i]? = some (persR R)) : R w := by
  obtain ⟨M, F, hx, ha⟩ := h.fact i hi
  exact hx.2 w ha
theorem St.blk {g : Nat} {t : TypeId} {cs : Array Value} (h : St M0 w L) (i : Nat) (hi : L[i]? = some (blkR g t cs)) : Blk w g t cs := by
  obtain ⟨M, F, hx, ha⟩ := h.fact i hi
  exact hx.2
theorem St.row {e : TypeId} {size : Nat} {v : Value} {n : Nat} {xs : List Value} (h : St M0 w L) (i : Nat) (hi : L[i]? = some (rowR e size v n xs)) : w.ownsRow 0 e size v n xs := by
  obtain ⟨M, F, hx, ha⟩ := h.fact i hi
  exact hx.2
theorem St.pure_ {p : Prop} (h : St M0 w (pureR p :: L)) : p ∧ St M0 w L := by
  obtain ⟨M, F, hx, ha⟩ := h.fact 0 rfl
  exact ⟨hx.2, h.tail⟩
theorem St.addP {p : Prop} (h : St M0 w L) (hp : p) : St M0 w (pureR p :: L) :=
  h.add (F' := fun _ => False) (Fr.refl _ _) (fun _ _ => ⟨fun _ x => x, hp⟩) (fun _ x => x.elim)
theorem St.ex {α : Type} {f : α → Res} (h : St M0 w (exR f :: L)) : ∃ a, St M0 w (f a :: L) := by
  obtain ⟨M, Fs, h0, ha, hs⟩ := h
  obtain ⟨a, hx⟩ := hs.at_ 0 _ rfl
  refine ⟨a, M, Fs, h0, ha, ?_, hs.apart, hs.off⟩
  intro i Y hi
  cases i with
  | zero => obtain rfl : f a = Y := by simpa using hi
            exact hx
  | succ i => exact hs.at_ (i + 1) Y (by simpa using hi)
theorem St.addEx {α : Type} {f : α → Res} (a : α) (h : St M0 w (f a :: L)) : St M0 w (exR f :: L) := by
  obtain ⟨M, Fs, h0, ha, hs⟩ := h
  refine ⟨M, Fs, h0, ha, ?_, hs.apart, hs.off⟩
  intro i Y hi
  cases i with
  | zero => obtain rfl : exR f = Y := by simpa using hi
            exact ⟨a, hs.at_ 0 _ rfl⟩
  | succ i => exact hs.at_ (i + 1) Y (by simpa using hi)
theorem St.star (h : St M0 w (starR X Y :: L)) : St M0 w (X :: Y :: L) := by
  obtain ⟨M, Fs, h0, ha, hs⟩ := h
  obtain ⟨A, B, hx, hy, hd, hF⟩ := hs.at_ 0 _ rfl
  refine ⟨M, _, h0, ha, (hs.tail.cons hy ?_ (fun b hb => hs.off 0 b (by simp) ((hF b).2 (.inr hb)))).cons hx ?_ (fun b hb => hs.off 0 b (by simp) ((hF b).2 (.inl hb)))⟩
  · intro i b hi hb h1
    exact hs.apart (i + 1) 0 b (by omega) (by simpa using hi) (by simp) hb ((hF b).2 (.inr h1))
  · intro i b hi hb h1
    cases i with
    | zero => exact hd b h1 hb
    | succ i => exact hs.apart (i + 1) 0 b (by omega) (by simpa using hi) (by simp) hb ((hF b).2 (.inl h1))
theorem St.addStar (h : St M0 w (X :: Y :: L)) : St M0 w (starR X Y :: L) := by
  obtain ⟨M, Fs, h0, ha, hs⟩ := h
  refine ⟨M, _, h0, ha, hs.tail.tail.cons (F := fun b => Fs 0 b ∨ Fs 1 b) ⟨Fs 0, Fs 1, hs.at_ 0 X rfl, hs.at_ 1 Y rfl, fun b => hs.apart 0 1 b (by omega) (by simp) (by simp), fun b => Iff.rfl⟩ ?_ ?_⟩
  · rintro i b hi hb (h1 | h1)
    · exact hs.apart (i + 2) 0 b (by omega) (by simpa using hi) (by simp) hb h1
    · exact hs.apart (i + 2) 1 b (by omega) (by simpa using hi) (by simp) hb h1
  · rintro b (h1 | h1)
    · exact hs.off 0 b (by simp) h1
    · exact hs.off 1 b (by simp) h1
/-- a fact on what has been there from the first -/
theorem St.pers0 {R : World → Prop} (h : St M0 w L) (hR : ∀ w', Agree w' M0 → R w') : St M0 w (persR R :: L) := by
  obtain ⟨M, Fs, h0, ha, hs⟩ := h
  exact ⟨M, _, h0, ha, hs.cons (F := fun _ => False) ⟨fun _ x => x, fun w' ha' => hR w' (ha'.le h0)⟩ (fun _ _ _ _ x => x) (fun _ x => x.elim)⟩
theorem St.persW {w0 : World} {R : World → Prop} (h : St (Imm.of w0) w L) (hR : ∀ w', Fr Non w0 w' → R w') : St (Imm.of w0) w (persR R :: L) := h.pers0 (fun w' ha => hR w' ha.non)
/-- a fact out of another one -/
theorem St.pers1 {R R' : World → Prop} (h : St M0 w (persR R :: L)) (hR : ∀ w', R w' → R' w') : St M0 w (persR R' :: L) := by
  obtain ⟨M, Fs, h0, ha, hs⟩ := h
  have hx := hs.at_ 0 _ rfl
  refine ⟨M, Fs, h0, ha, ?_, hs.apart, hs.off⟩
  intro i Y hi
  cases i with
  | zero => obtain rfl : persR R' = Y := by simpa using hi
            exact ⟨hx.1, fun w' ha' => hR w' (hx.2 w' ha')⟩
  | succ i => exact hs.at_ (i + 1) Y (by simpa using hi)
theorem St.copy {R : World → Prop} (h : St M0 w L) (i : Nat) (hi : L[i]? = some (persR R)) : St M0 w (persR R :: L) := by
  obtain ⟨M, Fs, h0, ha, hs⟩ := h
  exact ⟨M, _, h0, ha, hs.cons (F := fun _ => False) ⟨fun _ x => x, (hs.at_ i _ hi).2⟩ (fun _ _ _ _ x => x) (fun _ x => x.elim)⟩
theorem St.pers2 {R R' Q : World → Prop} (h : St M0 w (persR R :: persR R' :: L)) (hR : ∀ w', R w' → R' w' → Q w') : St M0 w (persR Q :: L) := by
  obtain ⟨M, Fs, h0, ha, hs⟩ := h
  have hx := hs.at_ 0 _ rfl
  have hy := hs.at_ 1 _ rfl
  exact ⟨M, _, h0, ha, hs.tail.tail.cons (F := fun _ => False) ⟨fun _ x => x, fun w' ha' => hR w' (hx.2 w' ha') (hy.2 w' ha')⟩ (fun _ _ _ _ x => x) (fun _ x => x.elim)⟩
/-- what is not written any more: a fact that stays -/
theorem St.freeze {R : World → Prop} (h : St M0 w (X :: L)) (hR : ∀ M w' F, X.holds M w' F → Agree w' M → R w') : St M0 w (persR R :: L) := by
  obtain ⟨M, Fs, h0, ha, hs⟩ := h
  have hx := hs.at_ 0 _ rfl
  have hlt : ∀ b, Fs 0 b → b < w.heap.size := fun b hb => X.lt hx hb
  letI : ∀ b, Decidable (Fs 0 b) := fun b => Classical.propDecidable _
  let M' : Imm := ⟨M.os, M.tape, M.output, fun b => if Fs 0 b then w.heap[b]? else M.heap b⟩
  have hm : M.le M' := ⟨rfl, rfl, rfl, fun b o hb => by
    show (if Fs 0 b then w.heap[b]? else M.heap b) = some o
    split
    · rename_i h1
      rw [hs.off 0 b (by simp) h1] at hb
      cases hb
    · exact hb⟩
  have ha' : Agree w M' := ⟨ha.os, ha.tape, ha.output, fun b o hb => by
    have hb : (if Fs 0 b then w.heap[b]? else M.heap b) = some o := hb
    split at hb
    · exact hb
    · exact ha.heap b o hb⟩
  have hoff : ∀ i b, i < L.length → Fs (i + 1) b → M'.heap b = none := fun i b hi hb => by
    show (if Fs 0 b then w.heap[b]? else M.heap b) = none
    rw [if_neg (hs.apart (i + 1) 0 b (by omega) (by simpa using hi) (by simp) hb)]
    exact hs.off (i + 1) b (by simpa using hi) hb
  refine ⟨M', _, h0.trans hm, ha', (hs.tail.keep ha' hm (fun _ _ _ _ => rfl) hoff).cons (F := fun _ => False) ⟨fun _ x => x, fun w' hw' => ?_⟩ (fun _ _ _ _ x => x) (fun _ x => x.elim)⟩
  refine hR M' w' (Fs 0) (X.loc hx hw' hm (fun b hb => ?_)) hw'
  have h1 : M'.heap b = w.heap[b]? := by
    show (if Fs 0 b then w.heap[b]? else M.heap b) = _
    rw [if_pos hb]
  rw [Array.getElem?_eq_getElem (hlt b hb)] at h1 ⊢
  exact hw'.heap b _ h1
theorem St.freezeB {g : Nat} {t : TypeId} {cs : Array Value} (h : St M0 w (blkR g t cs :: L)) : St M0 w (persR (fun w' => Blk w' g t cs) :: L) := h.freeze (fun _ _ _ hx _ => hx.2)
theorem St.freezeR {e : TypeId} {size : Nat} {v : Value} {n : Nat} {xs : List Value} (h : St M0 w (rowR e size v n xs :: L)) : St M0 w (persR (fun w' => w'.ownsRow 0 e size v n xs) :: L) := h.freeze (fun _ _ _ hx _ => hx.2)

/-! ### the steps -/
theorem St.alloc (h : St M0 w L) (t : TypeId) (cs : Array Value) : St M0 (w.alloc (.cells cs t)) (blkR w.heap.size t cs :: L) :=
  h.add (F' := (· = w.heap.size)) ((Fr.refl _ _).alloc _) (fun _ _ => ⟨fun _ => Iff.rfl, Blk.new _ _ _⟩) (fun _ hb => Nat.le_of_eq hb.symm)
theorem St.set_ {g : Nat} {t : TypeId} {cs : Array Value} (h : St M0 w (blkR g t cs :: L)) (i : Nat) (u : Value) : St M0 (w.setCell ⟨g, i, none⟩ u) (blkR g t (cs.setIfInBounds i u) :: L) := by
  obtain ⟨M, F, _, _, hx, _, hk⟩ := h.head
  exact hk _ _ F ((Fr.refl _ _).setCell (fun _ => (hx.1 _).2 rfl) u) (fun _ => ⟨hx.1, hx.2.set_ i u⟩) (fun _ hb => .inl hb)
theorem St.nilRow (h : St M0 w L) (e : TypeId) (size : Nat) : St M0 w (rowR e size (.slice none 0 0) 0 [] :: L) :=
  h.add (F' := fun _ => False) (Fr.refl _ _) (fun _ _ => ⟨fun b => ⟨fun x => x.elim, fun x => by simp [Value.ownBlock] at x⟩, World.ownsRow_nil _ _ _ _⟩) (fun _ x => x.elim)
/-- a slice made just before -/
theorem St.newRow {e : TypeId} {size : Nat} {v : Value} {n : Nat} {xs : List Value} (h : St M0 w L) (hf : Fr Non w w') (ho : w'.ownsRow 0 e size v n xs) (hv : ∀ b, v.ownBlock = some b → w.heap.size ≤ b) : St M0 w' (rowR e size v n xs :: L) :=
  h.add (F' := fun b => v.ownBlock = some b) hf (fun _ _ => ⟨fun _ => Iff.rfl, ho⟩) hv
theorem St.app {e : TypeId} {size : Nat} {v v' : Value} {n n' : Nat} {xs xs' : List Value} (h : St M0 w (rowR e size v n xs :: L)) (ho : w'.ownsRow 0 e size v' n' xs') (hf : Fr (fun b => v.ownBlock = some b) w w')
    (hb : v'.ownBlock = v.ownBlock ∨ v'.ownBlock = some w.heap.size) : St M0 w' (rowR e size v' n' xs' :: L) := by
  obtain ⟨M, F, _, _, hx, _, hk⟩ := h.head
  refine hk _ _ (fun b => v'.ownBlock = some b) (hf.mono (fun b _ h1 => (hx.1 b).2 h1)) (fun _ => ⟨fun _ => Iff.rfl, ho⟩) (fun b h1 => ?_)
  rcases hb with h2 | h2
  · exact .inl ((hx.1 b).2 (h2 ▸ h1))
  · rw [h1] at h2
    injection h2 with h2
    exact .inr (Nat.le_of_eq h2.symm)

/-! ### lists of numbers that stay -/
abbrev Any : Nat → Prop := fun _ => True
/-- a slice of numbers of kind k -/
def Ints (w : World) (k : IntKind) (v : Value) (xs : List Int) : Prop :=
  ∃ A c, v = .slice A xs.length c ∧ xs.length ≤ c ∧ c ≤ maxLen ∧ Sl w Any 1 A xs.length (xs.map (Value.int k))
theorem Ints.none_ (w : World) (k : IntKind) : Ints w k (.slice none 0 0) [] := ⟨none, 0, rfl, by simp, by unfold maxLen; omega, Sl.nil_ _ _ _ _⟩
theorem Ints.len {k : IntKind} {v : Value} {xs : List Int} (h : Ints w k v xs) : xs.length ≤ 9223372036854775807 := by
  obtain ⟨A, c, _, h1, h2, _⟩ := h
  unfold maxLen at h2
  omega
theorem Ints.non {k : IntKind} {v : Value} {xs : List Int} (h : Ints w k v xs) (hf : Fr Non w w') : Ints w' k v xs := by
  obtain ⟨A, c, e, h1, h2, h3⟩ := h
  exact ⟨A, c, e, h1, h2, h3.non hf⟩
theorem Ints.of_own {e : TypeId} {k : IntKind} {v : Value} {n : Nat} {xs : List Int} (h : w.ownsRow 0 e 1 v n (xs.map (Value.int k))) : Ints w k v xs := by
  have hn : n = xs.length := by have := h.1; simp at this; exact this.symm
  subst hn
  rcases h.2 with ⟨rfl, h0⟩ | ⟨g, cap, cur, rfl, hg, hh, hc, hm, _⟩
  · have : xs = [] := List.eq_nil_of_length_eq_zero h0
    subst this
    exact Ints.none_ w k
  · exact ⟨_, _, rfl, hc, hm, (Sl.of_own h).mono (fun _ _ _ => trivial)⟩
theorem Ints.sl {k : IntKind} {A : Option Addr} {n c : Nat} {xs : List Int} (h : Ints w k (.slice A n c) xs) : n = xs.length ∧ n ≤ c ∧ c ≤ 9223372036854775807 ∧ Sl w Any 1 A n (xs.map (Value.int k)) := by
  obtain ⟨A', c', e, h1, h2, h3⟩ := h
  injection e with e1 e2 e3
  subst e1; subst e2; subst e3
  exact ⟨rfl, h1, h2, h3⟩
/-- its first ones -/
theorem Ints.cut {k : IntKind} {A : Option Addr} {n c m : Nat} {xs : List Int} (h : Ints w k (.slice A n c) xs) (hm : m ≤ n) : Ints w k (.slice A m c) (xs.take m) := by
  obtain ⟨h0, h1, h2, h3⟩ := h.sl
  have hl : (xs.take m).length = m := by rw [List.length_take]; omega
  refine ⟨A, c, by rw [hl], by rw [hl]; omega, h2, by rw [List.length_map]; omega, fun hp => ?_⟩
  rw [hl] at hp
  obtain ⟨ad, e, hq, hb, hc⟩ := h3.2 (by omega)
  refine ⟨ad, e, trivial, hb, fun j u hu => hc j u ?_⟩
  rw [List.map_take, List.getElem?_take] at hu
  split at hu
  · exact hu
  · cases hu
/-- a row that is not written any more -/
theorem St.ints {e : TypeId} {k : IntKind} {v : Value} {n : Nat} {xs : List Int} (h : St M0 w (rowR e 1 v n (xs.map (Value.int k)) :: L)) : St M0 w (persR (fun w' => Ints w' k v xs) :: L) :=
  h.freezeR.pers1 (fun _ ho => Ints.of_own ho)
end

/-! ### the order of the resources -/
section
variable {M0 : Imm} {w : World} {L : List Res} {A0 A1 A2 A3 A4 A5 A6 A7 A8 A9 : Res}
theorem St.up2 (h : St M0 w (A0 :: A1 :: A2 :: L)) : St M0 w (A2 :: A0 :: A1 :: L) := h.pick 3 [2, 0, 1]
theorem St.dn2 (h : St M0 w (A0 :: A1 :: A2 :: L)) : St M0 w (A1 :: A2 :: A0 :: L) := h.pick 3 [1, 2, 0]
theorem St.up3 (h : St M0 w (A0 :: A1 :: A2 :: A3 :: L)) : St M0 w (A3 :: A0 :: A1 :: A2 :: L) := h.pick 4 [3, 0, 1, 2]
theorem St.dn3 (h : St M0 w (A0 :: A1 :: A2 :: A3 :: L)) : St M0 w (A1 :: A2 :: A3 :: A0 :: L) := h.pick 4 [1, 2, 3, 0]
theorem St.up4 (h : St M0 w (A0 :: A1 :: A2 :: A3 :: A4 :: L)) : St M0 w (A4 :: A0 :: A1 :: A2 :: A3 :: L) := h.pick 5 [4, 0, 1, 2, 3]
theorem St.dn4 (h : St M0 w (A0 :: A1 :: A2 :: A3 :: A4 :: L)) : St M0 w (A1 :: A2 :: A3 :: A4 :: A0 :: L) := h.pick 5 [1, 2, 3, 4, 0]
theorem St.up5 (h : St M0 w (A0 :: A1 :: A2 :: A3 :: A4 :: A5 :: L)) : St M0 w (A5 :: A0 :: A1 :: A2 :: A3 :: A4 :: L) := h.pick 6 [5, 0, 1, 2, 3, 4]
theorem St.dn5 (h : St M0 w (A0 :: A1 :: A2 :: A3 :: A4 :: A5 :: L)) : St M0 w (A1 :: A2 :: A3 :: A4 :: A5 :: A0 :: L) := h.pick 6 [1, 2, 3, 4, 5, 0]
theorem St.up6 (h : St M0 w (A0 :: A1 :: A2 :: A3 :: A4 :: A5 :: A6 :: L)) : St M0 w (A6 :: A0 :: A1 :: A2 :: A3 :: A4 :: A5 :: L) := h.pick 7 [6, 0, 1, 2, 3, 4, 5]
theorem St.dn6 (h : St M0 w (A0 :: A1 :: A2 :: A3 :: A4 :: A5 :: A6 :: L)) : St M0 w (A1 :: A2 :: A3 :: A4 :: A5 :: A6 :: A0 :: L) := h.pick 7 [1, 2, 3, 4, 5, 6, 0]
theorem St.up7 (h : St M0 w (A0 :: A1 :: A2 :: A3 :: A4 :: A5 :: A6 :: A7 :: L)) : St M0 w (A7 :: A0 :: A1 :: A2 :: A3 :: A4 :: A5 :: A6 :: L) := h.pick 8 [7, 0, 1, 2, 3, 4, 5, 6]
theorem St.dn7 (h : St M0 w (A0 :: A1 :: A2 :: A3 :: A4 :: A5 :: A6 :: A7 :: L)) : St M0 w (A1 :: A2 :: A3 :: A4 :: A5 :: A6 :: A7 :: A0 :: L) := h.pick 8 [1, 2, 3, 4, 5, 6, 7, 0]
theorem St.up8 (h : St M0 w (A0 :: A1 :: A2 :: A3 :: A4 :: A5 :: A6 :: A7 :: A8 :: L)) : St M0 w (A8 :: A0 :: A1 :: A2 :: A3 :: A4 :: A5 :: A6 :: A7 :: L) := h.pick 9 [8, 0, 1, 2, 3, 4, 5, 6, 7]
theorem St.dn8 (h : St M0 w (A0 :: A1 :: A2 :: A3 :: A4 :: A5 :: A6 :: A7 :: A8 :: L)) : St M0 w (A1 :: A2 :: A3 :: A4 :: A5 :: A6 :: A7 :: A8 :: A0 :: L) := h.pick 9 [1, 2, 3, 4, 5, 6, 7, 8, 0]
theorem St.del1 (h : St M0 w (A0 :: A1 :: L)) : St M0 w (A0 :: L) := h.pick 2 [0]
theorem St.del2 (h : St M0 w (A0 :: A1 :: A2 :: L)) : St M0 w (A0 :: A1 :: L) := h.pick 3 [0, 1]
theorem St.del3 (h : St M0 w (A0 :: A1 :: A2 :: A3 :: L)) : St M0 w (A0 :: A1 :: A2 :: L) := h.pick 4 [0, 1, 2]
theorem St.del4 (h : St M0 w (A0 :: A1 :: A2 :: A3 :: A4 :: L)) : St M0 w (A0 :: A1 :: A2 :: A3 :: L) := h.pick 5 [0, 1, 2, 3]
theorem St.del5 (h : St M0 w (A0 :: A1 :: A2 :: A3 :: A4 :: A5 :: L)) : St M0 w (A0 :: A1 :: A2 :: A3 :: A4 :: L) := h.pick 6 [0, 1, 2, 3, 4]
end

end Go.Proofs.YtpaelngpmbeedaaGreatDoor
/- append, told with resources: whatever slice is appended. -/
namespace Go.Proofs.YtpaelngpmbeedaaGreatDoor
open Go.RowKit

/-- t is a slice of e; an e has so many cells, so many bytes, and this zero -/
structure ElemOf (P : Program) (t e : TypeId) (z : Value) (size bytes : Nat) : Prop where
  ht : P.underlying t = some (.slice e)
  hinfo : (P.info? e).map (fun i => (i.zero, i.size, i.bytes)) = some (some z, size, bytes)
  hzs : z.cells.size = size
  hsz : 0 < size

theorem run_append_nil {P : Program} (w : World) (base : Nat) (t ty e : TypeId) (i : TypeInfo) (size : Nat) (ht : P.underlying t = some (.slice e)) (hi : P.info? e = some i)
    (v : Value) (n : Nat) (xs : List Value) (hown : w.ownsRow base e size v n xs) (c : Nat) : (Builtin.append_ #[t, t] ty #[v, .slice none 0 c]).run P w = .ok v w := by
  rcases hown.2 with ⟨rfl, rfl⟩ | ⟨g, cap, cur, rfl, _, _, hnc, _⟩
  · simp [Builtin.append_, run_underlying ht, sizeOf, typeInfo, hi, Builtin.lenOf, Builtin.firstCells]
  · simp [Builtin.append_, run_underlying ht, sizeOf, typeInfo, hi, Builtin.lenOf, Builtin.firstCells, hnc, storeCells]

section
variable {P : Program} {M0 : Imm} {w w' : World} {L : List Res} {t e : TypeId} {z : Value} {size bytes : Nat} {v : Value} {n : Nat} {xs : List Value}

theorem St.run_app (hE : ElemOf P t e z size bytes) (h : St M0 w (rowR e size v n xs :: L)) (ty : TypeId) (A : Option Addr) (m c : Nat) (ys : List Value) (hy : Sl w Any size A m ys) (h1 : ∀ u ∈ ys, u.oneCell' = true)
    (hb : (n + m) * bytes ≤ 140737488355328) (hn : n + m ≤ 140737488355328) :
    ∃ v' w', (Builtin.append_ #[t, t] ty #[v, .slice A m c]).run P w = .ok v' w' ∧ St M0 w' (rowR e size v' (n + m) (xs ++ ys) :: L) := by
  have hown := h.row 0 rfl
  rcases A with _ | ad
  · have hm : m = 0 := by
      rcases Nat.eq_zero_or_pos m with h0 | h0
      · exact h0
      · obtain ⟨ad, h, _⟩ := hy.2 h0
        cases h
    subst hm
    have hn : ys = [] := List.eq_nil_of_length_eq_zero (by simpa using hy.1)
    subst hn
    obtain ⟨i0, hi0, _⟩ := info_parts hE.hinfo
    exact ⟨v, w, run_append_nil w 0 t ty e i0 size hE.ht hi0 v n xs hown c, by simpa using h⟩
  · have hcells : ∀ j u, ys[j]? = some u → w.cell? (ad.add j) = some u := by
      intro j u hu
      rcases Nat.eq_zero_or_pos m with h0 | h0
      · subst h0
        have hn : ys = [] := List.eq_nil_of_length_eq_zero (by simpa using hy.1)
        subst hn
        simp at hu
      · obtain ⟨ad', h, _, _, hc⟩ := hy.2 h0
        injection h with h
        subst h
        exact hc j u hu
    obtain ⟨v', w', hrun, h2, h3, h4⟩ := run_append_at (P := P) (w := w) t ty 0 e z size bytes hE.ht hE.hinfo hE.hzs hE.hsz v n xs hown ad m c ys hy.1 hcells h1 hb hn (Nat.zero_le _)
    exact ⟨v', w', hrun, h.app h2 h3 h4⟩

/-- the value of an owned row is a slice -/
theorem St.slice (h : St M0 w (rowR e size v n xs :: L)) : ∃ A c, v = .slice A n c := by
  rcases (h.row 0 rfl).2 with ⟨rfl, h0⟩ | ⟨g, cap, cur, rfl, _⟩
  · exact ⟨_, _, by rw [h0]⟩
  · exact ⟨_, _, rfl⟩
/-- append as a step of the walk -/
theorem St.app_step {ops : Array Oper} {rest : List Oper} {o : Oper} {ac : Act} {Q : Exit → Act → World → Prop} (hE : ElemOf P t e z size bytes) (h : St M0 w (rowR e size v n xs :: L)) (hgd : o.guard = none) (s x : Operand)
    (ho : o.op = .call { callee := .builtin .append, args := #[s, x], argTypes := #[t, t] }) (hs : ac.eval s = v)
    (A : Option Addr) (m c : Nat) (hx : ac.eval x = .slice A m c) (ys : List Value) (hy : Sl w Any size A m ys) (h1 : ∀ u ∈ ys, u.oneCell' = true)
    (hb : (n + m) * bytes ≤ 140737488355328) (hn : n + m ≤ 140737488355328)
    (k : ∀ A' c' w', St M0 w' (rowR e size (.slice A' (n + m) c') (n + m) (xs ++ ys) :: L) → wpList P ops Q rest (ac.put o.dst (.slice A' (n + m) c')) w') : wpList P ops Q (o :: rest) ac w := by
  obtain ⟨v', w', hrun, h2⟩ := St.run_app hE h o.type A m c ys hy h1 hb hn
  obtain ⟨A', c', rfl⟩ := h2.slice
  refine wpList_plain hgd fun K hK => ?_
  unfold Oper.wp execOp
  simp only [ho, resolve, invoke, builtin, Sem.run_bind, Sem.run_pure, Result.andThen_ok, List.map_toArray, List.map_cons, List.map_nil, hs, hx, hrun]
  exact hK _ _ (k A' c' w' h2)
/-- append as a step behind those that may be taken first -/
theorem seq_app {Q : Exit → Act → World → Prop} {S : World → Prop} {Lm : Nat} {l : List Oper} {i : Nat} {r : List Nat} {ac : Act} {o : Oper} (hE : ElemOf P t e z size bytes) (h : St M0 w (rowR e size v n xs :: L)) (ho : l[i]? = some o) (hg : o.guard = none) (s x : Operand)
    (hop : o.op = .call { callee := .builtin .append, args := #[s, x], argTypes := #[t, t] }) (hs : ac.eval s = v)
    (A : Option Addr) (m c : Nat) (hx : ac.eval x = .slice A m c) (ys : List Value) (hy : Sl w Any size A m ys) (h1 : ∀ u ∈ ys, u.oneCell' = true)
    (hb : (n + m) * bytes ≤ 140737488355328) (hn : n + m ≤ 140737488355328)
    (k : ∀ A' c' w', St M0 w' (rowR e size (.slice A' (n + m) c') (n + m) (xs ++ ys) :: L) → (i < Lm → S w') ∧ wpSeq P l.toArray Q S Lm r (ac.put o.dst (.slice A' (n + m) c')) w') : wpSeq P l.toArray Q S Lm (i :: r) ac w := by
  obtain ⟨v', w', hrun, h2⟩ := St.run_app hE h o.type A m c ys hy h1 hb hn
  obtain ⟨A', c', rfl⟩ := h2.slice
  have hk := k A' c' w' h2
  exact seq_run ho hg (by unfold execOp; simp only [hop, resolve, invoke, builtin, Sem.run_bind, Sem.run_pure, Result.andThen_ok, List.map_toArray, List.map_cons, List.map_nil, hs, hx, hrun]) hk.1 hk.2

/-- the one value that was laid just before -/
theorem sl_new1 (w : World) (e : TypeId) (u : Value) : Sl (w.alloc (.cells #[u] e)) Any 1 (some ⟨w.heap.size, 0, none⟩) 1 [u] :=
  ⟨rfl, fun _ => ⟨_, rfl, trivial, by simp, fun j y hy => by
    match j, hy with
    | 0, hy => exact ((Blk.new w e #[u]).cell 0).trans hy
    | j + 1, hy => simp at hy⟩⟩
theorem sl_blk {b : Nat} {xs : List Value} (h : Blk w b t xs.toArray) : Sl w Any 1 (some ⟨b, 0, none⟩) xs.length xs := by
  refine ⟨by simp, fun _ => ⟨_, rfl, trivial, h.lt, fun j u hu => ?_⟩⟩
  rw [show (⟨b, 0, none⟩ : Addr).add j = ⟨b, j, none⟩ by simp [Addr.add]; exact Eq.symm, h.cell]
  simpa using hu
theorem St.row_eq {n' : Nat} {xs' : List Value} (h : St M0 w (rowR e size v n xs :: L)) (hn : n = n') (hx : xs = xs') : St M0 w (rowR e size v n' xs' :: L) := by subst hn; subst hx; exact h
theorem Sl.cut {Q : Nat → Prop} {A : Option Addr} {n k : Nat} {xs : List Value} (h : Sl w Q 1 A n xs) (hk : k ≤ n) : Sl w Q 1 A k (xs.take k) := by
  have h1 := h.1
  refine ⟨by rw [List.length_take]; omega, fun hp => ?_⟩
  obtain ⟨ad, e, hq, hb, hc⟩ := h.2 (by omega)
  refine ⟨ad, e, hq, hb, fun j u hu => hc j u ?_⟩
  rw [List.getElem?_take] at hu
  split at hu
  · exact hu
  · cases hu
theorem St.sl {A : Option Addr} {c : Nat} (h : St M0 w (rowR e size (.slice A n c) n xs :: L)) : Sl w Any size A n xs := (Sl.of_own (h.row 0 rfl)).mono (fun _ _ _ => trivial)
end

end Go.Proofs.YtpaelngpmbeedaaGreatDoor
