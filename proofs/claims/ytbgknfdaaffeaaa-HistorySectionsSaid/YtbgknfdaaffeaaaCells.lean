/- Rows of cells: many cells written at once, read at once; an append whose row is the old one or a new one. -/
import Derived.Test.YtbgknfdaaffeaaaWords
import Derived.Deep.MidRow
import Derived.Maps.AppendAt
import Derived.StillTailTactics
import Derived.Deep.RegionLaw
import Derived.Great.BuildSlice
namespace Go.Proofs.Ytbgknfdaaffeaaa
open Go.RowKit

/-- a list in which vs stands from o on -/
def splice {α : Type} (xs : List α) (o : Nat) (vs : List α) : List α := xs.take o ++ vs ++ xs.drop (o + vs.length)
theorem splice_length {α : Type} (xs : List α) (o : Nat) (vs : List α) (h : o + vs.length ≤ xs.length) : (splice xs o vs).length = xs.length := by
  unfold splice
  simp
  omega
theorem splice_take {α : Type} (xs : List α) (o m : Nat) (vs : List α) (h : o + vs.length ≤ m) (_hm : m ≤ xs.length) : (splice xs o vs).take m = splice (xs.take m) o vs := by
  unfold splice
  rw [List.take_append, List.take_append, List.drop_take]
  simp only [List.length_append, List.length_take, List.take_take]
  congr 1
  · congr 1
    · congr 1; omega
    · rw [List.take_of_length_le (by omega)]
  · congr 1; omega
theorem splice_map {α β : Type} (f : α → β) (xs : List α) (o : Nat) (vs : List α) : (splice xs o vs).map f = splice (xs.map f) o (vs.map f) := by
  unfold splice
  simp [List.map_append, List.map_take, List.map_drop]
theorem splice_cons {α : Type} (xs : List α) (o : Nat) (v : α) (vs : List α) (h : o + (vs.length + 1) ≤ xs.length) : splice (xs.set o v) (o + 1) vs = splice xs o (v :: vs) := by
  unfold splice
  rw [List.drop_set_of_lt (by omega), List.length_cons, show o + 1 + vs.length = o + (vs.length + 1) by omega]
  have : (xs.set o v).take (o + 1) = xs.take o ++ [v] := by
    rw [List.take_succ_eq_append_getElem (by simp; omega)]
    simp [List.take_set_of_le]
  rw [this]
  simp

theorem blk_setCells (b : Nat) (e : TypeId) : ∀ (vs : List Value) (o : Nat) (cur : Array Value) (w : World), Blk w b e cur → o + vs.length ≤ cur.size → Blk (w.setCells b o vs) b e (splice cur.toList o vs).toArray
  | [], o, cur, w, h, _ => by simpa [World.setCells, splice] using h
  | v :: vs, o, cur, w, h, hl => by
    rw [World.setCells]
    have h1 := blk_setCells b e vs (o + 1) _ _ (h.set_ o v) (by simp at hl ⊢; omega)
    have h2 : (cur.setIfInBounds o v).toList = cur.toList.set o v := by simp
    rw [h2, splice_cons _ _ _ _ (by simpa using hl)] at h1
    exact h1

theorem fr_setCells {S : Nat → Prop} {a : World} (b : Nat) : ∀ (vs : List Value) (o : Nat) (w : World), Fr S a w → (b < a.heap.size → S b) → Fr S a (w.setCells b o vs)
  | [], _, _, h, _ => by simpa [World.setCells] using h
  | v :: vs, o, w, h, hb => by
    rw [World.setCells]
    exact fr_setCells b vs (o + 1) _ (h.setCell hb v) hb

section
variable {w w' : World} {base : Nat} {e : TypeId} {size n b cap : Nat} {xs vs : List Value}

theorem own_blk (h : w.ownsRow base e size (.slice (some ⟨b, 0, none⟩) n cap) n xs) : ∃ cur, Blk w b e cur ∧ cur.toList.take (n * size) = xs ∧ cur.size = cap * size ∧ n ≤ cap ∧ cap ≤ maxLen ∧ base ≤ b := by
  rcases h.2 with ⟨h0, _⟩ | ⟨g, c, cur, hv, hg, hh, hn, hm, hs, ht⟩
  · cases h0
  · simp only [Value.slice.injEq, Option.some.injEq, Addr.mk.injEq, and_true, true_and] at hv
    obtain ⟨rfl, rfl⟩ := hv
    exact ⟨cur, hh, ht, hs, hn, hm, hg⟩

theorem own_of_blk {cur : Array Value} (h : Blk w b e cur) (ht : cur.toList.take (n * size) = xs) (hs : cur.size = cap * size) (hn : n ≤ cap) (hm : cap ≤ maxLen) (hb : base ≤ b) :
    w.ownsRow base e size (.slice (some ⟨b, 0, none⟩) n cap) n xs :=
  ⟨by rw [← ht, List.length_take, Array.length_toList, hs]; exact Nat.min_eq_left (Nat.mul_le_mul_right _ hn), .inr ⟨b, cap, cur, rfl, hb, h, hn, hm, hs, ht⟩⟩

theorem own_setCells (h : w.ownsRow base e size (.slice (some ⟨b, 0, none⟩) n cap) n xs) (o : Nat) (ho : o + vs.length ≤ n * size) :
    (w.setCells b o vs).ownsRow base e size (.slice (some ⟨b, 0, none⟩) n cap) n (splice xs o vs) := by
  obtain ⟨cur, hb, ht, hs, hn, hm, hg⟩ := own_blk h
  have hle : n * size ≤ cur.size := by rw [hs]; exact Nat.mul_le_mul_right _ hn
  refine own_of_blk (blk_setCells b e vs o cur w hb (by omega)) ?_ ?_ hn hm hg
  · simp only
    rw [splice_take _ _ _ _ ho (by simpa using hle), ht]
  · rw [List.size_toArray, splice_length _ _ _ (by simp; omega), Array.length_toList, hs]

theorem own_range (h : w.ownsRow base e size (.slice (some ⟨b, 0, none⟩) n cap) n xs) (o k : Nat) : w.rangeAt b o ((xs.drop o).take k) := by
  obtain ⟨cur, hb, ht, _⟩ := own_blk h
  intro j v hv
  rw [hb.cell]
  rw [List.getElem?_take] at hv
  split at hv
  · rw [List.getElem?_drop, ← ht, List.getElem?_take] at hv
    split at hv
    · simpa using hv
    · cases hv
  · cases hv

theorem own_there (h : w.ownsRow base e size (.slice (some ⟨b, 0, none⟩) n cap) n xs) (o k : Nat) (ho : o + k ≤ n * size) : w.there b o k := by
  obtain ⟨cur, hb, ht, hs, hn, _⟩ := own_blk h
  have hle : n * size ≤ cur.size := by rw [hs]; exact Nat.mul_le_mul_right _ hn
  intro j hj
  exact ⟨by rw [hb.cell, Array.getElem?_eq_getElem (show o + j < cur.size by omega)]; rfl, hb.frozen _⟩

theorem own_fr1 {S : Nat → Prop} (h : w.ownsRow base e size (.slice (some ⟨b, 0, none⟩) n cap) n xs) (hf : Fr S w w') (hs : ¬ S b) : w'.ownsRow base e size (.slice (some ⟨b, 0, none⟩) n cap) n xs :=
  own_fr h hf (fun g hg => by obtain rfl : b = g := by simpa [Value.ownBlock] using hg
                              exact hs)

theorem own_form {A : Option Addr} {c : Nat} (h : w.ownsRow base e size (.slice A n c) n xs) (hn : 0 < n) : ∃ g, A = some ⟨g, 0, none⟩ := by
  rcases h.2 with ⟨_, h0⟩ | ⟨g, cap, cur, hv, _⟩
  · omega
  · exact ⟨g, by injection hv⟩
end

theorem Blk.range {w : World} {b : Nat} {e : TypeId} {cur : Array Value} (h : Blk w b e cur) (o k : Nat) : w.rangeAt b o ((cur.toList.drop o).take k) := by
  intro j v hv
  rw [h.cell]
  rw [List.getElem?_take] at hv
  split at hv
  · rw [List.getElem?_drop] at hv
    simpa using hv
  · cases hv
theorem Blk.there {w : World} {b : Nat} {e : TypeId} {cur : Array Value} (h : Blk w b e cur) (o k : Nat) (ho : o + k ≤ cur.size) : w.there b o k := by
  intro j hj
  exact ⟨by rw [h.cell, Array.getElem?_eq_getElem (show o + j < cur.size by omega)]; rfl, h.frozen _⟩

/-- append, as a run: of m elements, that lie at an address, to a row of one's own; the row behind it is the old one or a new one -/
theorem run_append_at {P : Program} {w : World} (t ty : TypeId) (base : Nat) (e : TypeId) (z : Value) (size bytes : Nat) (ht : P.underlying t = some (.slice e))
    (hinfo : (P.info? e).map (fun i => (i.zero, i.size, i.bytes)) = some (some z, size, bytes)) (hzs : z.cells.size = size) (hsz : 0 < size)
    (v : Value) (n : Nat) (xs : List Value) (hown : w.ownsRow base e size v n xs)
    (a : Addr) (m c : Nat) (news : List Value) (hl : news.length = m * size) (hc : ∀ j u, news[j]? = some u → w.cell? (a.add j) = some u) (h1 : ∀ u ∈ news, u.oneCell' = true)
    (hbytes : (n + m) * bytes ≤ 140737488355328) (hn : n + m ≤ 140737488355328) (hbase : base ≤ w.heap.size) :
    ∃ v' w', (Builtin.append_ #[t, t] ty #[v, .slice (some a) m c]).run P w = .ok v' w' ∧ w'.ownsRow base e size v' (n + m) (xs ++ news) ∧ Fr (fun b => v.ownBlock = some b) w w' ∧
      (v'.ownBlock = v.ownBlock ∨ v'.ownBlock = some w.heap.size) := by
  obtain ⟨i0, hi0, hz0, hz1, hz2⟩ := info_parts hinfo
  obtain ⟨v', w', h1, h2, h3, _, h5⟩ := run_append_own_at (P := P) w base t ty e i0 z size bytes ht hi0 hz0 hz1 hz2 hzs hsz v n xs hown a m c news hl hc h1 (by unfold maxLen; omega) hbytes hbase
  exact ⟨v', w', h1, h2, (Fr.refl _ _).grown h3 (fun k hk _ => hk), h5⟩

/-- the same as a step of the walk -/
theorem append_at {P : Program} {ops : Array Oper} {rest : List Oper} {o : Oper} {ac : Act} {Q : Exit → Act → World → Prop} {w : World} (hgd : o.guard = none) (s x : Operand) (t : TypeId)
    (ho : o.op = .call { callee := .builtin .append, args := #[s, x], argTypes := #[t, t] })
    (base : Nat) (e : TypeId) (z : Value) (size bytes : Nat) (ht : P.underlying t = some (.slice e))
    (hinfo : (P.info? e).map (fun i => (i.zero, i.size, i.bytes)) = some (some z, size, bytes)) (hzs : z.cells.size = size) (hsz : 0 < size)
    (v : Value) (n : Nat) (xs : List Value) (hs : ac.eval s = v) (hown : w.ownsRow base e size v n xs)
    (a : Addr) (m c : Nat) (hx : ac.eval x = .slice (some a) m c) (news : List Value) (hl : news.length = m * size) (hc : ∀ j u, news[j]? = some u → w.cell? (a.add j) = some u) (h1 : ∀ u ∈ news, u.oneCell' = true)
    (hbytes : (n + m) * bytes ≤ 140737488355328) (hn : n + m ≤ 140737488355328) (hbase : base ≤ w.heap.size)
    (h : ∀ v' w', w'.ownsRow base e size v' (n + m) (xs ++ news) → Fr (fun b => v.ownBlock = some b) w w' → (v'.ownBlock = v.ownBlock ∨ v'.ownBlock = some w.heap.size) → wpList P ops Q rest (ac.put o.dst v') w') :
    wpList P ops Q (o :: rest) ac w := by
  obtain ⟨v', w', hrun, h2, h3, h4⟩ := run_append_at (P := P) (w := w) t o.type base e z size bytes ht hinfo hzs hsz v n xs hown a m c news hl hc h1 hbytes hn hbase
  refine wpList_plain hgd fun K hK => ?_
  unfold Oper.wp execOp
  simp only [ho, resolve, invoke, builtin, Sem.run_bind, Sem.run_pure, Result.andThen_ok, List.map_toArray, List.map_cons, List.map_nil, hs, hx, hrun]
  exact hK _ _ (h v' w' h2 h3 h4)

theorem nums_oneCell (k : IntKind) (l : List Int) : ∀ u ∈ l.map (Value.int k), u.oneCell' = true := by
  intro u hu
  obtain ⟨x, _, rfl⟩ := List.mem_map.1 hu
  rfl

/-- a region that draws its order: n operations that only read, then the rest in order; the world behind the draw under a name of its own -/
theorem region_tail {P : Program} {id : Nat} {Q : Exit → Act → World → Prop} {a : Act} {w : World} {l : List Oper} (n : Nat) (hm : P.follows .mixedOrders = true) (hB : Region.lexTailB .any l.toArray n = true)
    (h : ∀ W : World, W = w.drew → wpStill P l.toArray W (fun a' => wpList P l.toArray Q (l.drop n) a' W) (l.take n) a) : (Code.region id l.toArray true).wp P Q a w :=
  wp_region_still_tail n hm hB (h _ rfl)

theorem drew_cell (w : World) (p : Addr) : w.drew.cell? p = w.cell? p := rfl
theorem drew_frozen (w : World) (p : Addr) : w.drew.frozen? p = w.frozen? p := rfl

/-- the append as a step of a region that draws its order -/
theorem step_append_at {P : Program} {ops : Array Oper} {o : Oper} {ac : Act} {K : Act → World → Prop} {Q : Exit → Act → World → Prop} {E : Prop} {w : World} (hgd : o.guard = none) (s x : Operand) (t : TypeId)
    (ho : o.op = .call { callee := .builtin .append, args := #[s, x], argTypes := #[t, t] })
    (base : Nat) (e : TypeId) (z : Value) (size bytes : Nat) (ht : P.underlying t = some (.slice e))
    (hinfo : (P.info? e).map (fun i => (i.zero, i.size, i.bytes)) = some (some z, size, bytes)) (hzs : z.cells.size = size) (hsz : 0 < size)
    (v : Value) (n : Nat) (xs : List Value) (hs : ac.eval s = v) (hown : w.ownsRow base e size v n xs)
    (a : Addr) (m c : Nat) (hx : ac.eval x = .slice (some a) m c) (news : List Value) (hl : news.length = m * size) (hc : ∀ j u, news[j]? = some u → w.cell? (a.add j) = some u) (h1 : ∀ u ∈ news, u.oneCell' = true)
    (hbytes : (n + m) * bytes ≤ 140737488355328) (hn : n + m ≤ 140737488355328) (hbase : base ≤ w.heap.size)
    (h : ∀ v' w', w'.ownsRow base e size v' (n + m) (xs ++ news) → Fr (fun b => v.ownBlock = some b) w w' → (v'.ownBlock = v.ownBlock ∨ v'.ownBlock = some w.heap.size) → K (ac.put o.dst v') w') :
    if Region.wanted o (yielded ops ac.tmps) = true then Oper.wp P o ac w K Q else E := by
  have hw : Region.wanted o (yielded ops ac.tmps) = true := by simp [Region.wanted, hgd]
  rw [if_pos hw]
  obtain ⟨v', w', hrun, h2, h3, h4⟩ := run_append_at (P := P) (w := w) t o.type base e z size bytes ht hinfo hzs hsz v n xs hown a m c news hl hc h1 hbytes hn hbase
  unfold Oper.wp execOp
  simp only [ho, resolve, invoke, builtin, Sem.run_bind, Sem.run_pure, Result.andThen_ok, List.map_toArray, List.map_cons, List.map_nil, hs, hx, hrun]
  exact h v' w' h2 h3 h4

/-- many cells stored into the block that was laid last -/
theorem setCells_alloc (e : TypeId) : ∀ (vs : List Value) (o : Nat) (w : World) (cs : Array Value), o + vs.length ≤ cs.size → (w.alloc (.cells cs e)).setCells w.heap.size o vs = w.alloc (.cells (splice cs.toList o vs).toArray e)
  | [], o, w, cs, _ => by simp [World.setCells, splice]
  | v :: vs, o, w, cs, h => by
    rw [World.setCells, World.setCell_alloc_at _ _ _ _ _ rfl, setCells_alloc e vs (o + 1) w _ (by simp at h ⊢; omega)]
    congr 2
    rw [Array.toList_setIfInBounds, splice_cons _ _ _ _ (by simpa using h)]

theorem foldl_set (cs : List Value) : ∀ (k : Nat) (acc : Array Value), k + cs.length = acc.size →
    ((cs.zipIdx k).foldl (fun (a : Array Value) (x : Value × Nat) => a.setIfInBounds (0 + x.2) x.1) acc).toList = acc.toList.take k ++ cs := by
  induction cs with
  | nil => intro k acc h; simp only [List.zipIdx_nil, List.foldl_nil, List.append_nil]; rw [List.take_of_length_le (by simp at h ⊢; omega)]
  | cons c cs ih =>
    intro k acc h
    simp only [List.zipIdx_cons, List.foldl_cons, Nat.zero_add]
    have := ih (k + 1) (acc.setIfInBounds k c) (by simp at h ⊢; omega)
    simp only [Nat.zero_add] at this
    rw [this, Array.toList_setIfInBounds, List.take_succ_eq_append_getElem (by simp at h ⊢; omega)]
    simp [List.take_set_of_le]

/-- one element of many cells, put into a new slice -/
theorem run_buildSlice_one {P : Program} (w : World) (t e : TypeId) (cs : Array Value) (z : Value) (bytes : Nat) (hu : P.underlying t = some (.slice e))
    (hinfo : (P.info? e).map (fun i => (i.zero, i.size, i.bytes)) = some (some z, cs.size, bytes)) (hpos : 0 < cs.size) (hsmall : cs.size ≤ 1000) :
    (Instr.buildSlice t 1 #[(0, .agg cs)]).run P w = .ok (.slice (some ⟨w.heap.size, 0, none⟩) 1 1) (w.alloc (.cells cs e)) := by
  obtain ⟨i0, hi0, hz0, hz1, hz2⟩ := info_parts hinfo
  refine run_buildSlice w t e 1 _ cs i0 z hu hi0 hz0 (by rw [hz1]; omega) (by rw [hz1]; omega) ?_
  simp only [Instr.fill, Value.cells, hz1, Nat.zero_mul, Nat.one_mul]
  rw [if_neg (by simp)]
  congr 1
  apply Array.toList_inj.1
  have := foldl_set cs.toList 0 ((Array.range cs.size).map (z.cells[· % z.cells.size]!)) (by simp)
  simp only [List.take_zero, List.nil_append] at this
  rw [← this, ← Array.foldl_toList]
  simp
  rfl

/-! Steps of the walk whose run is given by an equation: the operation is named, so that no other one is met. -/
section
variable {P : Program} {ops : Array Oper} {rest : List Oper} {o : Oper} {ac : Act} {Q : Exit → Act → World → Prop} {w w' : World} {v : Value}
theorem at_build1 (hgd : o.guard = none) (t : TypeId) (k : Nat) (x : Operand) (u : Value) (ho : o.op = .build t #[(k, x)]) (hx : ac.eval x = u)
    (hrun : (Instr.build t #[(k, u)]).run P w = .ok v w') (h : wpList P ops Q rest (ac.put o.dst v) w') : wpList P ops Q (o :: rest) ac w := by
  refine wpList_plain hgd fun K hK => ?_
  unfold Oper.wp execOp
  simp only [ho, hx, List.map_toArray, List.map_cons, List.map_nil, Sem.run_bind, Sem.run_pure, Result.andThen_ok, hrun]
  exact hK _ _ h
theorem at_buildSlice1 (hgd : o.guard = none) (t : TypeId) (len k : Nat) (x : Operand) (u : Value) (ho : o.op = .buildSlice t len #[(k, x)]) (hx : ac.eval x = u)
    (hrun : (Instr.buildSlice t len #[(k, u)]).run P w = .ok v w') (h : wpList P ops Q rest (ac.put o.dst v) w') : wpList P ops Q (o :: rest) ac w := by
  refine wpList_plain hgd fun K hK => ?_
  unfold Oper.wp execOp
  simp only [ho, hx, List.map_toArray, List.map_cons, List.map_nil, Sem.run_bind, Sem.run_pure, Result.andThen_ok, hrun]
  exact hK _ _ h
theorem at_alloc (hgd : o.guard = none) (t : TypeId) (ho : o.op = .alloc t)
    (hrun : (Instr.alloc t true (.tuple #[])).run P w = .ok v w') (h : wpList P ops Q rest (ac.put o.dst v) w') : wpList P ops Q (o :: rest) ac w := by
  refine wpList_plain hgd fun K hK => ?_
  unfold Oper.wp execOp
  simp only [ho, Sem.run_bind, Sem.run_pure, Result.andThen_ok, hrun]
  exact hK _ _ h
theorem at_box (hgd : o.guard = none) (t : TypeId) (x : Operand) (u : Value) (ho : o.op = .box t x) (hx : ac.eval x = u)
    (hrun : (Instr.box t u).run P w = .ok v w') (h : wpList P ops Q rest (ac.put o.dst v) w') : wpList P ops Q (o :: rest) ac w := by
  refine wpList_plain hgd fun K hK => ?_
  unfold Oper.wp execOp
  simp only [ho, hx, Sem.run_bind, Sem.run_pure, Result.andThen_ok, hrun]
  exact hK _ _ h
theorem at_store (hgd : o.guard = none) (t : TypeId) (x y : Operand) (p u : Value) (ho : o.op = .store t x y) (hx : ac.eval x = p) (hy : ac.eval y = u)
    (hrun : (Instr.storeAt t p u).run P w = .ok () w') (h : wpList P ops Q rest (ac.put o.dst undef) w') : wpList P ops Q (o :: rest) ac w := by
  refine wpList_plain hgd fun K hK => ?_
  unfold Oper.wp execOp
  simp only [ho, hx, hy, Sem.run_bind, Sem.run_pure, Result.andThen_ok, hrun]
  exact hK _ _ h
theorem at_load (hgd : o.guard = none) (t : TypeId) (x : Operand) (p : Value) (ho : o.op = .load t x) (hx : ac.eval x = p)
    (hrun : (Instr.loadAt t p).run P w = .ok v w') (h : wpList P ops Q rest (ac.put o.dst v) w') : wpList P ops Q (o :: rest) ac w := by
  refine wpList_plain hgd fun K hK => ?_
  unfold Oper.wp execOp
  simp only [ho, hx, Sem.run_bind, Sem.run_pure, Result.andThen_ok, hrun]
  exact hK _ _ h
theorem at_copy (hgd : o.guard = none) (x y : Operand) (tx ty : TypeId) (p u : Value) (ho : o.op = .call { callee := .builtin .copy, args := #[x, y], argTypes := #[tx, ty] }) (hx : ac.eval x = p) (hy : ac.eval y = u)
    (hrun : (Builtin.copy_ #[tx, ty] o.type #[p, u]).run P w = .ok v w') (h : wpList P ops Q rest (ac.put o.dst v) w') : wpList P ops Q (o :: rest) ac w := by
  refine wpList_plain hgd fun K hK => ?_
  unfold Oper.wp execOp
  simp only [ho, hx, hy, resolve, invoke, builtin, Sem.run_bind, Sem.run_pure, Result.andThen_ok, List.map_toArray, List.map_cons, List.map_nil, hrun]
  exact hK _ _ h
end

/-- a load among the operations that only read, its run given -/
theorem still_load {P : Program} {ops : Array Oper} {rest : List Oper} {o : Oper} {ac : Act} {Q : Act → Prop} {w : World} {v : Value} (hgd : o.guard = none) (t : TypeId) (x : Operand) (p : Value) (ho : o.op = .load t x) (hx : ac.eval x = p)
    (hrun : (Instr.loadAt t p).run P w = .ok v w) (h : wpStill P ops w Q rest (ac.put o.dst v)) : wpStill P ops w Q (o :: rest) ac := by
  unfold wpStill
  rw [if_pos (by simp [Region.wanted, hgd])]
  unfold Oper.still execOp
  simp only [ho, hx, Sem.run_bind, Sem.run_pure, Result.andThen_ok, hrun]
  exact ⟨rfl, h⟩

/-- copy of one's bytes into a row that one knows -/
theorem copy_run {P : Program} {w : World} (dT sT ty e : TypeId) (b o dl dc : Nat) (A : Option Addr) (n c : Nat) (cs : List Value) (Q : Nat → Prop)
    (hu : P.underlying dT = some (.slice e)) (hs : (P.info? e).map (·.size) = some 1) (hr : Sl w Q 1 A n cs) (hn : n ≤ dl) (ht : w.there b o n) (h1 : ∀ v ∈ cs, v.oneCell' = true) :
    (Builtin.copy_ #[dT, sT] ty #[.slice (some ⟨b, o, none⟩) dl dc, .slice A n c]).run P w = .ok (goInt n) (w.setCells b o cs) := by
  have hl : cs.length = n := by simpa using hr.1
  rcases Nat.eq_zero_or_pos n with h0 | h0
  · subst h0
    obtain rfl := List.eq_nil_of_length_eq_zero hl
    rw [run_copy_none w dT sT ty e _ _ dl dc 0 c hu hs (by simp)]
    rfl
  · obtain ⟨ad, rfl, _, _, hc⟩ := hr.2 h0
    have hmin : Nat.min n dl = n := Nat.min_eq_left hn
    have := run_copy_cells (P := P) w dT sT ty e b o dl dc ad n c cs hu hs (by rw [hmin, hl]) hc (fun j hj => (ht j (by omega)).1) (fun j hj => (ht j (by omega)).2) h1
    rw [this, hl]

end Go.Proofs.Ytbgknfdaaffeaaa
