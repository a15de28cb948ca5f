/- What is known of the memory at a point of a walk: resources that lie apart from each other, and facts that stay whatever is done. -/
import Derived.Test.YtbgknfdaaffeaaaWords
namespace Go.Proofs.Ytbgknfdaaffeaaa
open Go.RowKit

/-- what stays as it is from here on -/
structure Imm where
  os : Os
  tape : Nat → Question → Nat
  output : Array (Nat × ByteArray)
  heap : Nat → Option Obj
def Imm.of (w : World) : Imm := ⟨w.os, w.tape, w.output, fun b => w.heap[b]?⟩
structure Agree (w : World) (M : Imm) : Prop where
  os : w.os = M.os
  tape : w.tape = M.tape
  output : w.output = M.output
  heap : ∀ b o, M.heap b = some o → w.heap[b]? = some o
structure Imm.le (M M' : Imm) : Prop where
  os : M'.os = M.os
  tape : M'.tape = M.tape
  output : M'.output = M.output
  heap : ∀ b o, M.heap b = some o → M'.heap b = some o

theorem Imm.le.refl (M : Imm) : M.le M := ⟨rfl, rfl, rfl, fun _ _ h => h⟩
theorem Imm.le.trans {A B C : Imm} (h : A.le B) (k : B.le C) : A.le C := ⟨k.os.trans h.os, k.tape.trans h.tape, k.output.trans h.output, fun b o x => k.heap b o (h.heap b o x)⟩
theorem Agree.le {w : World} {M M' : Imm} (h : Agree w M') (k : M.le M') : Agree w M := ⟨h.os.trans k.os, h.tape.trans k.tape, h.output.trans k.output, fun b o x => h.heap b o (k.heap b o x)⟩
theorem Agree.self (w : World) : Agree w (Imm.of w) := ⟨rfl, rfl, rfl, fun _ _ h => h⟩
theorem Agree.fr {w w' : World} {M : Imm} {S : Nat → Prop} (h : Agree w M) (hf : Fr S w w') (hs : ∀ b, S b → M.heap b = none) : Agree w' M :=
  ⟨hf.os.trans h.os, hf.tape.trans h.tape, hf.output.trans h.output, fun b o hb => by
    have h1 := h.heap b o hb
    have hlt : b < w.heap.size := (Array.getElem?_eq_some_iff.1 h1).1
    exact (hf.block b hlt (fun hs' => by rw [hs b hs'] at hb; cases hb)).trans h1⟩
theorem Agree.non {w w' : World} (h : Agree w' (Imm.of w)) : Fr Non w w' := by
  have hb : ∀ b, b < w.heap.size → w'.heap[b]? = w.heap[b]? := fun b hb => (h.heap b _ (Array.getElem?_eq_getElem hb)).trans (Array.getElem?_eq_getElem hb).symm
  refine ⟨h.os, h.tape, h.output, ?_, fun b hlt _ => hb b hlt⟩
  rcases Nat.eq_zero_or_pos w.heap.size with h0 | h0
  · omega
  · have h1 := hb (w.heap.size - 1) (by omega)
    rw [Array.getElem?_eq_getElem (show w.heap.size - 1 < w.heap.size by omega)] at h1
    have := (Array.getElem?_eq_some_iff.1 h1).1
    omega

/-- a thing that lies in memory, in blocks F that are its own -/
structure Res where
  holds : Imm → World → (Nat → Prop) → Prop
  lt : ∀ {M w F b}, holds M w F → F b → b < w.heap.size
  loc : ∀ {M M' w w' F}, holds M w F → Agree w' M' → M.le M' → (∀ b, F b → w'.heap[b]? = w.heap[b]?) → holds M' w' F

structure StAt (M : Imm) (w : World) (L : List Res) (Fs : Nat → Nat → Prop) : Prop where
  at_ : ∀ (i : Nat) (X : Res), L[i]? = some X → X.holds M w (Fs i)
  apart : ∀ i j b, i ≠ j → i < L.length → j < L.length → Fs i b → ¬ Fs j b
  off : ∀ i b, i < L.length → Fs i b → M.heap b = none
def St (M0 : Imm) (w : World) (L : List Res) : Prop := ∃ M Fs, M0.le M ∧ Agree w M ∧ StAt M w L Fs

def shift (F : Nat → Prop) (Fs : Nat → Nat → Prop) : Nat → Nat → Prop
  | 0 => F
  | i + 1 => Fs i

/-- what another world leaves of all -/
theorem StAt.keep {M M' : Imm} {w w' : World} {L : List Res} {Fs : Nat → Nat → Prop} (h : StAt M w L Fs) (ha : Agree w' M') (hm : M.le M') (hb : ∀ i b, i < L.length → Fs i b → w'.heap[b]? = w.heap[b]?) (hn : ∀ i b, i < L.length → Fs i b → M'.heap b = none) : StAt M' w' L Fs :=
  ⟨fun i X hi => X.loc (h.at_ i X hi) ha hm (hb i · (List.getElem?_eq_some_iff.1 hi).1), h.apart, hn⟩
theorem StAt.cons {M : Imm} {w : World} {L : List Res} {Fs : Nat → Nat → Prop} {X : Res} {F : Nat → Prop} (h : StAt M w L Fs) (hx : X.holds M w F) (hd : ∀ i b, i < L.length → Fs i b → ¬ F b) (hm : ∀ b, F b → M.heap b = none) : StAt M w (X :: L) (shift F Fs) := by
  refine ⟨?_, ?_, ?_⟩
  · intro i Y hi
    cases i with
    | zero => obtain rfl : X = Y := by simpa using hi
              exact hx
    | succ i => exact h.at_ i Y (by simpa using hi)
  · intro i j b hij hi hj h1 h2
    cases i with
    | zero =>
      cases j with
      | zero => exact hij rfl
      | succ j => exact hd j b (by simpa using hj) h2 h1
    | succ i =>
      cases j with
      | zero => exact hd i b (by simpa using hi) h1 h2
      | succ j => exact h.apart i j b (by omega) (by simpa using hi) (by simpa using hj) h1 h2
  · intro i b hi h1
    cases i with
    | zero => exact hm b h1
    | succ i => exact h.off i b (by simpa using hi) h1
theorem StAt.tail {M : Imm} {w : World} {L : List Res} {Fs : Nat → Nat → Prop} {X : Res} (h : StAt M w (X :: L) Fs) : StAt M w L (fun i => Fs (i + 1)) :=
  ⟨fun i Y hi => h.at_ (i + 1) Y (by simpa using hi), fun i j b hij hi hj => h.apart (i + 1) (j + 1) b (by omega) (by simpa using hi) (by simpa using hj), fun i b hi => h.off (i + 1) b (by simpa using hi)⟩

section
variable {M0 : Imm} {w w' : World} {L : List Res} {X Y Z : Res}

theorem St.init (w : World) : St (Imm.of w) w [] := ⟨Imm.of w, fun _ _ => False, Imm.le.refl _, Agree.self w, fun i X h => by simp at h, fun _ _ _ _ h => by simp at h, fun _ _ h => by simp at h⟩
theorem St.done {w0 : World} (h : St (Imm.of w0) w L) : Fr Non w0 w := by
  obtain ⟨M, Fs, h0, ha, _⟩ := h
  exact (ha.le h0).non
/-- what has been made since belongs to nobody -/
theorem St.grow (h : St M0 w L) (hf : Fr Non w w') : St M0 w' L := by
  obtain ⟨M, Fs, h0, ha, hs⟩ := h
  refine ⟨M, Fs, h0, ha.fr hf (fun _ x => x.elim), hs.keep (ha.fr hf (fun _ x => x.elim)) (Imm.le.refl _) ?_ hs.off⟩
  intro i b hi hb
  exact hf.block b ((L[i]).lt (hs.at_ i _ (List.getElem?_eq_getElem hi)) hb) (fun x => x)
theorem St.drew (h : St M0 w L) : St M0 w.drew L := h.grow (Fr.refl _ _).drew
theorem St.drewN (h : St M0 w L) (n : Nat) : St M0 (w.drewN n) L := h.grow ((Fr.refl _ _).drewN n)
theorem St.junk (h : St M0 w L) (o : Obj) : St M0 (w.alloc o) L := h.grow ((Fr.refl _ _).alloc o)
theorem St.pickAll (h : St M0 w L) (is : List Nat) {L' : List Res} (hd : is.Nodup) (hl : is.map (L[·]?) = L'.map some) : St M0 w L' := by
  obtain ⟨M, Fs, h0, ha, hs⟩ := h
  have hlen : is.length = L'.length := by simpa using congrArg List.length hl
  have hat : ∀ (k : Nat) (hk : k < is.length), L[is[k]]? = some (L'[k]'(by omega)) := by
    intro k hk
    have := congrArg (·[k]?) hl
    simpa [List.getElem?_eq_getElem hk, List.getElem?_eq_getElem (show k < L'.length by omega)] using this
  have hin : ∀ (k : Nat) (hk : k < is.length), is[k] < L.length := fun k hk => (List.getElem?_eq_some_iff.1 (hat k hk)).1
  refine ⟨M, fun k => Fs (is.getD k 0), h0, ha, ?_, ?_, ?_⟩
  · intro k X hk
    have hlt := (List.getElem?_eq_some_iff.1 hk).1
    obtain rfl : L'[k] = X := by simpa [List.getElem?_eq_getElem hlt] using hk
    simp only [List.getD_eq_getElem?_getD, List.getElem?_eq_getElem (show k < is.length by omega), Option.getD_some]
    exact hs.at_ _ _ (hat k (by omega))
  · intro i j b hij hi hj
    simp only [List.getD_eq_getElem?_getD, List.getElem?_eq_getElem (show i < is.length by omega), List.getElem?_eq_getElem (show j < is.length by omega), Option.getD_some]
    exact hs.apart _ _ b (fun e => (Nat.lt_or_gt_of_ne hij).elim (fun h1 => List.pairwise_iff_getElem.1 hd i j (by omega) (by omega) h1 e) (fun h1 => List.pairwise_iff_getElem.1 hd j i (by omega) (by omega) h1 e.symm)) (hin i (by omega)) (hin j (by omega))
  · intro i b hi
    simp only [List.getD_eq_getElem?_getD, List.getElem?_eq_getElem (show i < is.length by omega), Option.getD_some]
    exact hs.off _ b (hin i (by omega))
/-- of the first n resources those of these numbers alone, in this order; and all others -/
theorem St.pick (h : St M0 w L) (n : Nat) (is : List Nat) {L' : List Res} (hd : (is.all (· < n) && decide is.Nodup) = true := by rfl) (hl : is.map (L[·]?) ++ (L.drop n).map some = L'.map some := by rfl) : St M0 w L' := by
  simp only [Bool.and_eq_true, List.all_eq_true, decide_eq_true_eq] at hd
  refine h.pickAll (is ++ (List.range (L.length - n)).map (n + ·)) ?_ ?_
  · rw [List.nodup_append]
    refine ⟨hd.2, ?_, ?_⟩
    · exact List.Pairwise.map _ (fun a b hab e => hab (by omega)) List.nodup_range
    · intro a ha b hb e
      obtain ⟨c, _, rfl⟩ := List.mem_map.1 hb
      have := hd.1 a ha
      omega
  · rw [List.map_append, ← hl]
    congr 1
    apply List.ext_getElem?
    intro i
    by_cases hi : i < L.length - n
    · simp [List.getElem?_range hi, List.getElem?_drop, List.getElem?_eq_getElem (show n + i < L.length by omega)]
    · rw [List.getElem?_eq_none (by simp; omega), List.getElem?_eq_none (by simp; omega)]
theorem St.tail (h : St M0 w (X :: L)) : St M0 w L := by
  obtain ⟨M, Fs, h0, ha, hs⟩ := h
  exact ⟨M, _, h0, ha, hs.tail⟩
theorem St.swap (h : St M0 w (X :: Y :: L)) : St M0 w (Y :: X :: L) := by
  obtain ⟨M, Fs, h0, ha, hs⟩ := h
  have h1 := hs.tail
  refine ⟨M, _, h0, ha, (h1.tail.cons (hs.at_ 0 X rfl) ?_ (fun b => hs.off 0 b (by simp))).cons (hs.at_ 1 Y rfl) ?_ (fun b => hs.off 1 b (by simp))⟩
  · intro i b hi hb
    exact hs.apart (i + 2) 0 b (by omega) (by simpa using hi) (by simp) hb
  · intro i b hi hb
    cases i with
    | zero => exact hs.apart 0 1 b (by omega) (by simp) (by simp) hb
    | succ i => exact hs.apart (i + 2) 1 b (by omega) (by simpa using hi) (by simp) hb
/-- the first one goes on -/
theorem St.head (h : St M0 w (X :: L)) : ∃ M F, M0.le M ∧ Agree w M ∧ X.holds M w F ∧ (∀ b, F b → M.heap b = none) ∧
    ∀ (w' : World) (Y : Res) (F' : Nat → Prop), Fr F w w' → (Agree w' M → Y.holds M w' F') → (∀ b, F' b → F b ∨ w.heap.size ≤ b) → St M0 w' (Y :: L) := by
  obtain ⟨M, Fs, h0, ha, hs⟩ := h
  refine ⟨M, Fs 0, h0, ha, hs.at_ 0 X rfl, fun b => hs.off 0 b (by simp), fun w' Y F' hf hy hF => ?_⟩
  have ha' : Agree w' M := ha.fr hf (fun b hb => hs.off 0 b (by simp) hb)
  have hlt : ∀ i b, i < L.length → Fs (i + 1) b → b < w.heap.size := fun i b hi hb => (L[i]).lt (hs.at_ (i + 1) _ (by simp [List.getElem?_eq_getElem hi])) hb
  have ht : StAt M w' L (fun i => Fs (i + 1)) := hs.tail.keep ha' (Imm.le.refl _) (fun i b hi hb => hf.block b (hlt i b hi hb) (hs.apart (i + 1) 0 b (by omega) (by simpa using hi) (by simp) hb)) (fun i b hi => hs.off (i + 1) b (by simpa using hi))
  refine ⟨M, _, h0, ha', ht.cons (hy ha') ?_ ?_⟩
  · intro i b hi hb h1
    rcases hF b h1 with h2 | h2
    · exact hs.apart (i + 1) 0 b (by omega) (by simpa using hi) (by simp) hb h2
    · have := hlt i b hi hb; omega
  · intro b hb
    rcases hF b hb with h2 | h2
    · exact hs.off 0 b (by simp) h2
    · cases hM : M.heap b with
      | none => rfl
      | some o => have := (Array.getElem?_eq_some_iff.1 (ha.heap b o hM)).1; omega
/-- something new -/
theorem St.add (h : St M0 w L) {F' : Nat → Prop} (hf : Fr Non w w') (hy : ∀ M, Agree w' M → Y.holds M w' F') (hF : ∀ b, F' b → w.heap.size ≤ b) : St M0 w' (Y :: L) := by
  obtain ⟨M, Fs, h0, ha, hs⟩ := h
  have ha' : Agree w' M := ha.fr hf (fun b hb => hb.elim)
  have hlt : ∀ i b, i < L.length → Fs i b → b < w.heap.size := fun i b hi hb => (L[i]).lt (hs.at_ i _ (List.getElem?_eq_getElem hi)) hb
  refine ⟨M, _, h0, ha', (hs.keep ha' (Imm.le.refl _) (fun i b hi hb => hf.block b (hlt i b hi hb) (fun x => x)) hs.off).cons (hy M ha') ?_ ?_⟩
  · intro i b hi hb h1
    have := hlt i b hi hb
    have := hF b h1
    omega
  · intro b hb
    cases hM : M.heap b with
    | none => rfl
    | some o => have := (Array.getElem?_eq_some_iff.1 (ha.heap b o hM)).1; have := hF b hb; omega

/-! ### the resources -/
/-- a fact that stays -/
def persR (R : World → Prop) : Res where
  holds M _ F := (∀ b, ¬ F b) ∧ ∀ w', Agree w' M → R w'
  lt h hb := (h.1 _ hb).elim
  loc h _ hm _ := ⟨h.1, fun w'' ha => h.2 w'' (ha.le hm)⟩
/-- a fact that has nothing to do with memory -/
def pureR (p : Prop) : Res where
  holds _ _ F := (∀ b, ¬ F b) ∧ p
  lt h hb := (h.1 _ hb).elim
  loc h _ _ _ := h
/-- a block -/
def blkR (g : Nat) (t : TypeId) (cs : Array Value) : Res where
  holds _ w F := (∀ b, F b ↔ b = g) ∧ Blk w g t cs
  lt h hb := by rw [(h.1 _).1 hb]; exact h.2.lt
  loc h _ _ hb := ⟨h.1, (hb _ ((h.1 _).2 rfl)).trans h.2⟩
/-- a slice that owns its row -/
def rowR (e : TypeId) (size : Nat) (v : Value) (n : Nat) (xs : List Value) : Res where
  holds _ w F := (∀ b, F b ↔ v.ownBlock = some b) ∧ w.ownsRow 0 e size v n xs
  lt h hb := (h.2.lt _ ((h.1 _).1 hb)).2
  loc h _ _ hb := by
    refine ⟨h.1, h.2.1, ?_⟩
    rcases h.2.2 with h2 | ⟨g, cap, cur, rfl, hg, hh, r⟩
    · exact .inl h2
    · exact .inr ⟨g, cap, cur, rfl, hg, (hb g ((h.1 g).2 rfl)).trans hh, r⟩
/-- one and the other, apart -/
def starR (X Y : Res) : Res where
  holds M w F := ∃ A B : Nat → Prop, X.holds M w A ∧ Y.holds M w B ∧ (∀ b, A b → ¬ B b) ∧ ∀ b, F b ↔ A b ∨ B b
  lt h hb := by
    obtain ⟨A, B, hx, hy, _, hF⟩ := h
    rcases (hF _).1 hb with h1 | h1
    · exact X.lt hx h1
    · exact Y.lt hy h1
  loc h ha hm hb := by
    obtain ⟨A, B, hx, hy, hd, hF⟩ := h
    exact ⟨A, B, X.loc hx ha hm (fun b h1 => hb b ((hF b).2 (.inl h1))), Y.loc hy ha hm (fun b h1 => hb b ((hF b).2 (.inr h1))), hd, hF⟩
/-- one of these -/
def exR {α : Type} (f : α → Res) : Res where
  holds M w F := ∃ a, (f a).holds M w F
  lt h hb := by obtain ⟨a, h⟩ := h; exact (f a).lt h hb
  loc h ha hm hb := by obtain ⟨a, h⟩ := h; exact ⟨a, (f a).loc h ha hm hb⟩

theorem St.fact (h : St M0 w L) (i : Nat) (hi : L[i]? = some X) : ∃ M F, X.holds M w F ∧ Agree w M := by
  obtain ⟨M, Fs, h0, ha, hs⟩ := h
  exact ⟨M, _, hs.at_ i X hi, ha⟩
theorem St.get {R : World → Prop} (h : St M0 w L) (i : Nat) (hi : L[i]? = some (persR R)) : R w := by
  obtain ⟨M, F, hx, ha⟩ := h.fact i hi
  exact hx.2 w ha
theorem St.blk {g : Nat} {t : TypeId} {cs : Array Value} (h : St M0 w L) (i : Nat) (hi : L[i]? = some (blkR g t cs)) : Blk w g t cs := by
  obtain ⟨M, F, hx, ha⟩ := h.fact i hi
  exact hx.2
theorem St.row {e : TypeId} {size : Nat} {v : Value} {n : Nat} {xs : List Value} (h : St M0 w L) (i : Nat) (hi : L[i]? = some (rowR e size v n xs)) : w.ownsRow 0 e size v n xs := by
  obtain ⟨M, F, hx, ha⟩ := h.fact i hi
  exact hx.2
theorem St.pure_ {p : Prop} (h : St M0 w (pureR p :: L)) : p ∧ St M0 w L := by
  obtain ⟨M, F, hx, ha⟩ := h.fact 0 rfl
  exact ⟨hx.2, h.tail⟩
theorem St.addP {p : Prop} (h : St M0 w L) (hp : p) : St M0 w (pureR p :: L) :=
  h.add (F' := fun _ => False) (Fr.refl _ _) (fun _ _ => ⟨fun _ x => x, hp⟩) (fun _ x => x.elim)
theorem St.ex {α : Type} {f : α → Res} (h : St M0 w (exR f :: L)) : ∃ a, St M0 w (f a :: L) := by
  obtain ⟨M, Fs, h0, ha, hs⟩ := h
  obtain ⟨a, hx⟩ := hs.at_ 0 _ rfl
  refine ⟨a, M, Fs, h0, ha, ?_, hs.apart, hs.off⟩
  intro i Y hi
  cases i with
  | zero => obtain rfl : f a = Y := by simpa using hi
            exact hx
  | succ i => exact hs.at_ (i + 1) Y (by simpa using hi)
theorem St.addEx {α : Type} {f : α → Res} (a : α) (h : St M0 w (f a :: L)) : St M0 w (exR f :: L) := by
  obtain ⟨M, Fs, h0, ha, hs⟩ := h
  refine ⟨M, Fs, h0, ha, ?_, hs.apart, hs.off⟩
  intro i Y hi
  cases i with
  | zero => obtain rfl : exR f = Y := by simpa using hi
            exact ⟨a, hs.at_ 0 _ rfl⟩
  | succ i => exact hs.at_ (i + 1) Y (by simpa using hi)
theorem St.star (h : St M0 w (starR X Y :: L)) : St M0 w (X :: Y :: L) := by
  obtain ⟨M, Fs, h0, ha, hs⟩ := h
  obtain ⟨A, B, hx, hy, hd, hF⟩ := hs.at_ 0 _ rfl
  refine ⟨M, _, h0, ha, (hs.tail.cons hy ?_ (fun b hb => hs.off 0 b (by simp) ((hF b).2 (.inr hb)))).cons hx ?_ (fun b hb => hs.off 0 b (by simp) ((hF b).2 (.inl hb)))⟩
  · intro i b hi hb h1
    exact hs.apart (i + 1) 0 b (by omega) (by simpa using hi) (by simp) hb ((hF b).2 (.inr h1))
  · intro i b hi hb h1
    cases i with
    | zero => exact hd b h1 hb
    | succ i => exact hs.apart (i + 1) 0 b (by omega) (by simpa using hi) (by simp) hb ((hF b).2 (.inl h1))
theorem St.addStar (h : St M0 w (X :: Y :: L)) : St M0 w (starR X Y :: L) := by
  obtain ⟨M, Fs, h0, ha, hs⟩ := h
  refine ⟨M, _, h0, ha, hs.tail.tail.cons (F := fun b => Fs 0 b ∨ Fs 1 b) ⟨Fs 0, Fs 1, hs.at_ 0 X rfl, hs.at_ 1 Y rfl, fun b => hs.apart 0 1 b (by omega) (by simp) (by simp), fun b => Iff.rfl⟩ ?_ ?_⟩
  · rintro i b hi hb (h1 | h1)
    · exact hs.apart (i + 2) 0 b (by omega) (by simpa using hi) (by simp) hb h1
    · exact hs.apart (i + 2) 1 b (by omega) (by simpa using hi) (by simp) hb h1
  · rintro b (h1 | h1)
    · exact hs.off 0 b (by simp) h1
    · exact hs.off 1 b (by simp) h1
/-- a fact on what has been there from the first -/
theorem St.pers0 {R : World → Prop} (h : St M0 w L) (hR : ∀ w', Agree w' M0 → R w') : St M0 w (persR R :: L) := by
  obtain ⟨M, Fs, h0, ha, hs⟩ := h
  exact ⟨M, _, h0, ha, hs.cons (F := fun _ => False) ⟨fun _ x => x, fun w' ha' => hR w' (ha'.le h0)⟩ (fun _ _ _ _ x => x) (fun _ x => x.elim)⟩
theorem St.persW {w0 : World} {R : World → Prop} (h : St (Imm.of w0) w L) (hR : ∀ w', Fr Non w0 w' → R w') : St (Imm.of w0) w (persR R :: L) := h.pers0 (fun w' ha => hR w' ha.non)
/-- a fact out of another one -/
theorem St.pers1 {R R' : World → Prop} (h : St M0 w (persR R :: L)) (hR : ∀ w', R w' → R' w') : St M0 w (persR R' :: L) := by
  obtain ⟨M, Fs, h0, ha, hs⟩ := h
  have hx := hs.at_ 0 _ rfl
  refine ⟨M, Fs, h0, ha, ?_, hs.apart, hs.off⟩
  intro i Y hi
  cases i with
  | zero => obtain rfl : persR R' = Y := by simpa using hi
            exact ⟨hx.1, fun w' ha' => hR w' (hx.2 w' ha')⟩
  | succ i => exact hs.at_ (i + 1) Y (by simpa using hi)
theorem St.copy {R : World → Prop} (h : St M0 w L) (i : Nat) (hi : L[i]? = some (persR R)) : St M0 w (persR R :: L) := by
  obtain ⟨M, Fs, h0, ha, hs⟩ := h
  exact ⟨M, _, h0, ha, hs.cons (F := fun _ => False) ⟨fun _ x => x, (hs.at_ i _ hi).2⟩ (fun _ _ _ _ x => x) (fun _ x => x.elim)⟩
theorem St.pers2 {R R' Q : World → Prop} (h : St M0 w (persR R :: persR R' :: L)) (hR : ∀ w', R w' → R' w' → Q w') : St M0 w (persR Q :: L) := by
  obtain ⟨M, Fs, h0, ha, hs⟩ := h
  have hx := hs.at_ 0 _ rfl
  have hy := hs.at_ 1 _ rfl
  exact ⟨M, _, h0, ha, hs.tail.tail.cons (F := fun _ => False) ⟨fun _ x => x, fun w' ha' => hR w' (hx.2 w' ha') (hy.2 w' ha')⟩ (fun _ _ _ _ x => x) (fun _ x => x.elim)⟩
/-- what is not written any more: a fact that stays -/
theorem St.freeze {R : World → Prop} (h : St M0 w (X :: L)) (hR : ∀ M w' F, X.holds M w' F → Agree w' M → R w') : St M0 w (persR R :: L) := by
  obtain ⟨M, Fs, h0, ha, hs⟩ := h
  have hx := hs.at_ 0 _ rfl
  have hlt : ∀ b, Fs 0 b → b < w.heap.size := fun b hb => X.lt hx hb
  letI : ∀ b, Decidable (Fs 0 b) := fun b => Classical.propDecidable _
  let M' : Imm := ⟨M.os, M.tape, M.output, fun b => if Fs 0 b then w.heap[b]? else M.heap b⟩
  have hm : M.le M' := ⟨rfl, rfl, rfl, fun b o hb => by
    show (if Fs 0 b then w.heap[b]? else M.heap b) = some o
    split
    · rename_i h1
      rw [hs.off 0 b (by simp) h1] at hb
      cases hb
    · exact hb⟩
  have ha' : Agree w M' := ⟨ha.os, ha.tape, ha.output, fun b o hb => by
    have hb : (if Fs 0 b then w.heap[b]? else M.heap b) = some o := hb
    split at hb
    · exact hb
    · exact ha.heap b o hb⟩
  have hoff : ∀ i b, i < L.length → Fs (i + 1) b → M'.heap b = none := fun i b hi hb => by
    show (if Fs 0 b then w.heap[b]? else M.heap b) = none
    rw [if_neg (hs.apart (i + 1) 0 b (by omega) (by simpa using hi) (by simp) hb)]
    exact hs.off (i + 1) b (by simpa using hi) hb
  refine ⟨M', _, h0.trans hm, ha', (hs.tail.keep ha' hm (fun _ _ _ _ => rfl) hoff).cons (F := fun _ => False) ⟨fun _ x => x, fun w' hw' => ?_⟩ (fun _ _ _ _ x => x) (fun _ x => x.elim)⟩
  refine hR M' w' (Fs 0) (X.loc hx hw' hm (fun b hb => ?_)) hw'
  have h1 : M'.heap b = w.heap[b]? := by
    show (if Fs 0 b then w.heap[b]? else M.heap b) = _
    rw [if_pos hb]
  rw [Array.getElem?_eq_getElem (hlt b hb)] at h1 ⊢
  exact hw'.heap b _ h1
theorem St.freezeB {g : Nat} {t : TypeId} {cs : Array Value} (h : St M0 w (blkR g t cs :: L)) : St M0 w (persR (fun w' => Blk w' g t cs) :: L) := h.freeze (fun _ _ _ hx _ => hx.2)
theorem St.freezeR {e : TypeId} {size : Nat} {v : Value} {n : Nat} {xs : List Value} (h : St M0 w (rowR e size v n xs :: L)) : St M0 w (persR (fun w' => w'.ownsRow 0 e size v n xs) :: L) := h.freeze (fun _ _ _ hx _ => hx.2)

/-! ### the steps -/
theorem St.alloc (h : St M0 w L) (t : TypeId) (cs : Array Value) : St M0 (w.alloc (.cells cs t)) (blkR w.heap.size t cs :: L) :=
  h.add (F' := (· = w.heap.size)) ((Fr.refl _ _).alloc _) (fun _ _ => ⟨fun _ => Iff.rfl, Blk.new _ _ _⟩) (fun _ hb => Nat.le_of_eq hb.symm)
theorem St.set_ {g : Nat} {t : TypeId} {cs : Array Value} (h : St M0 w (blkR g t cs :: L)) (i : Nat) (u : Value) : St M0 (w.setCell ⟨g, i, none⟩ u) (blkR g t (cs.setIfInBounds i u) :: L) := by
  obtain ⟨M, F, _, _, hx, _, hk⟩ := h.head
  exact hk _ _ F ((Fr.refl _ _).setCell (fun _ => (hx.1 _).2 rfl) u) (fun _ => ⟨hx.1, hx.2.set_ i u⟩) (fun _ hb => .inl hb)
theorem St.nilRow (h : St M0 w L) (e : TypeId) (size : Nat) : St M0 w (rowR e size (.slice none 0 0) 0 [] :: L) :=
  h.add (F' := fun _ => False) (Fr.refl _ _) (fun _ _ => ⟨fun b => ⟨fun x => x.elim, fun x => by simp [Value.ownBlock] at x⟩, World.ownsRow_nil _ _ _ _⟩) (fun _ x => x.elim)
/-- a slice made just before -/
theorem St.newRow {e : TypeId} {size : Nat} {v : Value} {n : Nat} {xs : List Value} (h : St M0 w L) (hf : Fr Non w w') (ho : w'.ownsRow 0 e size v n xs) (hv : ∀ b, v.ownBlock = some b → w.heap.size ≤ b) : St M0 w' (rowR e size v n xs :: L) :=
  h.add (F' := fun b => v.ownBlock = some b) hf (fun _ _ => ⟨fun _ => Iff.rfl, ho⟩) hv
theorem St.app {e : TypeId} {size : Nat} {v v' : Value} {n n' : Nat} {xs xs' : List Value} (h : St M0 w (rowR e size v n xs :: L)) (ho : w'.ownsRow 0 e size v' n' xs') (hf : Fr (fun b => v.ownBlock = some b) w w')
    (hb : v'.ownBlock = v.ownBlock ∨ v'.ownBlock = some w.heap.size) : St M0 w' (rowR e size v' n' xs' :: L) := by
  obtain ⟨M, F, _, _, hx, _, hk⟩ := h.head
  refine hk _ _ (fun b => v'.ownBlock = some b) (hf.mono (fun b _ h1 => (hx.1 b).2 h1)) (fun _ => ⟨fun _ => Iff.rfl, ho⟩) (fun b h1 => ?_)
  rcases hb with h2 | h2
  · exact .inl ((hx.1 b).2 (h2 ▸ h1))
  · rw [h1] at h2
    injection h2 with h2
    exact .inr (Nat.le_of_eq h2.symm)

/-! ### lists of numbers that stay -/
abbrev Any : Nat → Prop := fun _ => True
/-- a slice of numbers of kind k -/
def Ints (w : World) (k : IntKind) (v : Value) (xs : List Int) : Prop :=
  ∃ A c, v = .slice A xs.length c ∧ xs.length ≤ c ∧ c ≤ maxLen ∧ Sl w Any 1 A xs.length (xs.map (Value.int k))
theorem Ints.none_ (w : World) (k : IntKind) : Ints w k (.slice none 0 0) [] := ⟨none, 0, rfl, by simp, by unfold maxLen; omega, Sl.nil_ _ _ _ _⟩
theorem Ints.len {k : IntKind} {v : Value} {xs : List Int} (h : Ints w k v xs) : xs.length ≤ 9223372036854775807 := by
  obtain ⟨A, c, _, h1, h2, _⟩ := h
  unfold maxLen at h2
  omega
theorem Ints.non {k : IntKind} {v : Value} {xs : List Int} (h : Ints w k v xs) (hf : Fr Non w w') : Ints w' k v xs := by
  obtain ⟨A, c, e, h1, h2, h3⟩ := h
  exact ⟨A, c, e, h1, h2, h3.non hf⟩
theorem Ints.of_own {e : TypeId} {k : IntKind} {v : Value} {n : Nat} {xs : List Int} (h : w.ownsRow 0 e 1 v n (xs.map (Value.int k))) : Ints w k v xs := by
  have hn : n = xs.length := by have := h.1; simp at this; exact this.symm
  subst hn
  rcases h.2 with ⟨rfl, h0⟩ | ⟨g, cap, cur, rfl, hg, hh, hc, hm, _⟩
  · have : xs = [] := List.eq_nil_of_length_eq_zero h0
    subst this
    exact Ints.none_ w k
  · exact ⟨_, _, rfl, hc, hm, (Sl.of_own h).mono (fun _ _ _ => trivial)⟩
theorem Ints.sl {k : IntKind} {A : Option Addr} {n c : Nat} {xs : List Int} (h : Ints w k (.slice A n c) xs) : n = xs.length ∧ n ≤ c ∧ c ≤ 9223372036854775807 ∧ Sl w Any 1 A n (xs.map (Value.int k)) := by
  obtain ⟨A', c', e, h1, h2, h3⟩ := h
  injection e with e1 e2 e3
  subst e1; subst e2; subst e3
  exact ⟨rfl, h1, h2, h3⟩
/-- its first ones -/
theorem Ints.cut {k : IntKind} {A : Option Addr} {n c m : Nat} {xs : List Int} (h : Ints w k (.slice A n c) xs) (hm : m ≤ n) : Ints w k (.slice A m c) (xs.take m) := by
  obtain ⟨h0, h1, h2, h3⟩ := h.sl
  have hl : (xs.take m).length = m := by rw [List.length_take]; omega
  refine ⟨A, c, by rw [hl], by rw [hl]; omega, h2, by rw [List.length_map]; omega, fun hp => ?_⟩
  rw [hl] at hp
  obtain ⟨ad, e, hq, hb, hc⟩ := h3.2 (by omega)
  refine ⟨ad, e, trivial, hb, fun j u hu => hc j u ?_⟩
  rw [List.map_take, List.getElem?_take] at hu
  split at hu
  · exact hu
  · cases hu
/-- a row that is not written any more -/
theorem St.ints {e : TypeId} {k : IntKind} {v : Value} {n : Nat} {xs : List Int} (h : St M0 w (rowR e 1 v n (xs.map (Value.int k)) :: L)) : St M0 w (persR (fun w' => Ints w' k v xs) :: L) :=
  h.freezeR.pers1 (fun _ ho => Ints.of_own ho)
end

/-! ### the order of the resources -/
section
variable {M0 : Imm} {w : World} {L : List Res} {A0 A1 A2 A3 A4 A5 A6 A7 A8 A9 : Res}
theorem St.up2 (h : St M0 w (A0 :: A1 :: A2 :: L)) : St M0 w (A2 :: A0 :: A1 :: L) := h.pick 3 [2, 0, 1]
theorem St.dn2 (h : St M0 w (A0 :: A1 :: A2 :: L)) : St M0 w (A1 :: A2 :: A0 :: L) := h.pick 3 [1, 2, 0]
theorem St.up3 (h : St M0 w (A0 :: A1 :: A2 :: A3 :: L)) : St M0 w (A3 :: A0 :: A1 :: A2 :: L) := h.pick 4 [3, 0, 1, 2]
theorem St.dn3 (h : St M0 w (A0 :: A1 :: A2 :: A3 :: L)) : St M0 w (A1 :: A2 :: A3 :: A0 :: L) := h.pick 4 [1, 2, 3, 0]
theorem St.up4 (h : St M0 w (A0 :: A1 :: A2 :: A3 :: A4 :: L)) : St M0 w (A4 :: A0 :: A1 :: A2 :: A3 :: L) := h.pick 5 [4, 0, 1, 2, 3]
theorem St.dn4 (h : St M0 w (A0 :: A1 :: A2 :: A3 :: A4 :: L)) : St M0 w (A1 :: A2 :: A3 :: A4 :: A0 :: L) := h.pick 5 [1, 2, 3, 4, 0]
theorem St.up5 (h : St M0 w (A0 :: A1 :: A2 :: A3 :: A4 :: A5 :: L)) : St M0 w (A5 :: A0 :: A1 :: A2 :: A3 :: A4 :: L) := h.pick 6 [5, 0, 1, 2, 3, 4]
theorem St.dn5 (h : St M0 w (A0 :: A1 :: A2 :: A3 :: A4 :: A5 :: L)) : St M0 w (A1 :: A2 :: A3 :: A4 :: A5 :: A0 :: L) := h.pick 6 [1, 2, 3, 4, 5, 0]
theorem St.up6 (h : St M0 w (A0 :: A1 :: A2 :: A3 :: A4 :: A5 :: A6 :: L)) : St M0 w (A6 :: A0 :: A1 :: A2 :: A3 :: A4 :: A5 :: L) := h.pick 7 [6, 0, 1, 2, 3, 4, 5]
theorem St.dn6 (h : St M0 w (A0 :: A1 :: A2 :: A3 :: A4 :: A5 :: A6 :: L)) : St M0 w (A1 :: A2 :: A3 :: A4 :: A5 :: A6 :: A0 :: L) := h.pick 7 [1, 2, 3, 4, 5, 6, 0]
theorem St.up7 (h : St M0 w (A0 :: A1 :: A2 :: A3 :: A4 :: A5 :: A6 :: A7 :: L)) : St M0 w (A7 :: A0 :: A1 :: A2 :: A3 :: A4 :: A5 :: A6 :: L) := h.pick 8 [7, 0, 1, 2, 3, 4, 5, 6]
theorem St.dn7 (h : St M0 w (A0 :: A1 :: A2 :: A3 :: A4 :: A5 :: A6 :: A7 :: L)) : St M0 w (A1 :: A2 :: A3 :: A4 :: A5 :: A6 :: A7 :: A0 :: L) := h.pick 8 [1, 2, 3, 4, 5, 6, 7, 0]
theorem St.up8 (h : St M0 w (A0 :: A1 :: A2 :: A3 :: A4 :: A5 :: A6 :: A7 :: A8 :: L)) : St M0 w (A8 :: A0 :: A1 :: A2 :: A3 :: A4 :: A5 :: A6 :: A7 :: L) := h.pick 9 [8, 0, 1, 2, 3, 4, 5, 6, 7]
theorem St.dn8 (h : St M0 w (A0 :: A1 :: A2 :: A3 :: A4 :: A5 :: A6 :: A7 :: A8 :: L)) : St M0 w (A1 :: A2 :: A3 :: A4 :: A5 :: A6 :: A7 :: A8 :: A0 :: L) := h.pick 9 [1, 2, 3, 4, 5, 6, 7, 8, 0]
theorem St.del1 (h : St M0 w (A0 :: A1 :: L)) : St M0 w (A0 :: L) := h.pick 2 [0]
theorem St.del2 (h : St M0 w (A0 :: A1 :: A2 :: L)) : St M0 w (A0 :: A1 :: L) := h.pick 3 [0, 1]
theorem St.del3 (h : St M0 w (A0 :: A1 :: A2 :: A3 :: L)) : St M0 w (A0 :: A1 :: A2 :: L) := h.pick 4 [0, 1, 2]
theorem St.del4 (h : St M0 w (A0 :: A1 :: A2 :: A3 :: A4 :: L)) : St M0 w (A0 :: A1 :: A2 :: A3 :: L) := h.pick 5 [0, 1, 2, 3]
theorem St.del5 (h : St M0 w (A0 :: A1 :: A2 :: A3 :: A4 :: A5 :: L)) : St M0 w (A0 :: A1 :: A2 :: A3 :: A4 :: L) := h.pick 6 [0, 1, 2, 3, 4]
end

end Go.Proofs.Ytbgknfdaaffeaaa
