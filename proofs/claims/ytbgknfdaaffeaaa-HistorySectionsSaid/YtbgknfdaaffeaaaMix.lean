/- A region that draws its order, told by two lists: operations that read alone, each of which may be taken first in every world of a class S; and the others, which can come up in one order only, the last one waiting for all. -/
import Derived.Test.YtbgknfdaaffeaaaCells
import Derived.OrdersHeld
namespace Go.Proofs.Ytbgknfdaaffeaaa
open Go.RowKit

section
variable {P : Program} {ops : Array Oper} {Q : Exit → Act → World → Prop} {S : World → Prop} {L : Nat}

/-- whatever order is picked from here on; S holds behind every operation below the number L; those from L on wait for all below -/
def wpT (P : Program) (ops : Array Oper) (Q : Exit → Act → World → Prop) (S : World → Prop) (L : Nat) : Nat → Array Bool → Act → World → Prop
  | 0, listed, a, w => Region.ready .any ops listed = [] ∧ Q .normal a w
  | k + 1, listed, a, w => (Region.ready .any ops listed = [] → Q .normal a w) ∧
    ∀ i ∈ Region.ready .any ops listed, wpOp P ops Q i (fun a' w' => (i < L → S w') ∧ wpT P ops Q S L k (listed.setIfInBounds i true) a' w') a w

theorem wpAny_of_wpT : ∀ (k : Nat) (listed : Array Bool) (a : Act) (w : World), wpT P ops Q S L k listed a w → wpAny P .any ops Q k listed a w
  | 0, _, _, _, h => h
  | k + 1, _, _, _, h => ⟨h.1, fun i hi => wpOp_mono (fun a' w' h' => wpAny_of_wpT k _ a' w' h'.2) (h.2 i hi)⟩

/-- from L on every operation waits for all below L -/
def lastB (ops : Array Oper) (L : Nat) : Bool :=
  (List.range ops.size).all fun j => decide (j < L) || match ops[j]? with
    | none => true
    | some o => (List.range L).all fun i => o.after.any fun e => Region.binds .any e && e.on == i

theorem last_waits (h : lastB ops L = true) {listed : Array Bool} {j : Nat} (hj : j ∈ Region.ready .any ops listed) (hL : L ≤ j) {i : Nat} (hi : i < L) : listed.getD i false = true := by
  obtain ⟨_, o, ho, hall⟩ := mem_ready.1 hj
  unfold lastB at h
  have h0 := List.all_eq_true.1 h j (List.mem_range.2 (Array.getElem?_eq_some_iff.1 ho).1)
  rw [ho] at h0
  simp only [Bool.or_eq_true, decide_eq_true_eq] at h0
  have h1 := List.all_eq_true.1 (h0.resolve_left (by omega)) i (List.mem_range.2 hi)
  simp only [Array.any_eq_true'] at h1
  obtain ⟨e, he, hb⟩ := h1
  rw [Bool.and_eq_true, beq_iff_eq] at hb
  rw [← hb.2]
  exact hall e he hb.1

theorem ready_not_listed {listed : Array Bool} {i : Nat} (h : i ∈ Region.ready .any ops listed) : listed.getD i false = true → False := by
  intro h1
  have h0 := (mem_ready.1 h).1
  rcases Nat.lt_or_ge i listed.size with h' | h'
  · simp [h'] at h0 h1; rw [h0] at h1; cases h1
  · simp [Array.getElem?_eq_none h'] at h1

/-- an operation that may come up, and reads alone wherever S holds, may be taken first -/
theorem wpT_first {i : Nat} {oi : Oper} {v : Value} (hi : ops[i]? = some oi) (hsel : ∀ (j : Nat) (o : Oper) cs b, ops[j]? = some o → o.op ≠ .select cs b) (hlast : lastB ops L = true) (hiL : i < L)
    (hQ : ∀ c a w, Q (.panic c) (a.put oi.dst v) w → Q (.panic c) a w) :
    ∀ (k : Nat) (listed : Array Bool) (a : Act) (w : World),
      (∀ j oj, ops[j]? = some oj → j ≠ i → listed.getD j true = false → (∀ e ∈ oj.after, Region.binds .any e = true → e.on ≠ i) → oi.apart ops oj = true) →
      i ∈ Region.ready .any ops listed → YieldsIf P ops S oi v a → S w →
      wpT P ops Q S L k (listed.setIfInBounds i true) (a.put oi.dst v) w → wpT P ops Q S L (k + 1) listed a w := by
  have hin : i < ops.size := (Array.getElem?_eq_some_iff.1 hi).1
  intro k
  induction k with
  | zero =>
    intro listed a w _ hr hy hS H
    refine ⟨fun h => (by rw [h] at hr; cases hr), fun j hj => ?_⟩
    by_cases hji : j = i
    · subst hji; exact hy.wpOp hi hS ⟨fun _ => hS, H⟩
    · have := ready_mono hj hji
      rw [H.1] at this
      cases this
  | succ k ih =>
    intro listed a w hfree hr hy hS H
    refine ⟨fun h => (by rw [h] at hr; cases hr), fun j hj => ?_⟩
    by_cases hji : j = i
    · subst hji; exact hy.wpOp hi hS ⟨fun _ => hS, H⟩
    · have hjL : j < L := by
        refine Nat.lt_of_not_le fun e => ready_not_listed hr (last_waits hlast hj e hiL)
      have h1 := H.2 j (ready_mono hj hji)
      obtain ⟨hjun, oj, hoj, hall⟩ := mem_ready.1 hj
      have hnot : ∀ e ∈ oj.after, Region.binds .any e = true → e.on ≠ i := fun e he hb heq => ready_not_listed hr (by rw [← heq]; exact hall e he hb)
      have h2 := wpOp_putIf hoj (hfree j oj hoj hji hjun hnot) (fun cs b => hsel i oi cs b hi) (fun cs b => hsel j oj cs b hoj) hQ hy h1
      have hfree' : ∀ m om, ops[m]? = some om → m ≠ i → (listed.setIfInBounds j true).getD m true = false →
          (∀ e ∈ om.after, Region.binds .any e = true → e.on ≠ i) → oi.apart ops om = true := fun m om hm hmi hun hno => by
        refine hfree m om hm hmi ?_ hno
        by_cases hjm : j = m
        · subst hjm; exact hjun
        · rw [getD_set_ne true hjm] at hun; exact hun
      refine wpOp_mono (fun a' w' h3 => ⟨fun _ => h3.2.1 hjL, ih (listed.setIfInBounds j true) a' w' hfree' (ready_mono hr (Ne.symm hji)) h3.1 (h3.2.1 hjL) ?_⟩) h2
      rw [Array.setIfInBounds_comm _ _ hji]
      exact h3.2.2

/-- the first list, one behind the other -/
def wpTake (P : Program) (ops : Array Oper) (S : World → Prop) (K : Act → Prop) : List Nat → Act → Prop
  | [], a => K a
  | i :: r, a => ∃ o v, ops[i]? = some o ∧ YieldsIf P ops S o v a ∧ wpTake P ops S K r (a.put o.dst v)
/-- the second list: the world is the one at hand -/
def wpSeq (P : Program) (ops : Array Oper) (Q : Exit → Act → World → Prop) (S : World → Prop) (L : Nat) : List Nat → Act → World → Prop
  | [], a, w => Q .normal a w
  | i :: r, a, w => ∃ o, ops[i]? = some o ∧ (if Region.wanted o (yielded ops a.tmps) = true then o.wp P a w (fun a' w' => (i < L → S w') ∧ wpSeq P ops Q S L r a' w') Q else (i < L → S w) ∧ wpSeq P ops Q S L r (a.put o.dst undef) w)

def takeB (ops : Array Oper) (L : Nat) : List Nat → Array Bool → Option (Array Bool)
  | [], listed => some listed
  | i :: r, listed => if Region.free .any ops listed i && (Region.ready .any ops listed).contains i && decide (i < L) then takeB ops L r (listed.setIfInBounds i true) else none
def seqB (ops : Array Oper) : List Nat → Array Bool → Bool
  | [], listed => Region.ready .any ops listed == []
  | i :: r, listed => Region.ready .any ops listed == [i] && seqB ops r (listed.setIfInBounds i true)
def mixB (ops : Array Oper) (L : Nat) (hd tl : List Nat) : Bool :=
  Region.noSelect ops && lastB ops L && (hd.length + tl.length == ops.size) &&
    match takeB ops L hd (Array.replicate ops.size false) with
    | some l => seqB ops tl l
    | none => false

theorem wpT_seq : ∀ (tl : List Nat) (listed : Array Bool) (a : Act) (w : World), seqB ops tl listed = true → wpSeq P ops Q S L tl a w → wpT P ops Q S L tl.length listed a w
  | [], listed, a, w, h, hs => ⟨by simpa [seqB] using h, hs⟩
  | i :: r, listed, a, w, h, hs => by
    simp only [seqB, Bool.and_eq_true, beq_iff_eq] at h
    obtain ⟨o, ho, hs⟩ := hs
    refine ⟨fun h0 => (by rw [h.1] at h0; cases h0), fun j hj => ?_⟩
    rw [h.1] at hj
    obtain rfl := List.mem_singleton.1 hj
    unfold wpOp
    simp only [ho]
    split
    · rename_i hw
      rw [if_pos hw] at hs
      exact .inl (Oper.wp_mono (fun a' w' h' => ⟨h'.1, wpT_seq r _ a' w' h.2 h'.2⟩) hs)
    · rename_i hw
      rw [if_neg hw] at hs
      exact ⟨hs.1, wpT_seq r _ _ w h.2 hs.2⟩

/-- one of these lists, each with another head -/
def altB (ops : Array Oper) (listed : Array Bool) (n : Nat) : List (List Nat) → Bool
  | tls => Region.ready .any ops listed == tls.filterMap List.head? && tls.all (fun tl => tl.length == n + 1 && match tl with
      | i :: r => seqB ops r (listed.setIfInBounds i true)
      | [] => false)
theorem wpT_alt {n : Nat} {tls : List (List Nat)} {listed : Array Bool} {a : Act} {w : World} (h : altB ops listed n tls = true) (hne : Region.ready .any ops listed ≠ [])
    (hs : ∀ tl ∈ tls, wpSeq P ops Q S L tl a w) : wpT P ops Q S L (n + 1) listed a w := by
  simp only [altB, Bool.and_eq_true, beq_iff_eq] at h
  refine ⟨fun h0 => absurd h0 hne, fun j hj => ?_⟩
  rw [h.1] at hj
  obtain ⟨tl, htl, he⟩ := List.mem_filterMap.1 hj
  have h2 := List.all_eq_true.1 h.2 tl htl
  simp only [Bool.and_eq_true, beq_iff_eq] at h2
  match tl, he, h2, hs tl htl with
  | i :: r, he, h2, hsi =>
    obtain rfl : i = j := by simpa using he
    have hlen : r.length = n := by simpa using h2.1
    obtain ⟨o, ho, hsi⟩ := hsi
    unfold wpOp
    simp only [ho]
    rw [← hlen]
    split
    · rename_i hw
      rw [if_pos hw] at hsi
      exact .inl (Oper.wp_mono (fun a' w' h' => ⟨h'.1, wpT_seq r _ a' w' h2.2 h'.2⟩) hsi)
    · rename_i hw
      rw [if_neg hw] at hsi
      exact ⟨hsi.1, wpT_seq r _ _ w h2.2 hsi.2⟩

theorem wpT_takes (hsel : ∀ (j : Nat) (o : Oper) cs b, ops[j]? = some o → o.op ≠ .select cs b) (hlast : lastB ops L = true) (hQ : ∀ d v c a w, Q (.panic c) (a.put d v) w → Q (.panic c) a w)
    (n : Nat) (tls : List (List Nat)) {w : World} (hS : S w) : ∀ (hd : List Nat) (listed l : Array Bool) (a : Act), takeB ops L hd listed = some l → altB ops l n tls = true → Region.ready .any ops l ≠ [] →
      wpTake P ops S (fun a' => ∀ tl ∈ tls, wpSeq P ops Q S L tl a' w) hd a → wpT P ops Q S L (hd.length + (n + 1)) listed a w
  | [], listed, l, a, h, hs, hne, ht => by
    simp only [takeB, Option.some.injEq] at h
    subst h
    rw [List.length_nil, Nat.zero_add]
    exact wpT_alt hs hne ht
  | i :: r, listed, l, a, h, hs, hne, ht => by
    unfold takeB at h
    split at h
    · rename_i hc
      simp only [Bool.and_eq_true, decide_eq_true_eq] at hc
      obtain ⟨⟨hf, hr⟩, hiL⟩ := hc
      obtain ⟨o, v, ho, hy, ht⟩ := ht
      have := wpT_takes hsel hlast hQ n tls hS r _ l _ h hs hne ht
      rw [List.length_cons, show r.length + 1 + (n + 1) = (r.length + (n + 1)) + 1 by omega]
      exact wpT_first ho hsel hlast hiL (hQ _ _) _ listed a w (Region.free_spec ho hf) (by simpa using hr) hy hS this
    · cases h

def mixsB (ops : Array Oper) (L n : Nat) (hd : List Nat) (tls : List (List Nat)) : Bool :=
  Region.noSelect ops && lastB ops L && (hd.length + (n + 1) == ops.size) &&
    match takeB ops L hd (Array.replicate ops.size false) with
    | some l => altB ops l n tls && Region.ready .any ops l != []
    | none => false

theorem wpT_take (hsel : ∀ (j : Nat) (o : Oper) cs b, ops[j]? = some o → o.op ≠ .select cs b) (hlast : lastB ops L = true) (hQ : ∀ d v c a w, Q (.panic c) (a.put d v) w → Q (.panic c) a w)
    (tl : List Nat) {w : World} (hS : S w) : ∀ (hd : List Nat) (listed l : Array Bool) (a : Act), takeB ops L hd listed = some l → seqB ops tl l = true →
      wpTake P ops S (fun a' => wpSeq P ops Q S L tl a' w) hd a → wpT P ops Q S L (hd.length + tl.length) listed a w
  | [], listed, l, a, h, hs, ht => by
    simp only [takeB, Option.some.injEq] at h
    subst h
    simpa using wpT_seq tl _ _ _ hs ht
  | i :: r, listed, l, a, h, hs, ht => by
    unfold takeB at h
    split at h
    · rename_i hc
      simp only [Bool.and_eq_true, decide_eq_true_eq] at hc
      obtain ⟨⟨hf, hr⟩, hiL⟩ := hc
      obtain ⟨o, v, ho, hy, ht⟩ := ht
      have := wpT_take hsel hlast hQ tl hS r _ l _ h hs ht
      rw [List.length_cons, show r.length + 1 + tl.length = (r.length + tl.length) + 1 by omega]
      exact wpT_first ho hsel hlast hiL (hQ _ _) _ listed a w (Region.free_spec ho hf) (by simpa using hr) hy hS this
    · cases h

theorem region_mix {id : Nat} {a : Act} {w : World} {l : List Oper} (S : World → Prop) (L : Nat) (hd tl : List Nat) (hm : P.follows .mixedOrders = true) (hB : mixB l.toArray L hd tl = true)
    (hQ : ∀ d v c a w, Q (.panic c) (a.put d v) w → Q (.panic c) a w)
    (h : ∀ W : World, W = w.drew → S W ∧ wpTake P l.toArray S (fun a' => wpSeq P l.toArray Q S L tl a' W) hd a) : (Code.region id l.toArray true).wp P Q a w := by
  obtain ⟨hS, ht⟩ := h _ rfl
  simp only [mixB, Bool.and_eq_true, beq_iff_eq] at hB
  obtain ⟨⟨⟨hsel, hlast⟩, hlen⟩, hB⟩ := hB
  split at hB
  · rename_i l' hl'
    refine wp_region_any hm (wpAny_of_wpT (S := S) (L := L) _ _ _ _ ?_)
    rw [← hlen]
    exact wpT_take (Region.noSelect_spec hsel) hlast hQ tl hS hd _ l' a (by rw [hlen]; exact hl') hB ht
  · cases hB

end

section
variable {P : Program} {l : List Oper} {Q : Exit → Act → World → Prop} {S : World → Prop} {L : Nat}
/-- the same where the rest can begin with one or the other: one list each -/
theorem region_mixs {id : Nat} {a : Act} {w : World} {l : List Oper} (S : World → Prop) (L n : Nat) (hd : List Nat) (tls : List (List Nat)) (hm : P.follows .mixedOrders = true) (hB : mixsB l.toArray L n hd tls = true)
    (hQ : ∀ d v c a w, Q (.panic c) (a.put d v) w → Q (.panic c) a w)
    (h : ∀ W : World, W = w.drew → S W ∧ wpTake P l.toArray S (fun a' => ∀ tl ∈ tls, wpSeq P l.toArray Q S L tl a' W) hd a) : (Code.region id l.toArray true).wp P Q a w := by
  obtain ⟨hS, ht⟩ := h _ rfl
  simp only [mixsB, Bool.and_eq_true, beq_iff_eq] at hB
  obtain ⟨⟨⟨hsel, hlast⟩, hlen⟩, hB⟩ := hB
  split at hB
  · rename_i l' hl'
    simp only [Bool.and_eq_true, bne_iff_ne] at hB
    refine wp_region_any hm (wpAny_of_wpT (S := S) (L := L) _ _ _ _ ?_)
    rw [← hlen]
    exact wpT_takes (Region.noSelect_spec hsel) hlast hQ n tls hS hd _ l' a (by rw [hlen]; exact hl') hB.1 hB.2 ht
  · cases hB

/-! ### the steps -/
theorem take_nil {K : Act → Prop} {a : Act} (h : K a) : wpTake P l.toArray S K [] a := h
theorem take_run {K : Act → Prop} {i : Nat} {r : List Nat} {a : Act} {o : Oper} {v : Value} (ho : l[i]? = some o) (hg : o.guard = none)
    (hrun : ∀ W, S W → (execOp a.eval o).run P W = .ok (.value v) W) (h : wpTake P l.toArray S K r (a.put o.dst v)) : wpTake P l.toArray S K (i :: r) a :=
  ⟨o, v, by simpa using ho, .inl ⟨by simp [Region.wanted, hg], hrun⟩, h⟩
theorem take_load {K : Act → Prop} {i : Nat} {r : List Nat} {a : Act} {o : Oper} {v : Value} (ho : l[i]? = some o) (hg : o.guard = none) (t : TypeId) (x : Operand) (p : Value) (hop : o.op = .load t x) (hx : a.eval x = p)
    (hrun : ∀ W, S W → (Instr.loadAt t p).run P W = .ok v W) (h : wpTake P l.toArray S K r (a.put o.dst v)) : wpTake P l.toArray S K (i :: r) a :=
  take_run ho hg (fun W hW => by unfold execOp; simp only [hop, hx, Sem.run_bind, Sem.run_pure, Result.andThen_ok, hrun W hW]) h
theorem take_skip {K : Act → Prop} {i : Nat} {r : List Nat} {a : Act} {o : Oper} (ho : l[i]? = some o) (hw : Region.wanted o (yielded l.toArray a.tmps) = false)
    (h : wpTake P l.toArray S K r (a.put o.dst undef)) : wpTake P l.toArray S K (i :: r) a := ⟨o, undef, by simpa using ho, .inr ⟨hw, rfl⟩, h⟩

theorem seq_nil {a : Act} {w : World} (h : Q .normal a w) : wpSeq P l.toArray Q S L [] a w := h
theorem seq_wp {i : Nat} {r : List Nat} {a : Act} {w : World} {o : Oper} (ho : l[i]? = some o) (hg : o.guard = none)
    (h : o.wp P a w (fun a' w' => (i < L → S w') ∧ wpSeq P l.toArray Q S L r a' w') Q) : wpSeq P l.toArray Q S L (i :: r) a w :=
  ⟨o, by simpa using ho, by rw [if_pos (by simp [Region.wanted, hg])]; exact h⟩
theorem seq_run {i : Nat} {r : List Nat} {a : Act} {w w' : World} {o : Oper} {v : Value} (ho : l[i]? = some o) (hg : o.guard = none)
    (hrun : (execOp a.eval o).run P w = .ok (.value v) w') (hS : i < L → S w') (h : wpSeq P l.toArray Q S L r (a.put o.dst v) w') : wpSeq P l.toArray Q S L (i :: r) a w :=
  seq_wp ho hg (by unfold Oper.wp; rw [hrun]; exact ⟨hS, h⟩)
theorem seq_read {i : Nat} {r : List Nat} {a : Act} {w : World} {o : Oper} {v : Value} (ho : l[i]? = some o) (hg : o.guard = none)
    (hrun : (execOp a.eval o).run P w = .ok (.value v) w) (hS : i < L → S w) (h : wpSeq P l.toArray Q S L r (a.put o.dst v) w) : wpSeq P l.toArray Q S L (i :: r) a w :=
  seq_run ho hg hrun hS h
theorem seq_build {i : Nat} {r : List Nat} {a : Act} {w w' : World} {o : Oper} {v : Value} (ho : l[i]? = some o) (hg : o.guard = none) (t : TypeId) (fs : List (Nat × Operand)) (us : List (Nat × Value)) (hop : o.op = .build t fs.toArray) (hx : fs.map (fun p => (p.1, a.eval p.2)) = us)
    (hrun : (Instr.build t us.toArray).run P w = .ok v w') (hS : i < L → S w') (h : wpSeq P l.toArray Q S L r (a.put o.dst v) w') : wpSeq P l.toArray Q S L (i :: r) a w :=
  seq_run ho hg (by unfold execOp; simp only [hop, List.map_toArray, hx, Sem.run_bind, Sem.run_pure, Result.andThen_ok, hrun]) hS h
theorem seq_box {i : Nat} {r : List Nat} {a : Act} {w w' : World} {o : Oper} {v : Value} (ho : l[i]? = some o) (hg : o.guard = none) (t : TypeId) (x : Operand) (u : Value) (hop : o.op = .box t x) (hx : a.eval x = u)
    (hrun : (Instr.box t u).run P w = .ok v w') (hS : i < L → S w') (h : wpSeq P l.toArray Q S L r (a.put o.dst v) w') : wpSeq P l.toArray Q S L (i :: r) a w :=
  seq_run ho hg (by unfold execOp; simp only [hop, hx, Sem.run_bind, Sem.run_pure, Result.andThen_ok, hrun]) hS h
theorem seq_store {i : Nat} {r : List Nat} {a : Act} {w w' : World} {o : Oper} (ho : l[i]? = some o) (hg : o.guard = none) (t : TypeId) (x y : Operand) (p u : Value) (hop : o.op = .store t x y) (hx : a.eval x = p) (hy : a.eval y = u)
    (hrun : (Instr.storeAt t p u).run P w = .ok () w') (hS : i < L → S w') (h : wpSeq P l.toArray Q S L r (a.put o.dst undef) w') : wpSeq P l.toArray Q S L (i :: r) a w :=
  seq_wp ho hg (by unfold Oper.wp execOp; simp only [hop, hx, hy, Sem.run_bind, Sem.run_pure, Result.andThen_ok, hrun]; exact ⟨hS, h⟩)
theorem seq_buildSlice1 {i : Nat} {r : List Nat} {a : Act} {w w' : World} {o : Oper} {v : Value} (ho : l[i]? = some o) (hg : o.guard = none) (t : TypeId) (len k : Nat) (x : Operand) (u : Value) (hop : o.op = .buildSlice t len #[(k, x)]) (hx : a.eval x = u)
    (hrun : (Instr.buildSlice t len #[(k, u)]).run P w = .ok v w') (hS : i < L → S w') (h : wpSeq P l.toArray Q S L r (a.put o.dst v) w') : wpSeq P l.toArray Q S L (i :: r) a w :=
  seq_run ho hg (by unfold execOp; simp only [hop, hx, List.map_toArray, List.map_cons, List.map_nil, Sem.run_bind, Sem.run_pure, Result.andThen_ok, hrun]) hS h
theorem seq_copy {i : Nat} {r : List Nat} {a : Act} {w w' : World} {o : Oper} {v : Value} (ho : l[i]? = some o) (hg : o.guard = none) (x y : Operand) (tx ty : TypeId) (p u : Value) (hop : o.op = .call { callee := .builtin .copy, args := #[x, y], argTypes := #[tx, ty] }) (hx : a.eval x = p) (hy : a.eval y = u)
    (hrun : (Builtin.copy_ #[tx, ty] o.type #[p, u]).run P w = .ok v w') (hS : i < L → S w') (h : wpSeq P l.toArray Q S L r (a.put o.dst v) w') : wpSeq P l.toArray Q S L (i :: r) a w :=
  seq_run ho hg (by unfold execOp; simp only [hop, hx, hy, resolve, invoke, builtin, Sem.run_bind, Sem.run_pure, Result.andThen_ok, List.map_toArray, List.map_cons, List.map_nil, hrun]) hS h
theorem seq_append {i : Nat} {r : List Nat} {ac : Act} {w : World} {o : Oper} (ho : l[i]? = some o) (hg : o.guard = none) (s x : Operand) (t : TypeId)
    (hop : o.op = .call { callee := .builtin .append, args := #[s, x], argTypes := #[t, t] })
    (base : Nat) (e : TypeId) (z : Value) (size bytes : Nat) (ht : P.underlying t = some (.slice e))
    (hinfo : (P.info? e).map (fun i => (i.zero, i.size, i.bytes)) = some (some z, size, bytes)) (hzs : z.cells.size = size) (hsz : 0 < size)
    (v : Value) (n : Nat) (xs : List Value) (hs : ac.eval s = v) (hown : w.ownsRow base e size v n xs)
    (a : Addr) (m c : Nat) (hx : ac.eval x = .slice (some a) m c) (news : List Value) (hl : news.length = m * size) (hc : ∀ j u, news[j]? = some u → w.cell? (a.add j) = some u) (h1 : ∀ u ∈ news, u.oneCell' = true)
    (hbytes : (n + m) * bytes ≤ 140737488355328) (hn : n + m ≤ 140737488355328) (hbase : base ≤ w.heap.size)
    (h : ∀ v' w', w'.ownsRow base e size v' (n + m) (xs ++ news) → Fr (fun b => v.ownBlock = some b) w w' → (v'.ownBlock = v.ownBlock ∨ v'.ownBlock = some w.heap.size) → (i < L → S w') ∧ wpSeq P l.toArray Q S L r (ac.put o.dst v') w') :
    wpSeq P l.toArray Q S L (i :: r) ac w := by
  obtain ⟨v', w', hrun, h2, h3, h4⟩ := run_append_at (P := P) (w := w) t o.type base e z size bytes ht hinfo hzs hsz v n xs hown a m c news hl hc h1 hbytes hn hbase
  have hk := h v' w' h2 h3 h4
  exact seq_run ho hg (by unfold execOp; simp only [hop, resolve, invoke, builtin, Sem.run_bind, Sem.run_pure, Result.andThen_ok, List.map_toArray, List.map_cons, List.map_nil, hs, hx, hrun]) hk.1 hk.2
theorem seq_call {i : Nat} {r : List Nat} {a : Act} {w : World} {o : Oper} {f : FuncId} {args : Array Value} (ho : l[i]? = some o) (hg : o.guard = none)
    (hrun : (execOp a.eval o).run P w = .ok (.enter f args) w)
    (h : Calls P f args w fun e w' => ∃ v, e = .returned v ∧ (i < L → S w') ∧ wpSeq P l.toArray Q S L r (a.put o.dst v) w') : wpSeq P l.toArray Q S L (i :: r) a w :=
  seq_wp ho hg (by
    unfold Oper.wp
    rw [hrun, Oper.upon_enter]
    refine h.mono fun e w' ⟨v, he, hS, h⟩ => ?_
    subst he
    exact ⟨hS, h⟩)
end

end Go.Proofs.Ytbgknfdaaffeaaa
