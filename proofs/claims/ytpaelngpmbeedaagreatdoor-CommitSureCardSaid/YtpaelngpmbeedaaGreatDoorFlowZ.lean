/- A region that draws its order, and whose values do not depend on the order: each operation's operands are laid by operations that it waits for; what it reads in memory stays, in every world of a class S, which no operation leaves. -/
import Derived.Test.YtpaelngpmbeedaaGreatDoorBaseZ
import Derived.Test.YtpaelngpmbeedaaGreatDoorStZ
import Derived.Laws.MakeOwn
import Derived.Laws.Tables
import Derived.Deep.WholeRow
namespace Go.Proofs.YtpaelngpmbeedaaGreatDoor
open Go.RowKit

section
variable {P : Program} {ops : Array Oper} {Q : Exit → Act → World → Prop} {S : World → Prop}

/-- what an operation's run hands over, wherever it is put -/
def Oper.uponV (P : Program) (K : Value → World → Prop) : Result Next → Prop
  | .ok (.value v) w' => K v w'
  | .ok .skip w' => K undef w'
  | .ok (.enter f args) w' => Calls P f args w' fun e w'' => ∃ v, e = .returned v ∧ K v w''
  | _ => False
theorem Oper.upon_of_V {o : Oper} {a : Act} {next : Act → World → Prop} {K : Value → World → Prop} {r : Result Next} (h : Oper.uponV P K r) (hn : ∀ v w', K v w' → next (a.put o.dst v) w') : o.upon P a next Q r := by
  cases r with
  | ok n w' =>
    cases n with
    | value v => exact hn _ _ h
    | skip => exact hn _ _ h
    | enter f args => exact Calls.mono h (fun e w'' ⟨v, he, hk⟩ => by subst he; exact hn _ _ hk)
    | _ => exact h.elim
  | halt x w' => exact h.elim
theorem Oper.uponV_mono {K K' : Value → World → Prop} {r : Result Next} (h : Oper.uponV P K r) (hn : ∀ v w', K v w' → K' v w') : Oper.uponV P K' r := by
  cases r with
  | ok n w' =>
    cases n with
    | value v => exact hn _ _ h
    | skip => exact hn _ _ h
    | enter f args => exact Calls.mono h (fun e w'' ⟨v, he, hk⟩ => ⟨v, he, hn _ _ hk⟩)
    | _ => exact h.elim
  | halt x w' => exact h.elim

/-- what is asked of one operation at an activation -/
def detOp (P : Program) (ops : Array Oper) (S : World → Prop) (o : Oper) (v : Value) (a : Act) : Prop :=
  if Region.wanted o (yielded ops a.tmps) = true then ∀ W, S W → Oper.uponV P (fun u W' => u = v ∧ S W') ((execOp a.eval o).run P W) else v = undef
/-- one behind the other, in the text's order -/
def detSeq (P : Program) (ops : Array Oper) (S : World → Prop) (K : Act → Prop) : List Nat → Act → Prop
  | [], a => K a
  | i :: r, a => ∃ o v, ops[i]? = some o ∧ detOp P ops S o v a ∧ detSeq P ops S K r (a.put o.dst v)

/-- operands are laid by operations that are waited for; nothing is laid twice -/
def detB (ops : Array Oper) : Bool :=
  Region.noSelect ops && (List.range ops.size).all fun i => match ops[i]? with
    | none => true
    | some o => o.after.all (fun e => !Region.binds .any e || decide (e.on < i)) &&
      (List.range ops.size).all fun j => match (ops[j]?).bind (·.dst) with
        | none => true
        | some d => (!(o.looksAt ops).contains d || o.after.any fun e => Region.binds .any e && e.on == j) && (j == i || o.dst != some d)

structure DetB (ops : Array Oper) : Prop where
  sel : ∀ (j : Nat) (o : Oper) cs b, ops[j]? = some o → o.op ≠ .select cs b
  up : ∀ (i : Nat) (o : Oper) e, ops[i]? = some o → e ∈ o.after → Region.binds .any e = true → e.on < i
  look : ∀ (i : Nat) (o : Oper) (j : Nat) (oj : Oper) (d : Tmp), ops[i]? = some o → ops[j]? = some oj → oj.dst = some d → d ∈ o.looksAt ops → ∃ e ∈ o.after, Region.binds .any e = true ∧ e.on = j
  once : ∀ (i : Nat) (o : Oper) (j : Nat) (oj : Oper) (d : Tmp), ops[i]? = some o → ops[j]? = some oj → oj.dst = some d → o.dst = some d → j = i
theorem DetB.of (h : detB ops = true) : DetB ops := by
  simp only [detB, Bool.and_eq_true, List.all_eq_true, List.mem_range] at h
  have lt : ∀ {i : Nat} {o : Oper}, ops[i]? = some o → i < ops.size := fun hi => (Array.getElem?_eq_some_iff.1 hi).1
  refine ⟨Region.noSelect_spec h.1, fun i o e hi he hb => ?_, fun i o j oj d hi hj hd hl => ?_, fun i o j oj d hi hj hd ho => ?_⟩
  · have h1 := h.2 i (lt hi)
    rw [hi] at h1
    simp only [Bool.and_eq_true, Array.all_eq_true'] at h1
    have := h1.1 e he
    rw [hb] at this
    simpa using this
  · have h1 := h.2 i (lt hi)
    rw [hi] at h1
    simp only [Bool.and_eq_true, List.all_eq_true, List.mem_range] at h1
    have h2 := h1.2 j (lt hj)
    rw [hj] at h2
    simp only [Option.bind_some, hd, Bool.and_eq_true, Bool.or_eq_true] at h2
    rcases h2.1 with h3 | h3
    · rw [List.contains_iff_mem.2 hl] at h3
      cases h3
    · simp only [Array.any_eq_true'] at h3
      obtain ⟨e, he, h4⟩ := h3
      rw [Bool.and_eq_true, beq_iff_eq] at h4
      exact ⟨e, he, h4⟩
  · have h1 := h.2 i (lt hi)
    rw [hi] at h1
    simp only [Bool.and_eq_true, List.all_eq_true, List.mem_range] at h1
    have h2 := h1.2 j (lt hj)
    rw [hj] at h2
    simp only [Option.bind_some, hd, Bool.and_eq_true, Bool.or_eq_true, beq_iff_eq] at h2
    rcases h2.2 with h3 | h3
    · exact h3
    · rw [ho] at h3
      simp at h3

theorem eval_agree {a b : Act} {x : Operand} (h : ∀ t, x = .tmp t → a.tmps[t]? = b.tmps[t]?) : a.eval x = b.eval x := by
  cases x with
  | tmp t => simp [Act.eval, h t rfl]
  | _ => rfl
theorem looks_agree {o : Oper} {a b : Act} (hs : ∀ cs b, o.op ≠ .select cs b) (h : ∀ d, d ∈ o.looksAt ops → a.tmps[d]? = b.tmps[d]?) : execOp a.eval o = execOp b.eval o ∧ Region.wanted o (yielded ops a.tmps) = Region.wanted o (yielded ops b.tmps) := by
  refine ⟨execOp_congr o hs fun x hx => eval_agree fun t ht => h t ?_, ?_⟩
  · subst ht
    exact List.mem_append_left _ (List.mem_filterMap.2 ⟨.tmp t, by simpa using hx, rfl⟩)
  · unfold Region.wanted
    cases hg : o.guard with
    | none => rfl
    | some gw =>
      obtain ⟨g, want⟩ := gw
      have hy : yielded ops a.tmps g = yielded ops b.tmps g := by
        unfold yielded
        cases ht : (ops[g]?).bind (·.dst) with
        | none => rfl
        | some t =>
          have := h t (List.mem_append_right _ (by simp [hg, ht]))
          simp [this]
      simp only [hy]
theorem detOp_agree {o : Oper} {v : Value} {a b : Act} (hs : ∀ cs b, o.op ≠ .select cs b) (h : ∀ d, d ∈ o.looksAt ops → a.tmps[d]? = b.tmps[d]?) (ho : detOp P ops S o v a) : detOp P ops S o v b := by
  obtain ⟨h1, h2⟩ := looks_agree (ops := ops) hs h
  unfold detOp at *
  rwa [h1, h2] at ho

theorem put_size (a : Act) (d : Option Tmp) (v : Value) : (a.put d v).tmps.size = a.tmps.size := by cases d <;> simp [Act.put]
theorem put_defers (a : Act) (d : Option Tmp) (v : Value) : (a.put d v).defers = a.defers := by cases d <;> rfl
theorem put_other (a : Act) {d : Option Tmp} {s : Nat} (v : Value) (h : d ≠ some s) : (a.put d v).tmps[s]? = a.tmps[s]? := by
  cases d with
  | none => rfl
  | some t =>
    have hne : t ≠ s := fun e => h (by rw [e])
    simp [Act.put, Array.getElem?_setIfInBounds_ne hne]
theorem put_same (a : Act) {s : Nat} (v : Value) (h : s < a.tmps.size) : (a.put (some s) v).tmps[s]? = some v := by simp [Act.put, h]

/-- what the chain says of the activation behind it -/
theorem det_end (hB : DetB ops) {K : Act → Prop} : ∀ (m i : Nat) (a : Act), i + m = ops.size → detSeq P ops S K (List.range' i m) a →
    ∃ aF, K aF ∧ aF.defers = a.defers ∧ aF.tmps.size = a.tmps.size ∧ (∀ s, (∀ j oj, ops[j]? = some oj → i ≤ j → oj.dst ≠ some s) → aF.tmps[s]? = a.tmps[s]?) ∧
      ∀ j oj, ops[j]? = some oj → i ≤ j → ∃ v, detOp P ops S oj v aF ∧ ∀ d, oj.dst = some d → d < aF.tmps.size → aF.tmps[d]? = some v
  | 0, i, a, him, h => ⟨a, h, rfl, rfl, fun _ _ => rfl, fun j oj hj hij => by have := (Array.getElem?_eq_some_iff.1 hj).1; omega⟩
  | m + 1, i, a, him, h => by
    rw [List.range'_succ] at h
    obtain ⟨o, v, hi, hop, hr⟩ := h
    obtain ⟨aF, hK, hd, hz, hs, hall⟩ := det_end hB m (i + 1) _ (by omega) hr
    rw [put_defers] at hd
    rw [put_size] at hz
    refine ⟨aF, hK, hd, hz, fun s hno => ?_, fun j oj hj hij => ?_⟩
    · rw [hs s (fun j oj hj hij => hno j oj hj (by omega)), put_other _ _ (hno i o hi (Nat.le_refl _))]
    · by_cases hji : j = i
      · subst hji
        rw [hi] at hj
        injection hj with hj
        subst hj
        refine ⟨v, detOp_agree (hB.sel _ _ · · hi) (fun d hl => ?_) hop, fun d hdst hlt => ?_⟩
        · have hno : ∀ q oq, ops[q]? = some oq → j ≤ q → oq.dst ≠ some d := fun q oq hq hle he => by
            obtain ⟨e, he1, he2, he3⟩ := hB.look j o q oq d hi hq he hl
            have := hB.up j o e hi he1 he2
            omega
          rw [hs d (fun q oq hq hle => hno q oq hq (by omega)), put_other _ _ (hno j o hi (Nat.le_refl _))]
        · rw [hs d (fun q oq hq hle he => by have := hB.once j o q oq d hi hq he hdst; omega), hdst, put_same _ _ (by rw [← hz]; exact hlt)]
      · exact hall j oj hj (by omega)

theorem count_set_true {listed : Array Bool} {i : Nat} (h : listed.getD i true = false) : i < listed.size ∧ (listed.setIfInBounds i true).toList.count false + 1 = listed.toList.count false := by
  have hlt : i < listed.size := by
    rcases Nat.lt_or_ge i listed.size with h' | h'
    · exact h'
    · simp [Array.getElem?_eq_none h'] at h
  refine ⟨hlt, ?_⟩
  have hv : listed.toList[i]'(by simpa using hlt) = false := by simpa [hlt] using h
  have hpos : 0 < listed.toList.count false := List.count_pos_iff.2 (hv ▸ List.getElem_mem _)
  rw [Array.toList_setIfInBounds, List.count_set (by simpa using hlt), hv, if_pos (by rfl), if_neg (by simp)]
  omega

theorem region_det {id : Nat} {a : Act} {w : World} {l : List Oper} (S : World → Prop) (is : List Nat) (his : List.range' 0 l.toArray.size = is) (hm : P.follows .mixedOrders = true) (hB : detB l.toArray = true) (hS : S w.drew)
    (h : detSeq P l.toArray S (fun aF => ∀ W, S W → Q .normal aF W) is a) : (Code.region id l.toArray true).wp P Q a w := by
  subst his
  have hD := DetB.of hB
  generalize l.toArray = ops at *
  obtain ⟨aF, hK, hd, hz, hs, hall⟩ := det_end hD ops.size 0 a (by omega) h
  have main : ∀ (k : Nat) (listed : Array Bool) (b : Act) (W : World), listed.size = ops.size → listed.toList.count false = k → S W → b.defers = aF.defers → b.tmps.size = aF.tmps.size →
      (∀ s, (∀ j oj, ops[j]? = some oj → oj.dst = some s → listed.getD j false = true) → b.tmps[s]? = aF.tmps[s]?) → wpAny P .any ops Q k listed b W := by
    have done : ∀ (listed : Array Bool) (b : Act) (W : World), listed.size = ops.size → S W → b.defers = aF.defers → b.tmps.size = aF.tmps.size →
        (∀ s, (∀ j oj, ops[j]? = some oj → oj.dst = some s → listed.getD j false = true) → b.tmps[s]? = aF.tmps[s]?) → Region.ready .any ops listed = [] → Q .normal b W := by
      intro listed b W hsz hSW hbd hbz hbs hnil
      have all : ∀ n i, i < n → i < ops.size → listed.getD i false = true := by
        intro n
        induction n with
        | zero => intro i hi; omega
        | succ n ih =>
          intro i hi hio
          cases hl : listed.getD i false with
          | true => rfl
          | false =>
            exfalso
            have hi' := Array.getElem?_eq_getElem hio
            have hr : i ∈ Region.ready .any ops listed := mem_ready.2 ⟨by
              have hlt : i < listed.size := by omega
              simpa [hlt] using hl, _, hi', fun e he hb => ih e.on (by have := hD.up i _ e hi' he hb; omega) (by have := hD.up i _ e hi' he hb; omega)⟩
            rw [hnil] at hr
            cases hr
      have he : b = aF := by
        obtain ⟨bt, bd⟩ := b
        obtain ⟨ft, fd⟩ := aF
        obtain rfl : bd = fd := hbd
        have : bt = ft := Array.ext_getElem? fun s => hbs s (fun j oj hj _ => all (j + 1) j (by omega) (Array.getElem?_eq_some_iff.1 hj).1)
        rw [this]
      rw [he]
      exact hK W hSW
    intro k
    induction k with
    | zero =>
      intro listed b W hsz hc hSW hbd hbz hbs
      have hnil : Region.ready .any ops listed = [] := by
        cases hr : Region.ready .any ops listed with
        | nil => rfl
        | cons i r =>
          exfalso
          have hi : i ∈ Region.ready .any ops listed := by rw [hr]; exact List.mem_cons_self
          have := (count_set_true (mem_ready.1 hi).1).2
          omega
      exact ⟨hnil, done listed b W hsz hSW hbd hbz hbs hnil⟩
    | succ k ih =>
      intro listed b W hsz hc hSW hbd hbz hbs
      refine ⟨done listed b W hsz hSW hbd hbz hbs, fun i hi => ?_⟩
      obtain ⟨hun, o, ho, hdeps⟩ := mem_ready.1 hi
      obtain ⟨hlt, hcs⟩ := count_set_true hun
      obtain ⟨v, hop, hv⟩ := hall i o ho (Nat.zero_le _)
      have hop' : detOp P ops S o v b := detOp_agree (hD.sel _ _ · · ho) (fun d hl => (hbs d (fun j oj hj hd => by
        obtain ⟨e, he1, he2, he3⟩ := hD.look i o j oj d ho hj hd hl
        rw [← he3]
        exact hdeps e he1 he2)).symm) hop
      have next : ∀ W', S W' → wpAny P .any ops Q k (listed.setIfInBounds i true) (b.put o.dst v) W' := fun W' hW' => by
        refine ih _ _ W' (by rw [Array.size_setIfInBounds]; exact hsz) (by omega) hW' (by rw [put_defers]; exact hbd) (by rw [put_size]; exact hbz) (fun s hw => ?_)
        by_cases hos : o.dst = some s
        · by_cases hsl : s < b.tmps.size
          · rw [hos, put_same _ _ hsl, hv s hos (by rw [← hbz]; exact hsl)]
          · rw [Array.getElem?_eq_none (by rw [put_size]; exact Nat.le_of_not_lt hsl), Array.getElem?_eq_none (by rw [← hbz]; exact Nat.le_of_not_lt hsl)]
        · rw [put_other _ _ hos]
          refine hbs s (fun j oj hj hd => ?_)
          have := hw j oj hj hd
          by_cases hij : i = j
          · subst hij
            rw [ho] at hj
            injection hj with hj
            subst hj
            exact absurd hd hos
          · rwa [getD_set_ne false hij] at this
      unfold wpOp
      simp only [ho]
      unfold detOp at hop'
      split
      · rename_i hw
        rw [if_pos hw] at hop'
        exact .inl (Oper.upon_of_V (hop' W hSW) (fun u W' ⟨hu, hW'⟩ => by rw [hu]; exact next W' hW'))
      · rename_i hw
        rw [if_neg hw] at hop'
        rw [← hop']
        exact next W hSW
  refine wp_region_any hm (main ops.size _ a _ (by simp) (by simp) hS hd.symm hz.symm (fun s hno => ?_))
  rw [hs s (fun j oj hj _ hd => by
    have := hno j oj hj hd
    simp [Array.getD] at this)]

/-! ### the steps -/
theorem det_nil {K : Act → Prop} {a : Act} (h : K a) : detSeq P ops S K [] a := h
theorem det_run {l : List Oper} {K : Act → Prop} {i : Nat} {r : List Nat} {a : Act} {o : Oper} {v : Value} (ho : l[i]? = some o) (hw : Region.wanted o (yielded l.toArray a.tmps) = true)
    (hrun : ∀ W, S W → (execOp a.eval o).run P W = .ok (.value v) W) (h : detSeq P l.toArray S K r (a.put o.dst v)) : detSeq P l.toArray S K (i :: r) a :=
  ⟨o, v, by simpa using ho, by unfold detOp; rw [if_pos hw]; intro W hW; rw [hrun W hW]; exact ⟨rfl, hW⟩, h⟩
theorem det_skip {l : List Oper} {K : Act → Prop} {i : Nat} {r : List Nat} {a : Act} {o : Oper} (ho : l[i]? = some o) (hw : Region.wanted o (yielded l.toArray a.tmps) = false)
    (h : detSeq P l.toArray S K r (a.put o.dst undef)) : detSeq P l.toArray S K (i :: r) a :=
  ⟨o, undef, by simpa using ho, by unfold detOp; rw [if_neg (by rw [hw]; exact Bool.false_ne_true)], h⟩
theorem det_call {l : List Oper} {K : Act → Prop} {i : Nat} {r : List Nat} {a : Act} {o : Oper} {f : FuncId} {args : Array Value} (v : Value) (ho : l[i]? = some o) (hw : Region.wanted o (yielded l.toArray a.tmps) = true)
    (hrun : ∀ W, S W → (execOp a.eval o).run P W = .ok (.enter f args) W) (hc : ∀ W, S W → Calls P f args W fun e W' => e = .returned v ∧ S W')
    (h : detSeq P l.toArray S K r (a.put o.dst v)) : detSeq P l.toArray S K (i :: r) a :=
  ⟨o, v, by simpa using ho, by unfold detOp; rw [if_pos hw]; intro W hW; rw [hrun W hW]; exact (hc W hW).mono (fun e W' ⟨he, hS⟩ => ⟨v, he, rfl, hS⟩), h⟩
end
end Go.Proofs.YtpaelngpmbeedaaGreatDoor
/- Of some resources others, in whatever order; and one among them. -/
namespace Go.Proofs.YtpaelngpmbeedaaGreatDoor
open Go.RowKit

/-- one among some, and the others -/
inductive At (X : Res) : List Res → List Res → Prop
  | here {L : List Res} : At X (X :: L) L
  | there {Y : Res} {L R : List Res} : At X L R → At X (Y :: L) (Y :: R)
/-- some among others, in another order; what is left over is let go -/
inductive Sub : List Res → List Res → Prop
  | refl (L : List Res) : Sub L L
  | drop {X : Res} {L L' : List Res} : Sub L L' → Sub (X :: L) L'
  | take {X : Res} {L R L' : List Res} : At X L R → Sub R L' → Sub L (X :: L')
theorem At.idx {X : Res} {L R : List Res} (h : At X L R) : ∃ m : Nat, L[m]? = some X := by
  induction h with
  | here => exact ⟨0, rfl⟩
  | there _ ih => obtain ⟨m, hm⟩ := ih; exact ⟨m + 1, hm⟩
theorem St.under {M0 : Imm} {_X : Res} {L L' : List Res} (hk : ∀ w, St M0 w L → St M0 w L') {w : World} (h : St M0 w L) : St M0 w L' := hk w h
/-- the list in another order -/
theorem St.perm {M0 : Imm} {w : World} {L L' : List Res} (h : St M0 w L) (hp : L.Perm L') : St M0 w L' := by
  obtain ⟨is, hd, hm⟩ : ∃ is : List Nat, is.Nodup ∧ is.map (L[·]?) = L'.map some := by
    suffices ∀ {A B : List Res}, A.Perm B → ∃ is : List Nat, is.Nodup ∧ is.length = A.length ∧ (∀ i ∈ is, i < A.length) ∧ is.map (A[·]?) = B.map some by
      obtain ⟨is, h1, _, _, h2⟩ := this hp
      exact ⟨is, h1, h2⟩
    intro A B hp
    induction hp with
    | nil => exact ⟨[], by simp, rfl, by simp, rfl⟩
    | cons x _ ih =>
      obtain ⟨is, h1, h2, h3, h4⟩ := ih
      refine ⟨0 :: is.map (· + 1), ?_, by simp [h2], ?_, ?_⟩
      · rw [List.nodup_cons]
        exact ⟨by simp, List.Pairwise.map _ (fun a b hab e => hab (by omega)) h1⟩
      · intro i hi
        rcases List.mem_cons.1 hi with rfl | hi
        · simp
        · obtain ⟨j, hj, rfl⟩ := List.mem_map.1 hi
          have := h3 j hj
          simp; omega
      · rw [List.map_cons, List.map_map, List.map_cons, ← h4]
        rfl
    | swap x y l =>
      refine ⟨1 :: 0 :: (List.range l.length).map (· + 2), ?_, by simp, ?_, ?_⟩
      · rw [List.nodup_cons, List.nodup_cons]
        refine ⟨?_, ?_, List.Pairwise.map _ (fun a b hab e => hab (by omega)) List.nodup_range⟩
        · simp
        · simp
      · intro i hi
        simp only [List.mem_cons, List.mem_map, List.mem_range] at hi
        rcases hi with rfl | rfl | ⟨j, hj, rfl⟩
        · simp
        · simp
        · simp; omega
      · rw [List.map_cons, List.map_cons, List.map_map, List.map_cons, List.map_cons]
        congr 2
        apply List.ext_getElem?
        intro i
        by_cases hi : i < l.length
        · simp [List.getElem?_range hi, List.getElem?_eq_getElem hi]
        · rw [List.getElem?_eq_none (by simp; omega), List.getElem?_eq_none (by simp; omega)]
    | trans h1 h2 ih1 ih2 =>
      obtain ⟨is, a1, a2, a3, a4⟩ := ih1
      obtain ⟨js, b1, b2, b3, b4⟩ := ih2
      have hl1 := h1.length_eq
      refine ⟨js.map (fun j => is.getD j 0), ?_, by simp; omega, ?_, ?_⟩
      · refine List.Pairwise.map (R := fun a b => a ≠ b ∧ a < is.length ∧ b < is.length) _ (fun a b hab e => ?_) ?_
        · rw [List.getD_eq_getElem?_getD, List.getD_eq_getElem?_getD, List.getElem?_eq_getElem hab.2.1, List.getElem?_eq_getElem hab.2.2, Option.getD_some, Option.getD_some] at e
          exact (Nat.lt_or_gt_of_ne hab.1).elim (fun h1 => List.pairwise_iff_getElem.1 a1 a b hab.2.1 hab.2.2 h1 e) (fun h1 => List.pairwise_iff_getElem.1 a1 b a hab.2.2 hab.2.1 h1 e.symm)
        · exact List.Pairwise.imp_of_mem (fun ha hb hab => ⟨hab, by have := b3 _ ha; omega, by have := b3 _ hb; omega⟩) b1
      · intro i hi
        obtain ⟨j, hj, rfl⟩ := List.mem_map.1 hi
        have := b3 j hj
        rw [List.getD_eq_getElem?_getD, List.getElem?_eq_getElem (show j < is.length by omega), Option.getD_some]
        exact a3 _ (List.getElem_mem _)
      · rw [List.map_map, ← b4]
        apply List.map_congr_left
        intro j hj
        have hjl := b3 j hj
        have := congrArg (·[j]?) a4
        simp only [List.getElem?_map] at this
        rw [List.getElem?_eq_getElem (show j < is.length by omega), List.getElem?_eq_getElem hjl] at this
        simp only [Option.map_some, Option.some.injEq] at this
        show _[_]? = _
        simp only
        rw [List.getD_eq_getElem?_getD, List.getElem?_eq_getElem (show j < is.length by omega), Option.getD_some, this, List.getElem?_eq_getElem hjl]
  exact h.pickAll is hd hm
theorem At.perm {X : Res} {L R : List Res} (h : At X L R) : L.Perm (X :: R) := by
  induction h with
  | here => exact List.Perm.refl _
  | there _ ih => exact (ih.cons _).trans (List.Perm.swap _ _ _)
theorem Sub.st {L L' : List Res} (h : Sub L L') : ∃ L1, L.Perm (L' ++ L1) := by
  induction h with
  | refl L => exact ⟨[], by simp⟩
  | @drop X L L' _ ih =>
    obtain ⟨L1, h1⟩ := ih
    exact ⟨X :: L1, (h1.cons X).trans List.perm_middle.symm⟩
  | take ha _ ih =>
    obtain ⟨L1, h1⟩ := ih
    exact ⟨L1, ha.perm.trans (h1.cons _)⟩
theorem St.sub {M0 : Imm} {w : World} {L L' : List Res} (h : St M0 w L) (hs : Sub L L') : St M0 w L' := by
  obtain ⟨L1, hp⟩ := hs.st
  have h1 := h.perm hp
  refine h1.pickAll (List.range L'.length) List.nodup_range ?_
  apply List.ext_getElem?
  intro i
  by_cases hi : i < L'.length
  · rw [List.getElem?_map, List.getElem?_range hi, List.getElem?_map, List.getElem?_eq_getElem hi, Option.map_some, Option.map_some, List.getElem?_append_left hi, List.getElem?_eq_getElem hi]
  · rw [List.getElem?_eq_none (by simp; omega), List.getElem?_eq_none (by simp; omega)]
section
variable {M0 : Imm} {w : World} {L R : List Res}
theorem St.blkA {g : Nat} {t : TypeId} {cs : Array Value} (h : St M0 w L) (hi : At (blkR g t cs) L R) : Blk w g t cs := by
  obtain ⟨m, hm⟩ := hi.idx
  exact h.blk m hm
theorem St.getA {Q : World → Prop} (h : St M0 w L) (hi : At (persR Q) L R) : Q w := by
  obtain ⟨m, hm⟩ := hi.idx
  exact h.get m hm
theorem St.copyA {Q : World → Prop} (h : St M0 w L) (hi : At (persR Q) L R) : St M0 w (persR Q :: L) := by
  obtain ⟨m, hm⟩ := hi.idx
  exact h.copy m hm
/-- a cell of a block is written: the cells behind it are given -/
theorem St.put_ {g : Nat} {t : TypeId} {cs : Array Value} (h : St M0 w (blkR g t cs :: L)) (i : Nat) (u : Value) (cs' : Array Value) (e : cs.setIfInBounds i u = cs' := by rfl) : St M0 (w.setCell ⟨g, i, none⟩ u) (blkR g t cs' :: L) := e ▸ h.set_ i u
/-- one to the front -/
theorem St.front {X : Res} (h : St M0 w L) (hi : At X L R) : St M0 w (X :: R) := h.perm hi.perm
end
end Go.Proofs.YtpaelngpmbeedaaGreatDoor
/- A region that draws its order, by resources: each operation takes some, and gives others; whatever order is drawn, at the end all is as if they had been done one behind the other. -/
namespace Go.Proofs.YtpaelngpmbeedaaGreatDoor
open Go.RowKit

/-- what an operation found out when it was done -/
structure Wit where
  A : Option Addr
  n : Nat
  v : Value
instance witI : Inhabited Wit := ⟨⟨none, 0, .bool false⟩⟩
abbrev Env := Nat → Wit
def updE (e : Env) (i : Nat) (x : Wit) : Env := fun k => if k = i then x else e k
theorem updE_self (e : Env) (i : Nat) : updE e i (e i) = e := by
  funext k
  unfold updE
  split
  · rename_i h; rw [h]
  · rfl
/-- a thing that is there from one operation (or from the first) to another one (or to the end) -/
structure RSpec where
  p : Option Nat
  c : Option Nat
  R : Env → Res
def clAt (cl : List (List Nat)) (i : Nat) : List Nat := cl.getD i []
def maskE (cl : List (List Nat)) (p : Option Nat) (e : Env) : Env := match p with
  | none => fun _ => default
  | some i => fun k => if (k == i || (clAt cl i).contains k) = true then e k else default
def madeB (cl : List (List Nat)) (i : Nat) : Option Nat → Bool
  | none => true
  | some p => (clAt cl i).contains p
def laterB (cl : List (List Nat)) (i : Nat) : Option Nat → Bool
  | none => true
  | some c => c == i || (clAt cl c).contains i
def availB (cl : List (List Nat)) (i : Nat) (r : RSpec) : Bool := madeB cl i r.p && laterB cl i r.c
def keptB (cl : List (List Nat)) (i : Nat) (r : RSpec) : Bool := (availB cl i r && r.c != some i) || r.p == some i
def onB (listed : Array Bool) : Option Nat → Bool
  | none => true
  | some p => listed.getD p false
def offB (listed : Array Bool) : Option Nat → Bool
  | none => true
  | some c => !(listed.getD c false)
def liveB (listed : Array Bool) (r : RSpec) : Bool := onB listed r.p && offB listed r.c
/-- the resources of these -/
def resL (rs : List RSpec) (f : RSpec → Bool) (e : Env) : List Res := (rs.filter f).map (·.R e)

section
variable {P : Program} {ops : Array Oper} {Q : Exit → Act → World → Prop} {M0 : Imm} {rs : List RSpec} {cl : List (List Nat)} {L0 : List Res}

/-- whom one waits for -/
def clB (ops : Array Oper) (cl : List (List Nat)) : Bool :=
  (List.range ops.size).all fun i => match ops[i]? with
    | none => true
    | some o => (clAt cl i).all fun k => decide (k < i) && o.after.any fun e => Region.binds .any e && (e.on == k || (clAt cl e.on).contains k)
def rsB (ops : Array Oper) (cl : List (List Nat)) (rs : List RSpec) : Bool :=
  rs.all fun r => (match r.p with | none => true | some p => decide (p < ops.size)) && (match r.c with | none => true | some c => decide (c < ops.size) && madeB cl c r.p)

/-- what is asked of one operation -/
def flowOp (P : Program) (ops : Array Oper) (M0 : Imm) (rs : List RSpec) (cl : List (List Nat)) (i : Nat) (o : Oper) (g : Env → Value) (e : Env) (a : Act) : Prop :=
  if Region.wanted o (yielded ops a.tmps) = true then
    ∀ w L, St M0 w (resL rs (availB cl i) e ++ L) → Oper.uponV P (fun u w' => ∃ x, u = g (updE e i x) ∧ St M0 w' (resL rs (keptB cl i) (updE e i x) ++ L)) ((execOp a.eval o).run P w)
  else g e = undef ∧ rs.all (fun r => r.p != some i && r.c != some i) = true
def flowSeq (P : Program) (ops : Array Oper) (M0 : Imm) (rs : List RSpec) (cl : List (List Nat)) (K : (Env → Act) → Prop) : List Nat → (Env → Act) → Prop
  | [], a => K a
  | i :: r, a => ∃ (o : Oper) (g : Env → Value), ops[i]? = some o ∧ (∀ e, g (maskE cl (some i) e) = g e) ∧ (∀ e, flowOp P ops M0 rs cl i o g e (a e)) ∧ flowSeq P ops M0 rs cl K r (fun e => (a e).put o.dst (g e))

theorem flowOp_agree {i : Nat} {o : Oper} {g : Env → Value} {e : Env} {a b : Act} (hs : ∀ cs b, o.op ≠ .select cs b) (h : ∀ d, d ∈ o.looksAt ops → a.tmps[d]? = b.tmps[d]?) (ho : flowOp P ops M0 rs cl i o g e a) : flowOp P ops M0 rs cl i o g e b := by
  obtain ⟨h1, h2⟩ := looks_agree (ops := ops) hs h
  unfold flowOp at *
  rwa [h1, h2] at ho

theorem flow_end (hB : DetB ops) {K : (Env → Act) → Prop} : ∀ (m i : Nat) (a : Env → Act), i + m = ops.size → flowSeq P ops M0 rs cl K (List.range' i m) a →
    ∃ aF : Env → Act, K aF ∧ (∀ e, (aF e).defers = (a e).defers) ∧ (∀ e, (aF e).tmps.size = (a e).tmps.size) ∧ (∀ e s, (∀ j oj, ops[j]? = some oj → i ≤ j → oj.dst ≠ some s) → (aF e).tmps[s]? = (a e).tmps[s]?) ∧
      ∀ j oj, ops[j]? = some oj → i ≤ j → ∃ g : Env → Value, (∀ e, g (maskE cl (some j) e) = g e) ∧ (∀ e, flowOp P ops M0 rs cl j oj g e (aF e)) ∧ ∀ e d, oj.dst = some d → d < (aF e).tmps.size → (aF e).tmps[d]? = some (g e)
  | 0, i, a, him, h => ⟨a, h, fun _ => rfl, fun _ => rfl, fun _ _ _ => rfl, fun j oj hj hij => by have := (Array.getElem?_eq_some_iff.1 hj).1; omega⟩
  | m + 1, i, a, him, h => by
    rw [List.range'_succ] at h
    obtain ⟨o, g, hi, hg, hop, hr⟩ := h
    obtain ⟨aF, hK, hd, hz, hs, hall⟩ := flow_end hB m (i + 1) _ (by omega) hr
    have hd : ∀ e, (aF e).defers = (a e).defers := fun e => by have := hd e; rwa [put_defers] at this
    have hz : ∀ e, (aF e).tmps.size = (a e).tmps.size := fun e => by have := hz e; rwa [put_size] at this
    refine ⟨aF, hK, hd, hz, fun e s hno => ?_, fun j oj hj hij => ?_⟩
    · rw [hs e s (fun j oj hj hij => hno j oj hj (by omega)), put_other _ _ (hno i o hi (Nat.le_refl _))]
    · by_cases hji : j = i
      · subst hji
        rw [hi] at hj
        injection hj with hj
        subst hj
        refine ⟨g, hg, fun e => flowOp_agree (hB.sel _ _ · · hi) (fun d hl => ?_) (hop e), fun e d hdst hlt => ?_⟩
        · have hno : ∀ q oq, ops[q]? = some oq → j ≤ q → oq.dst ≠ some d := fun q oq hq hle he => by
            obtain ⟨x, he1, he2, he3⟩ := hB.look j o q oq d hi hq he hl
            have := hB.up j o x hi he1 he2
            omega
          rw [hs e d (fun q oq hq hle => hno q oq hq (by omega)), put_other _ _ (hno j o hi (Nat.le_refl _))]
        · rw [hs e d (fun q oq hq hle he => by have := hB.once j o q oq d hi hq he hdst; omega), hdst, put_same _ _ (by rw [← hz]; exact hlt)]
      · exact hall j oj hj (by omega)

theorem filter_parts {α : Type} (p q : α → Bool) (l : List α) : (l.filter p).Perm (l.filter (fun x => p x && q x) ++ l.filter (fun x => p x && !q x)) := by
  induction l with
  | nil => exact List.Perm.refl _
  | cons x r ih =>
    cases hp : p x <;> cases hq : q x
    · simpa [List.filter_cons, hp, hq] using ih
    · simpa [List.filter_cons, hp, hq] using ih
    · simp only [List.filter_cons, hp, hq, Bool.true_and, if_true, Bool.not_false, Bool.false_eq_true, if_false]
      exact (ih.cons x).trans List.perm_middle.symm
    · simp only [List.filter_cons, hp, hq, Bool.true_and, if_true, Bool.not_true, Bool.false_eq_true, if_false, List.cons_append]
      exact ih.cons x
theorem filter_eq {α : Type} {p q : α → Bool} {l : List α} (h : ∀ x ∈ l, p x = q x) : l.filter p = l.filter q := by
  induction l with
  | nil => rfl
  | cons x r ih => rw [List.filter_cons, List.filter_cons, h x (by simp), ih (fun y hy => h y (by simp [hy]))]
theorem resL_eq {f : RSpec → Bool} {e e' : Env} (h : ∀ r ∈ rs, f r = true → r.R e = r.R e') : resL rs f e = resL rs f e' := by
  unfold resL
  exact List.map_congr_left (fun r hr => h r (List.mem_filter.1 hr).1 (List.mem_filter.1 hr).2)
theorem getD_set {l : Array Bool} {i k : Nat} (h : i < l.size) : (l.setIfInBounds i true).getD k false = (l.getD k false || k == i) := by
  by_cases hk : i = k
  · subst hk
    simp [Array.getD, h]
  · rw [getD_set_ne false hk]
    have : (k == i) = false := by simpa using fun e : k = i => hk e.symm
    rw [this, Bool.or_false]

theorem region_flow {id : Nat} {a : Act} {w : World} {l : List Oper} (rs : List RSpec) (cl : List (List Nat)) (is : List Nat) (his : List.range' 0 l.toArray.size = is) (hm : P.follows .mixedOrders = true) (hB : detB l.toArray = true) (hC : clB l.toArray cl = true)
    (hW : rsB l.toArray cl rs = true) (hR : ∀ e, rs.map (fun r => r.R (maskE cl r.p e)) = rs.map (fun r => r.R e)) (hS : St M0 w (resL rs (fun r => r.p.isNone) (fun _ => default) ++ L0))
    (h : flowSeq P l.toArray M0 rs cl (fun aF => ∀ e W, St M0 W (resL rs (fun r => r.c.isNone) e ++ L0) → Q .normal (aF e) W) is (fun _ => a)) : (Code.region id l.toArray true).wp P Q a w := by
  subst his
  have hD := DetB.of hB
  generalize l.toArray = ops at *
  obtain ⟨aF, hK, hd, hz, hs, hall⟩ := flow_end hD ops.size 0 _ (by omega) h
  have hR' : ∀ r ∈ rs, ∀ e, r.R (maskE cl r.p e) = r.R e := fun r hr e => by
    have := List.map_inj_left.1 (hR e) r hr
    exact this
  have hC' : ∀ (i : Nat) (o : Oper), ops[i]? = some o → ∀ k ∈ clAt cl i, k < i ∧ ∃ e ∈ o.after, Region.binds .any e = true ∧ (e.on = k ∨ k ∈ clAt cl e.on) := by
    intro i o hi k hk
    have hlt := (Array.getElem?_eq_some_iff.1 hi).1
    simp only [clB, List.all_eq_true, List.mem_range] at hC
    have h1 := hC i hlt
    rw [hi] at h1
    simp only [List.all_eq_true, Bool.and_eq_true, decide_eq_true_eq, Array.any_eq_true'] at h1
    obtain ⟨h2, e, he, h3, h4⟩ := h1 k hk
    refine ⟨h2, e, he, h3, ?_⟩
    rw [Bool.or_eq_true, beq_iff_eq] at h4
    rcases h4 with h4 | h4
    · exact .inl h4
    · exact .inr (by simpa using h4)
  have hW' : ∀ r ∈ rs, (∀ p, r.p = some p → p < ops.size) ∧ ∀ c, r.c = some c → c < ops.size ∧ madeB cl c r.p = true := by
    intro r hr
    simp only [rsB, List.all_eq_true, Bool.and_eq_true] at hW
    obtain ⟨h1, h2⟩ := hW r hr
    refine ⟨fun p hp => ?_, fun c hc => ?_⟩
    · rw [hp] at h1
      exact of_decide_eq_true h1
    · rw [hc] at h2
      simp only [Bool.and_eq_true, decide_eq_true_eq] at h2
      exact h2
  -- what a change of one operation's word leaves
  have hmask : ∀ (i : Nat) (x : Wit) (p : Option Nat) (e : Env), (∀ k, p = some k → k ≠ i ∧ i ∉ clAt cl k) → maskE cl p (updE e i x) = maskE cl p e := by
    intro i x p e hp
    cases p with
    | none => rfl
    | some k =>
      obtain ⟨h1, h2⟩ := hp k rfl
      funext q
      unfold maskE
      simp only
      split
      · rename_i hq
        unfold updE
        rw [if_neg]
        intro e2
        subst e2
        rw [Bool.or_eq_true, beq_iff_eq] at hq
        rcases hq with hq | hq
        · exact h1 hq.symm
        · exact h2 (by simpa using hq)
      · rfl
  have main : ∀ (k : Nat) (listed : Array Bool) (e : Env) (b : Act) (W : World), listed.size = ops.size → listed.toList.count false = k → (∀ j, listed.getD j false = true → ∀ q ∈ clAt cl j, listed.getD q false = true) → St M0 W (resL rs (liveB listed) e ++ L0) → b.defers = (aF e).defers → b.tmps.size = (aF e).tmps.size →
      (∀ (s : Nat), (∀ (j : Nat) (oj : Oper), ops[j]? = some oj → oj.dst = some s → listed.getD j false = true) → b.tmps[s]? = (aF e).tmps[s]?) → (∀ (s : Nat), (∀ (j : Nat) (oj : Oper), ops[j]? = some oj → oj.dst ≠ some s) → ∀ e', b.tmps[s]? = (aF e').tmps[s]?) → wpAny P .any ops Q k listed b W := by
    have done : ∀ (listed : Array Bool) (e : Env) (b : Act) (W : World), listed.size = ops.size → St M0 W (resL rs (liveB listed) e ++ L0) → b.defers = (aF e).defers → b.tmps.size = (aF e).tmps.size →
        (∀ (s : Nat), (∀ (j : Nat) (oj : Oper), ops[j]? = some oj → oj.dst = some s → listed.getD j false = true) → b.tmps[s]? = (aF e).tmps[s]?) → Region.ready .any ops listed = [] → Q .normal b W := by
      intro listed e b W hsz hSW hbd hbz hbs hnil
      have all : ∀ n i, i < n → i < ops.size → listed.getD i false = true := by
        intro n
        induction n with
        | zero => intro i hi; omega
        | succ n ih =>
          intro i hi hio
          cases hl : listed.getD i false with
          | true => rfl
          | false =>
            exfalso
            have hi' := Array.getElem?_eq_getElem hio
            have hr : i ∈ Region.ready .any ops listed := mem_ready.2 ⟨by
              have hlt : i < listed.size := by omega
              simpa [hlt] using hl, _, hi', fun e he hb => ih e.on (by have := hD.up i _ e hi' he hb; omega) (by have := hD.up i _ e hi' he hb; omega)⟩
            rw [hnil] at hr
            cases hr
      have he : b = aF e := by
        obtain ⟨bt, bd⟩ := b
        cases hf : aF e with
        | mk ft fd =>
          rw [hf] at hbd hbs
          obtain rfl : bd = fd := hbd
          have : bt = ft := Array.ext_getElem? fun s => hbs s (fun j oj hj _ => all (j + 1) j (by omega) (Array.getElem?_eq_some_iff.1 hj).1)
          rw [this]
      rw [he]
      have hl : rs.filter (liveB listed) = rs.filter (fun r => r.c.isNone) := filter_eq (fun r hr => by
        obtain ⟨h1, h2⟩ := hW' r hr
        unfold liveB
        cases hp : r.p with
        | none =>
          cases hc : r.c with
          | none => rfl
          | some c =>
            have := all (c + 1) c (by omega) (h2 c hc).1
            simp only [onB, offB, this]
            rfl
        | some p =>
          have h3 := all (p + 1) p (by omega) (h1 p hp)
          cases hc : r.c with
          | none =>
            simp only [onB, offB, h3]
            rfl
          | some c =>
            have := all (c + 1) c (by omega) (h2 c hc).1
            simp only [onB, offB, this]
            simp)
      unfold resL at hSW
      rw [hl] at hSW
      exact hK e W hSW
    intro k
    induction k with
    | zero =>
      intro listed e b W hsz hc hcl hSW hbd hbz hbs hb0
      have hnil : Region.ready .any ops listed = [] := by
        cases hr : Region.ready .any ops listed with
        | nil => rfl
        | cons i r =>
          exfalso
          have hi : i ∈ Region.ready .any ops listed := by rw [hr]; exact List.mem_cons_self
          have := (count_set_true (mem_ready.1 hi).1).2
          omega
      exact ⟨hnil, done listed e b W hsz hSW hbd hbz hbs hnil⟩
    | succ k ih =>
      intro listed e b W hsz hc hcl hSW hbd hbz hbs hb0
      refine ⟨done listed e b W hsz hSW hbd hbz hbs, fun i hi => ?_⟩
      obtain ⟨hun, o, ho, hdeps⟩ := mem_ready.1 hi
      obtain ⟨hlt, hcs⟩ := count_set_true hun
      have hun' : listed.getD i false = false := by simpa [Array.getD, hlt] using hun
      have hcli : ∀ q ∈ clAt cl i, listed.getD q false = true := fun q hq => by
        obtain ⟨_, x, hx, hb, h1⟩ := hC' i o ho q hq
        have h2 := hdeps x hx hb
        rcases h1 with h1 | h1
        · rwa [h1] at h2
        · exact hcl _ h2 q h1
      have hnot : ∀ j, listed.getD j false = true → j ≠ i ∧ i ∉ clAt cl j := fun j hj => ⟨fun e2 => (by rw [e2, hun'] at hj; cases hj), fun hm => (by have := hcl j hj i hm; rw [hun'] at this; cases this)⟩
      obtain ⟨g, hg, hop, hv⟩ := hall i o ho (Nat.zero_le _)
      have hop' : flowOp P ops M0 rs cl i o g e b := flowOp_agree (hD.sel _ _ · · ho) (fun d hl => (hbs d (fun j oj hj hd => by
        obtain ⟨x, he1, he2, he3⟩ := hD.look i o j oj d ho hj hd hl
        rw [← he3]
        exact hdeps x he1 he2)).symm) (hop e)
      -- the things at hand
      have havail : ∀ r ∈ rs, availB cl i r = true → liveB listed r = true := by
        intro r hr ha
        unfold availB at ha
        unfold liveB
        rw [Bool.and_eq_true] at ha ⊢
        refine ⟨?_, ?_⟩
        · cases hp : r.p with
          | none => rfl
          | some p =>
            have h1 := ha.1
            rw [hp] at h1
            exact hcli p (by simpa [madeB] using h1)
        · cases hc : r.c with
          | none => rfl
          | some c =>
            have h1 := ha.2
            rw [hc] at h1
            simp only [laterB, Bool.or_eq_true, beq_iff_eq] at h1
            show (!(listed.getD c false)) = true
            rcases h1 with h1 | h1
            · rw [h1, hun']; rfl
            · cases hlc : listed.getD c false with
              | false => rfl
              | true =>
                have := hcl c hlc i (by simpa using h1)
                rw [hun'] at this
                cases this
      have hlc : ∀ r ∈ rs, liveB listed r = true → r.c = some i → availB cl i r = true := by
        intro r hr _ hc
        unfold availB
        rw [((hW' r hr).2 i hc).2, hc]
        simp [laterB]
      have hlp : ∀ r, liveB listed r = true → ∀ p, r.p = some p → listed.getD p false = true := fun r hl p hp => by
        unfold liveB at hl
        rw [hp, Bool.and_eq_true] at hl
        exact hl.1
      -- one step on
      have next : ∀ (x : Wit) (W' : World), St M0 W' (resL rs (keptB cl i) (updE e i x) ++ (resL rs (fun r => liveB listed r && !availB cl i r) e ++ L0)) → wpAny P .any ops Q k (listed.setIfInBounds i true) (b.put o.dst (g (updE e i x))) W' := fun x W' hN => by
        have hsame : ∀ (j : Nat) (oj : Oper), ops[j]? = some oj → listed.getD j false = true → ∀ d, oj.dst = some d → (aF (updE e i x)).tmps[d]? = (aF e).tmps[d]? := by
          intro j oj hj hlj d hd'
          obtain ⟨gj, hgj, _, hvj⟩ := hall j oj hj (Nat.zero_le _)
          have hsz2 : (aF (updE e i x)).tmps.size = (aF e).tmps.size := (hz _).trans (hz _).symm
          have hgg : gj (updE e i x) = gj e := by rw [← hgj, hmask i x (some j) e (fun q hq => by injection hq with hq; subst hq; exact hnot _ hlj), hgj]
          by_cases hdl : d < (aF e).tmps.size
          · rw [hvj e d hd' hdl, hvj _ d hd' (by rw [hsz2]; exact hdl), hgg]
          · rw [Array.getElem?_eq_none (by rw [hsz2]; exact Nat.le_of_not_lt hdl), Array.getElem?_eq_none (Nat.le_of_not_lt hdl)]
        refine ih (listed.setIfInBounds i true) (updE e i x) _ W' (by rw [Array.size_setIfInBounds]; exact hsz) (by omega) ?_ ?_ ?_ ?_ (fun s hw => ?_) (fun s hw e' => ?_)
        · intro j hj q hq
          rw [getD_set hlt, Bool.or_eq_true, beq_iff_eq] at hj
          rw [getD_set hlt]
          rcases hj with hj | hj
          · rw [hcl j hj q hq, Bool.true_or]
          · subst hj
            rw [hcli q hq, Bool.true_or]
        · refine hN.perm ?_
          rw [← List.append_assoc]
          refine List.Perm.append_right _ ?_
          have e1 : resL rs (fun r => liveB listed r && !availB cl i r) e = resL rs (fun r => liveB listed r && !availB cl i r) (updE e i x) := resL_eq (fun r hr hl => by
            rw [Bool.and_eq_true] at hl
            rw [← hR' r hr e, ← hR' r hr (updE e i x), hmask i x r.p e (fun q hq => hnot _ (hlp r hl.1 q hq))])
          rw [e1]
          unfold resL
          rw [← List.map_append]
          refine List.Perm.map _ ?_
          have e2 : rs.filter (liveB (listed.setIfInBounds i true)) = rs.filter (fun r => (liveB listed r && r.c != some i) || r.p == some i) := filter_eq (fun r hr => by
            unfold liveB
            have h1 : onB (listed.setIfInBounds i true) r.p = (onB listed r.p || r.p == some i) := by
              cases r.p with
              | none => rfl
              | some p => simp only [onB, getD_set hlt]; rfl
            have h2 : offB (listed.setIfInBounds i true) r.c = (offB listed r.c && r.c != some i) := by
              cases r.c with
              | none => rfl
              | some c => simp only [offB, getD_set hlt, Bool.not_or]; rfl
            rw [h1, h2]
            cases hp : r.p == some i with
            | false => rw [Bool.or_false, Bool.or_false, Bool.and_assoc]
            | true =>
              rw [Bool.or_true, Bool.or_true, Bool.true_and, Bool.and_eq_true]
              have hp' : r.p = some i := by simpa using hp
              refine ⟨?_, ?_⟩
              · cases hc : r.c with
                | none => rfl
                | some c =>
                  have h3 := ((hW' r hr).2 c hc).2
                  rw [hp'] at h3
                  show (!(listed.getD c false)) = true
                  cases hl : listed.getD c false with
                  | false => rfl
                  | true =>
                    have := hcl c hl i (by simpa [madeB] using h3)
                    rw [hun'] at this
                    cases this
              · cases hc : r.c == some i with
                | false => rw [bne, hc]; rfl
                | true =>
                  have hc' : r.c = some i := by simpa using hc
                  have h3 := ((hW' r hr).2 i hc').2
                  rw [hp'] at h3
                  have := (hC' i o ho i (by simpa [madeB] using h3)).1
                  omega)
          rw [e2]
          refine List.Perm.symm ((filter_parts _ (keptB cl i) rs).trans ?_)
          refine List.Perm.append (List.Perm.of_eq (filter_eq (fun r hr => ?_))) (List.Perm.of_eq (filter_eq (fun r hr => ?_)))
          · unfold keptB
            cases hp : r.p == some i with
            | true => rw [Bool.or_true, Bool.or_true]; rfl
            | false =>
              rw [Bool.or_false, Bool.or_false]
              cases ha : availB cl i r with
              | true => rw [havail r hr ha, Bool.true_and]; cases (r.c != some i) <;> rfl
              | false => rw [Bool.false_and, Bool.and_false]
          · unfold keptB
            cases hp : r.p == some i with
            | true =>
              rw [Bool.or_true, Bool.or_true]
              have hp' : r.p = some i := by simpa using hp
              cases hl : liveB listed r with
              | false => rfl
              | true =>
                have := hlp r hl i hp'
                rw [hun'] at this
                cases this
            | false =>
              rw [Bool.or_false, Bool.or_false]
              cases hl : liveB listed r with
              | false => rfl
              | true =>
                rw [Bool.true_and, Bool.true_and]
                cases ha : availB cl i r with
                | true => rw [Bool.true_and]; cases (r.c != some i) <;> rfl
                | false =>
                  rw [Bool.false_and]
                  cases hc : r.c == some i with
                  | true =>
                    have := hlc r hr hl (by simpa using hc)
                    rw [ha] at this
                    cases this
                  | false => rw [bne, hc]; rfl
        · rw [put_defers, hbd, hd, hd]
        · rw [put_size, hbz, hz, hz]
        · by_cases hos : o.dst = some s
          · by_cases hsl : s < b.tmps.size
            · rw [hos, put_same _ _ hsl, hv _ s hos (by rw [hz, ← hz e, ← hbz]; exact hsl)]
            · rw [Array.getElem?_eq_none (by rw [put_size]; exact Nat.le_of_not_lt hsl), Array.getElem?_eq_none (by rw [hz, ← hz e, ← hbz]; exact Nat.le_of_not_lt hsl)]
          · rw [put_other _ _ hos]
            have hl' : ∀ (j : Nat) (oj : Oper), ops[j]? = some oj → oj.dst = some s → listed.getD j false = true := fun j oj hj hd' => by
              have := hw j oj hj hd'
              rw [getD_set hlt, Bool.or_eq_true, beq_iff_eq] at this
              rcases this with h1 | h1
              · exact h1
              · subst h1
                rw [ho] at hj
                injection hj with hj
                subst hj
                exact absurd hd' hos
            rw [hbs s hl']
            by_cases hex : ∃ (j : Nat) (oj : Oper), ops[j]? = some oj ∧ oj.dst = some s
            · obtain ⟨j, oj, hj, hd'⟩ := hex
              exact (hsame j oj hj (hl' j oj hj hd') s hd').symm
            · rw [← hbs s hl']
              exact hb0 s (fun j oj hj hd' => hex ⟨j, oj, hj, hd'⟩) _
        · rw [put_other _ _ (hw i o ho)]
          exact hb0 s hw e'
      have hSW2 : St M0 W (resL rs (availB cl i) e ++ (resL rs (fun r => liveB listed r && !availB cl i r) e ++ L0)) := by
        refine hSW.perm ?_
        rw [← List.append_assoc]
        refine List.Perm.append_right _ ?_
        unfold resL
        rw [← List.map_append]
        refine List.Perm.map _ ((filter_parts _ (availB cl i) rs).trans (List.Perm.append_right _ (List.Perm.of_eq (filter_eq (fun r hr => ?_)))))
        cases ha : availB cl i r with
        | true => rw [havail r hr ha, Bool.and_self]
        | false => rw [Bool.and_false]
      unfold wpOp
      simp only [ho]
      unfold flowOp at hop'
      split
      · rename_i hw
        rw [if_pos hw] at hop'
        refine .inl (Oper.upon_of_V (hop' W _ hSW2) (fun u W' ⟨x, hu, hW'⟩ => ?_))
        rw [hu]
        exact next x W' hW'
      · rename_i hw
        rw [if_neg hw] at hop'
        have h1 := next (e i) W (by
          rw [updE_self]
          have hke : resL rs (keptB cl i) e = resL rs (availB cl i) e := by
            unfold resL
            rw [filter_eq (fun r hr => ?_)]
            have h2 := List.all_eq_true.1 hop'.2 r hr
            rw [Bool.and_eq_true] at h2
            unfold keptB
            have h3 : (r.p == some i) = false := by simpa [bne] using h2.1
            rw [h2.2, h3, Bool.and_true, Bool.or_false]
          rw [hke]
          exact hSW2)
        rw [updE_self, hop'.1] at h1
        exact h1
  have hf0 : ∀ k, (Array.replicate ops.size false).getD k false = false := fun k => by
    by_cases hk : k < ops.size
    · simp [Array.getD, hk]
    · simp [Array.getD, hk]
  refine wp_region_any hm (main ops.size _ (fun _ => default) a _ (by simp) (by simp) (fun j hj => by rw [hf0] at hj; cases hj) ?_ (hd _).symm (hz _).symm (fun s hno => ?_) (fun s hno e' => ?_))
  · have : rs.filter (liveB (Array.replicate ops.size false)) = rs.filter (fun r => r.p.isNone) := filter_eq (fun r hr => by
      unfold liveB
      cases r.p with
      | none =>
        cases r.c with
        | none => rfl
        | some c => simp only [onB, offB, hf0]; rfl
      | some p => simp only [onB, hf0]; rfl)
    unfold resL at hS ⊢
    rw [this]
    exact hS.drew
  · rw [hs _ s (fun j oj hj _ hd' => by
      have := hno j oj hj hd'
      rw [hf0] at this
      cases this)]
  · rw [hs e' s (fun j oj hj _ => hno j oj hj)]

/-! ### the steps -/
theorem flow_nil {K : (Env → Act) → Prop} {a : Env → Act} (h : K a) : flowSeq P ops M0 rs cl K [] a := h
/-- one that reads alone -/
theorem flow_run {l : List Oper} {K : (Env → Act) → Prop} {i : Nat} {r : List Nat} {a : Env → Act} {o : Oper} (g : Env → Value) (ho : l[i]? = some o) (hw : ∀ e, Region.wanted o (yielded l.toArray (a e).tmps) = true)
    (hrun : ∀ e w L, St M0 w (resL rs (availB cl i) e ++ L) → (execOp (a e).eval o).run P w = .ok (.value (g e)) w) (hg : ∀ e, g (maskE cl (some i) e) = g e)
    (hk : ∀ e, resL rs (keptB cl i) e = resL rs (availB cl i) e) (hi : ∀ e x, g (updE e i x) = g e) (h : flowSeq P l.toArray M0 rs cl K r (fun e => (a e).put o.dst (g e))) : flowSeq P l.toArray M0 rs cl K (i :: r) a :=
  ⟨o, g, by simpa using ho, hg, fun e => by
    unfold flowOp
    rw [if_pos (hw e)]
    intro w L hS
    rw [hrun e w L hS]
    exact ⟨e i, (hi e (e i)).symm, by rw [updE_self, hk]; exact hS⟩, h⟩
theorem flow_skip {l : List Oper} {K : (Env → Act) → Prop} {i : Nat} {r : List Nat} {a : Env → Act} {o : Oper} (ho : l[i]? = some o) (hw : ∀ e, Region.wanted o (yielded l.toArray (a e).tmps) = false) (hk : rs.all (fun r => r.p != some i && r.c != some i) = true)
    (h : flowSeq P l.toArray M0 rs cl K r (fun e => (a e).put o.dst undef)) : flowSeq P l.toArray M0 rs cl K (i :: r) a :=
  ⟨o, fun _ => undef, by simpa using ho, fun _ => rfl, fun e => by
    unfold flowOp
    rw [if_neg (by rw [hw e]; exact Bool.false_ne_true)]
    exact ⟨rfl, hk⟩, h⟩
/-- one that makes or writes memory -/
theorem flow_do {l : List Oper} {K : (Env → Act) → Prop} {i : Nat} {r : List Nat} {a : Env → Act} {o : Oper} (g : Env → Value) (ho : l[i]? = some o) (hw : ∀ e, Region.wanted o (yielded l.toArray (a e).tmps) = true) (hg : ∀ e, g (maskE cl (some i) e) = g e)
    (hrun : ∀ e w L, St M0 w (resL rs (availB cl i) e ++ L) → ∃ x w', (execOp (a e).eval o).run P w = .ok (.value (g (updE e i x))) w' ∧ St M0 w' (resL rs (keptB cl i) (updE e i x) ++ L)) (h : flowSeq P l.toArray M0 rs cl K r (fun e => (a e).put o.dst (g e))) : flowSeq P l.toArray M0 rs cl K (i :: r) a :=
  ⟨o, g, by simpa using ho, hg, fun e => by
    unfold flowOp
    rw [if_pos (hw e)]
    intro w L hS
    obtain ⟨x, w', h1, h2⟩ := hrun e w L hS
    rw [h1]
    exact ⟨x, rfl, h2⟩, h⟩
/-- one that stores: it has no value -/
theorem flow_call {l : List Oper} {K : (Env → Act) → Prop} {i : Nat} {r : List Nat} {a : Env → Act} {o : Oper} (f : FuncId) (args : Env → Array Value) (g : Env → Value) (ho : l[i]? = some o) (hw : ∀ e, Region.wanted o (yielded l.toArray (a e).tmps) = true) (hg : ∀ e, g (maskE cl (some i) e) = g e)
    (hrun : ∀ e w, (execOp (a e).eval o).run P w = .ok (.enter f (args e)) w)
    (hc : ∀ e w L, St M0 w (resL rs (availB cl i) e ++ L) → Calls P f (args e) w fun u w' => ∃ x, u = .returned (g (updE e i x)) ∧ St M0 w' (resL rs (keptB cl i) (updE e i x) ++ L)) (h : flowSeq P l.toArray M0 rs cl K r (fun e => (a e).put o.dst (g e))) : flowSeq P l.toArray M0 rs cl K (i :: r) a :=
  ⟨o, g, by simpa using ho, hg, fun e => by
    unfold flowOp
    rw [if_pos (hw e)]
    intro w L hS
    rw [hrun e w]
    exact (hc e w L hS).mono (fun u w' ⟨x, hu, h2⟩ => ⟨_, hu, x, rfl, h2⟩), h⟩
/-- one that stores -/
theorem flow_store {l : List Oper} {K : (Env → Act) → Prop} {i : Nat} {r : List Nat} {a : Env → Act} {o : Oper} (t : TypeId) (x y : Operand) (p u : Env → Value) (ho : l[i]? = some o) (hw : ∀ e, Region.wanted o (yielded l.toArray (a e).tmps) = true) (hop : o.op = .store t x y) (hx : ∀ e, (a e).eval x = p e) (hy : ∀ e, (a e).eval y = u e)
    (hrun : ∀ e w L, St M0 w (resL rs (availB cl i) e ++ L) → ∃ w', (Instr.storeAt t (p e) (u e)).run P w = .ok () w' ∧ St M0 w' (resL rs (keptB cl i) e ++ L)) (h : flowSeq P l.toArray M0 rs cl K r (fun e => (a e).put o.dst undef)) : flowSeq P l.toArray M0 rs cl K (i :: r) a :=
  ⟨o, fun _ => undef, by simpa using ho, fun _ => rfl, fun e => by
    unfold flowOp
    rw [if_pos (hw e)]
    intro w L hS
    obtain ⟨w', h1, h2⟩ := hrun e w L hS
    unfold execOp
    simp only [hop, hx, hy, Sem.run_bind, Sem.run_pure, Result.andThen_ok, h1]
    exact ⟨e i, rfl, by rw [updE_self]; exact h2⟩, h⟩
/-- how single operations run -/
theorem exec_append {a : Act} {o : Oper} {w w' : World} {v u v' : Value} {t : TypeId} {s x : Operand} (hop : o.op = .call { callee := .builtin .append, args := #[s, x], argTypes := #[t, t] }) (hs : a.eval s = v) (hx : a.eval x = u)
    (h : (Builtin.append_ #[t, t] o.type #[v, u]).run P w = .ok v' w') : (execOp a.eval o).run P w = .ok (.value v') w' := by
  unfold execOp; simp only [hop, resolve, invoke, builtin, Sem.run_bind, Sem.run_pure, Result.andThen_ok, List.map_toArray, List.map_cons, List.map_nil, hs, hx, h]
theorem exec_buildSlice0 {a : Act} {o : Oper} {w w' : World} {v : Value} {t : TypeId} {len : Nat} (hop : o.op = .buildSlice t len #[]) (h : (Instr.buildSlice t len #[]).run P w = .ok v w') : (execOp a.eval o).run P w = .ok (.value v) w' := by
  unfold execOp; simp only [hop, List.map_toArray, List.map_nil, Sem.run_bind, Sem.run_pure, Result.andThen_ok, h]
theorem exec_buildSlice1 {a : Act} {o : Oper} {w w' : World} {v u : Value} {t : TypeId} {len k : Nat} {x : Operand} (hop : o.op = .buildSlice t len #[(k, x)]) (hx : a.eval x = u) (h : (Instr.buildSlice t len #[(k, u)]).run P w = .ok v w') : (execOp a.eval o).run P w = .ok (.value v) w' := by
  unfold execOp; simp only [hop, hx, List.map_toArray, List.map_cons, List.map_nil, Sem.run_bind, Sem.run_pure, Result.andThen_ok, h]
end
end Go.Proofs.YtpaelngpmbeedaaGreatDoor
/- Slices that grow, as single operations of a region. -/
namespace Go.Proofs.YtpaelngpmbeedaaGreatDoor
open Go.RowKit

section
variable {α : Type} {P : Program} {M0 : Imm} {w : World} {L : List Res} {t e : TypeId} {z : Value} {size bytes : Nat} {R : World → List Value → α → Prop} {A : Option Addr} {q c : Nat} {xs : List α}
/-- a slice without room, made just before -/
theorem St.emptyGrow (h : St M0 w L) (e : TypeId) (size : Nat) (R : World → List Value → α → Prop) : St M0 (w.alloc (.cells #[] e)) (growR e size R (.slice (some ⟨w.heap.size, 0, none⟩) 0 0) [] :: L) := by
  refine St.addEx (f := fun vs => starR (rowR e size (.slice (some ⟨w.heap.size, 0, none⟩) 0 0) ([] : List α).length vs) (persR (fun w => ∀ (i : Nat) x, ([] : List α)[i]? = some x → R w ((vs.drop (i * size)).take size) x))) [] (St.addStar ?_)
  have h1 := h.litRow e size 0 [] (by simp) (by omega) w.heap.size rfl
  exact (h1.pers0 (fun w' _ i x hi => by simp at hi)).swap
/-- one more -/
theorem St.grow1 {cs : List Value} {x : α} (hE : ElemOf P t e z size bytes) (h : St M0 w (growR e size R (.slice A q c) xs :: persR (fun w => R w cs x) :: L)) (ty : TypeId) (a : Addr) (k : Nat) (hc : Sl w Any size (some a) 1 cs) (h1 : ∀ u ∈ cs, u.oneCell' = true) (hl : cs.length = size)
    (hb : (q + 1) * bytes ≤ 140737488355328) (hn : q + 1 ≤ 140737488355328) :
    ∃ A' c' w', (Builtin.append_ #[t, t] ty #[.slice A q c, .slice (some a) 1 k]).run P w = .ok (.slice A' (q + 1) c') w' ∧ St M0 w' (growR e size R (.slice A' (q + 1) c') (xs ++ [x]) :: L) := by
  obtain ⟨vs, hq, hxl, h2⟩ := h.openGrowS
  obtain ⟨v', w', hr, h3⟩ := h2.run_app hE ty (some a) 1 k cs hc h1 hb hn
  obtain ⟨A', c', rfl⟩ := h3.slice
  exact ⟨A', c', w', hr, h3.snocGrow hq hl hxl⟩
/-- all of another one -/
theorem St.growAll {ys : List α} {B : Option Addr} {m k : Nat} {css : Nat → List Value} (hE : ElemOf P t e z size bytes) (h : St M0 w (growR e size R (.slice A q c) xs :: persR (fun w' => RowsC w' size R (.slice B m k) css ys) :: L)) (ty : TypeId) (h1 : ∀ u ∈ flat css m, u.oneCell' = true)
    (hb : (q + m) * bytes ≤ 140737488355328) (hn : q + m ≤ 140737488355328) :
    ∃ A' c' w', (Builtin.append_ #[t, t] ty #[.slice A q c, .slice B m k]).run P w = .ok (.slice A' (q + m) c') w' ∧ St M0 w' (growR e size R (.slice A' (q + m) c') (xs ++ ys) :: L) := by
  obtain ⟨vs, hq, hxl, h2⟩ := h.openGrowS
  obtain ⟨hsl, hm, hmk, _, hcs⟩ := (h2.get 2 rfl).sl hE.hsz
  obtain ⟨v', w', hr, h3⟩ := h2.run_app hE ty B m k (flat css m) hsl h1 hb hn
  obtain ⟨A', c', rfl⟩ := h3.slice
  refine ⟨A', c', w', hr, ?_⟩
  have hlen : (xs ++ ys).length = q + m := by rw [List.length_append, ← hq, ← hm]
  refine St.addEx (f := fun vs => starR (rowR e size (.slice A' (q + m) c') (xs ++ ys).length vs) (persR (fun w => ∀ (i : Nat) x, (xs ++ ys)[i]? = some x → R w ((vs.drop (i * size)).take size) x))) (vs ++ flat css m) (St.addStar ?_)
  rw [hlen]
  refine (h3.dn2.pers2 (fun w' g1 g2 i x hi => ?_)).swap
  by_cases hiq : i < xs.length
  · rw [List.getElem?_append_left hiq] at hi
    have hle : (i + 1) * size ≤ q * size := Nat.mul_le_mul_right _ (by omega)
    rw [Nat.add_mul, Nat.one_mul] at hle
    have := g1 i x hi
    rwa [List.drop_append_of_le_length (by omega), List.take_append_of_le_length (by rw [List.length_drop]; omega)]
  · rw [List.getElem?_append_right (Nat.le_of_not_lt hiq)] at hi
    have hlt := (List.getElem?_eq_some_iff.1 hi).1
    have e1 : i * size = vs.length + (i - xs.length) * size := by
      rw [hxl, ← Nat.add_mul]
      congr 1
      omega
    rw [e1, List.drop_append, List.drop_eq_nil_of_le (by omega), List.nil_append, Nat.add_sub_cancel_left, flat_at hcs (by omega)]
    obtain ⟨A2, c2, _, _, _, h5⟩ := g2
    obtain ⟨_, _, _, _, h6⟩ := h5 _ x hi
    exact h6
end
end Go.Proofs.YtpaelngpmbeedaaGreatDoor
/- make([]byte, k). -/
namespace Go.Proofs.YtpaelngpmbeedaaGreatDoor
open Go.RowKit

theorem made_one (m : Nat) (x : Value) (hx : x.cells = #[x]) : madeCells x.cells m = (List.replicate m x).toArray := by
  rw [hx]
  apply Array.toList_inj.1
  unfold madeCells
  rw [Array.toList_map, Array.toList_range, List.eq_replicate_iff]
  refine ⟨by simp, fun b hb => ?_⟩
  obtain ⟨i, _, rfl⟩ := List.mem_map.1 hb
  simp [Nat.mod_one]
theorem make_b (k : Nat) (hk : k ≤ 100000) (w : World) : (Instr.makeSlice 34 (.int .i64 k) (.int .i64 k)).run Tryz.prog w = .ok (.slice (some ⟨w.heap.size, 0, none⟩) k k) (w.alloc (.cells (bv (List.replicate k 0)).toArray 5)) := by
  obtain ⟨i0, hi0, hz0, hs0, hb0⟩ := info_parts u8_row.hinfo
  have hr := run_make (P := Tryz.prog) (w := w) 34 5 i0 _ Tryz.underlying34 hi0 hz0 .i64 .i64 k k (by omega) (by omega) (by rw [hb0]; omega) (by omega)
  simp only [Int.toNat_natCast] at hr
  rw [hr]
  have e : madeCells (Value.cells (.int .u8 0)) (k * i0.size) = (bv (List.replicate k 0)).toArray := by
    rw [hs0, Nat.mul_one, made_one k (.int .u8 0) rfl]
    simp only [bv, List.map_replicate]
  rw [e]
theorem exec_makeSlice {P : Program} {a : Act} {o : Oper} {w w' : World} {u v v' : Value} {t : TypeId} {x y : Operand} (hop : o.op = .makeSlice t x y) (hx : a.eval x = u) (hy : a.eval y = v) (h : (Instr.makeSlice t u v).run P w = .ok v' w') : (execOp a.eval o).run P w = .ok (.value v') w' := by
  unfold execOp; simp only [hop, hx, hy, Sem.run_bind, Sem.run_pure, Result.andThen_ok, h]
end Go.Proofs.YtpaelngpmbeedaaGreatDoor
/- A whole block stored at once, by resources. -/
namespace Go.Proofs.YtpaelngpmbeedaaGreatDoor
open Go.RowKit

theorem Fr.setRow {w : World} {g : Nat} {F : Nat → Prop} (hF : F g) (cs : Array Value) : Fr F w (w.setRow g cs) := by
  refine ⟨rfl, rfl, rfl, by simp [World.setRow], fun b hlt hb => ?_⟩
  have : b ≠ g := fun e => hb (e ▸ hF)
  simp [World.setRow, Array.getElem?_modify, Ne.symm this]
theorem Blk.setRow {w : World} {g : Nat} {t : TypeId} {cs : Array Value} (h : Blk w g t cs) (cs' : Array Value) : Blk (w.setRow g cs') g t cs' := by
  unfold Blk at h ⊢
  simp [World.setRow, Array.getElem?_modify, h]
/-- a struct, or an array, stored over a whole block -/
theorem St.storeAll {P : Program} {M0 : Imm} {w : World} {L : List Res} {g : Nat} {t ty : TypeId} {cs : Array Value} (h : St M0 w (blkR g t cs :: L)) (cs' : Array Value) (hi : (P.info? ty).map (·.size) = some cs'.size) (ho : cs.size = cs'.size) (h1 : ∀ u ∈ cs'.toList, u.oneCell' = true) :
    ∃ w', (Instr.storeAt ty (.pointer (some ⟨g, 0, none⟩)) (.agg cs')).run P w = .ok () w' ∧ St M0 w' (blkR g t cs' :: L) := by
  refine ⟨w.setRow g cs', ?_, ?_⟩
  · simp only [Instr.storeAt, Instr.sureAddr, Sem.run_bind, Sem.run_pure, Result.andThen]
    exact run_storeVar_row (P := P) w g t ty cs cs' (h.blk 0 rfl) hi ho (Array.all_eq_true_iff_forall_mem.2 (fun v hv => h1 v (by simpa using hv)))
  · obtain ⟨M, F, _, _, hx, _, hk⟩ := h.head
    exact hk _ _ F (Fr.setRow ((hx.1 _).2 rfl) _) (fun _ => ⟨hx.1, hx.2.setRow _⟩) (fun _ hb => .inl hb)
end Go.Proofs.YtpaelngpmbeedaaGreatDoor
