/- A region that draws its order, and whose values do not depend on the order: each operation's operands are laid by operations that it waits for; what it reads in memory stays, in every world of a class S, which no operation leaves. -/
import Derived.Test.YtbgknfdaaffeaaaMix
namespace Go.Proofs.Ytbgknfdaaffeaaa
open Go.RowKit

section
variable {P : Program} {ops : Array Oper} {Q : Exit → Act → World → Prop} {S : World → Prop}

/-- what an operation's run hands over, wherever it is put -/
def Oper.uponV (P : Program) (K : Value → World → Prop) : Result Next → Prop
  | .ok (.value v) w' => K v w'
  | .ok .skip w' => K undef w'
  | .ok (.enter f args) w' => Calls P f args w' fun e w'' => ∃ v, e = .returned v ∧ K v w''
  | _ => False
theorem Oper.upon_of_V {o : Oper} {a : Act} {next : Act → World → Prop} {K : Value → World → Prop} {r : Result Next} (h : Oper.uponV P K r) (hn : ∀ v w', K v w' → next (a.put o.dst v) w') : o.upon P a next Q r := by
  cases r with
  | ok n w' =>
    cases n with
    | value v => exact hn _ _ h
    | skip => exact hn _ _ h
    | enter f args => exact Calls.mono h (fun e w'' ⟨v, he, hk⟩ => by subst he; exact hn _ _ hk)
    | _ => exact h.elim
  | halt x w' => exact h.elim
theorem Oper.uponV_mono {K K' : Value → World → Prop} {r : Result Next} (h : Oper.uponV P K r) (hn : ∀ v w', K v w' → K' v w') : Oper.uponV P K' r := by
  cases r with
  | ok n w' =>
    cases n with
    | value v => exact hn _ _ h
    | skip => exact hn _ _ h
    | enter f args => exact Calls.mono h (fun e w'' ⟨v, he, hk⟩ => ⟨v, he, hn _ _ hk⟩)
    | _ => exact h.elim
  | halt x w' => exact h.elim

/-- what is asked of one operation at an activation -/
def detOp (P : Program) (ops : Array Oper) (S : World → Prop) (o : Oper) (v : Value) (a : Act) : Prop :=
  if Region.wanted o (yielded ops a.tmps) = true then ∀ W, S W → Oper.uponV P (fun u W' => u = v ∧ S W') ((execOp a.eval o).run P W) else v = undef
/-- one behind the other, in the text's order -/
def detSeq (P : Program) (ops : Array Oper) (S : World → Prop) (K : Act → Prop) : List Nat → Act → Prop
  | [], a => K a
  | i :: r, a => ∃ o v, ops[i]? = some o ∧ detOp P ops S o v a ∧ detSeq P ops S K r (a.put o.dst v)

/-- operands are laid by operations that are waited for; nothing is laid twice -/
def detB (ops : Array Oper) : Bool :=
  Region.noSelect ops && (List.range ops.size).all fun i => match ops[i]? with
    | none => true
    | some o => o.after.all (fun e => !Region.binds .any e || decide (e.on < i)) &&
      (List.range ops.size).all fun j => match (ops[j]?).bind (·.dst) with
        | none => true
        | some d => (!(o.looksAt ops).contains d || o.after.any fun e => Region.binds .any e && e.on == j) && (j == i || o.dst != some d)

structure DetB (ops : Array Oper) : Prop where
  sel : ∀ (j : Nat) (o : Oper) cs b, ops[j]? = some o → o.op ≠ .select cs b
  up : ∀ (i : Nat) (o : Oper) e, ops[i]? = some o → e ∈ o.after → Region.binds .any e = true → e.on < i
  look : ∀ (i : Nat) (o : Oper) (j : Nat) (oj : Oper) (d : Tmp), ops[i]? = some o → ops[j]? = some oj → oj.dst = some d → d ∈ o.looksAt ops → ∃ e ∈ o.after, Region.binds .any e = true ∧ e.on = j
  once : ∀ (i : Nat) (o : Oper) (j : Nat) (oj : Oper) (d : Tmp), ops[i]? = some o → ops[j]? = some oj → oj.dst = some d → o.dst = some d → j = i
theorem DetB.of (h : detB ops = true) : DetB ops := by
  simp only [detB, Bool.and_eq_true, List.all_eq_true, List.mem_range] at h
  have lt : ∀ {i : Nat} {o : Oper}, ops[i]? = some o → i < ops.size := fun hi => (Array.getElem?_eq_some_iff.1 hi).1
  refine ⟨Region.noSelect_spec h.1, fun i o e hi he hb => ?_, fun i o j oj d hi hj hd hl => ?_, fun i o j oj d hi hj hd ho => ?_⟩
  · have h1 := h.2 i (lt hi)
    rw [hi] at h1
    simp only [Bool.and_eq_true, Array.all_eq_true'] at h1
    have := h1.1 e he
    rw [hb] at this
    simpa using this
  · have h1 := h.2 i (lt hi)
    rw [hi] at h1
    simp only [Bool.and_eq_true, List.all_eq_true, List.mem_range] at h1
    have h2 := h1.2 j (lt hj)
    rw [hj] at h2
    simp only [Option.bind_some, hd, Bool.and_eq_true, Bool.or_eq_true] at h2
    rcases h2.1 with h3 | h3
    · rw [List.contains_iff_mem.2 hl] at h3
      cases h3
    · simp only [Array.any_eq_true'] at h3
      obtain ⟨e, he, h4⟩ := h3
      rw [Bool.and_eq_true, beq_iff_eq] at h4
      exact ⟨e, he, h4⟩
  · have h1 := h.2 i (lt hi)
    rw [hi] at h1
    simp only [Bool.and_eq_true, List.all_eq_true, List.mem_range] at h1
    have h2 := h1.2 j (lt hj)
    rw [hj] at h2
    simp only [Option.bind_some, hd, Bool.and_eq_true, Bool.or_eq_true, beq_iff_eq] at h2
    rcases h2.2 with h3 | h3
    · exact h3
    · rw [ho] at h3
      simp at h3

theorem eval_agree {a b : Act} {x : Operand} (h : ∀ t, x = .tmp t → a.tmps[t]? = b.tmps[t]?) : a.eval x = b.eval x := by
  cases x with
  | tmp t => simp [Act.eval, h t rfl]
  | _ => rfl
theorem looks_agree {o : Oper} {a b : Act} (hs : ∀ cs b, o.op ≠ .select cs b) (h : ∀ d, d ∈ o.looksAt ops → a.tmps[d]? = b.tmps[d]?) : execOp a.eval o = execOp b.eval o ∧ Region.wanted o (yielded ops a.tmps) = Region.wanted o (yielded ops b.tmps) := by
  refine ⟨execOp_congr o hs fun x hx => eval_agree fun t ht => h t ?_, ?_⟩
  · subst ht
    exact List.mem_append_left _ (List.mem_filterMap.2 ⟨.tmp t, by simpa using hx, rfl⟩)
  · unfold Region.wanted
    cases hg : o.guard with
    | none => rfl
    | some gw =>
      obtain ⟨g, want⟩ := gw
      have hy : yielded ops a.tmps g = yielded ops b.tmps g := by
        unfold yielded
        cases ht : (ops[g]?).bind (·.dst) with
        | none => rfl
        | some t =>
          have := h t (List.mem_append_right _ (by simp [hg, ht]))
          simp [this]
      simp only [hy]
theorem detOp_agree {o : Oper} {v : Value} {a b : Act} (hs : ∀ cs b, o.op ≠ .select cs b) (h : ∀ d, d ∈ o.looksAt ops → a.tmps[d]? = b.tmps[d]?) (ho : detOp P ops S o v a) : detOp P ops S o v b := by
  obtain ⟨h1, h2⟩ := looks_agree (ops := ops) hs h
  unfold detOp at *
  rwa [h1, h2] at ho

theorem put_size (a : Act) (d : Option Tmp) (v : Value) : (a.put d v).tmps.size = a.tmps.size := by cases d <;> simp [Act.put]
theorem put_defers (a : Act) (d : Option Tmp) (v : Value) : (a.put d v).defers = a.defers := by cases d <;> rfl
theorem put_other (a : Act) {d : Option Tmp} {s : Nat} (v : Value) (h : d ≠ some s) : (a.put d v).tmps[s]? = a.tmps[s]? := by
  cases d with
  | none => rfl
  | some t =>
    have hne : t ≠ s := fun e => h (by rw [e])
    simp [Act.put, Array.getElem?_setIfInBounds_ne hne]
theorem put_same (a : Act) {s : Nat} (v : Value) (h : s < a.tmps.size) : (a.put (some s) v).tmps[s]? = some v := by simp [Act.put, h]

/-- what the chain says of the activation behind it -/
theorem det_end (hB : DetB ops) {K : Act → Prop} : ∀ (m i : Nat) (a : Act), i + m = ops.size → detSeq P ops S K (List.range' i m) a →
    ∃ aF, K aF ∧ aF.defers = a.defers ∧ aF.tmps.size = a.tmps.size ∧ (∀ s, (∀ j oj, ops[j]? = some oj → i ≤ j → oj.dst ≠ some s) → aF.tmps[s]? = a.tmps[s]?) ∧
      ∀ j oj, ops[j]? = some oj → i ≤ j → ∃ v, detOp P ops S oj v aF ∧ ∀ d, oj.dst = some d → d < aF.tmps.size → aF.tmps[d]? = some v
  | 0, i, a, him, h => ⟨a, h, rfl, rfl, fun _ _ => rfl, fun j oj hj hij => by have := (Array.getElem?_eq_some_iff.1 hj).1; omega⟩
  | m + 1, i, a, him, h => by
    rw [List.range'_succ] at h
    obtain ⟨o, v, hi, hop, hr⟩ := h
    obtain ⟨aF, hK, hd, hz, hs, hall⟩ := det_end hB m (i + 1) _ (by omega) hr
    rw [put_defers] at hd
    rw [put_size] at hz
    refine ⟨aF, hK, hd, hz, fun s hno => ?_, fun j oj hj hij => ?_⟩
    · rw [hs s (fun j oj hj hij => hno j oj hj (by omega)), put_other _ _ (hno i o hi (Nat.le_refl _))]
    · by_cases hji : j = i
      · subst hji
        rw [hi] at hj
        injection hj with hj
        subst hj
        refine ⟨v, detOp_agree (hB.sel _ _ · · hi) (fun d hl => ?_) hop, fun d hdst hlt => ?_⟩
        · have hno : ∀ q oq, ops[q]? = some oq → j ≤ q → oq.dst ≠ some d := fun q oq hq hle he => by
            obtain ⟨e, he1, he2, he3⟩ := hB.look j o q oq d hi hq he hl
            have := hB.up j o e hi he1 he2
            omega
          rw [hs d (fun q oq hq hle => hno q oq hq (by omega)), put_other _ _ (hno j o hi (Nat.le_refl _))]
        · rw [hs d (fun q oq hq hle he => by have := hB.once j o q oq d hi hq he hdst; omega), hdst, put_same _ _ (by rw [← hz]; exact hlt)]
      · exact hall j oj hj (by omega)

theorem count_set_true {listed : Array Bool} {i : Nat} (h : listed.getD i true = false) : i < listed.size ∧ (listed.setIfInBounds i true).toList.count false + 1 = listed.toList.count false := by
  have hlt : i < listed.size := by
    rcases Nat.lt_or_ge i listed.size with h' | h'
    · exact h'
    · simp [Array.getElem?_eq_none h'] at h
  refine ⟨hlt, ?_⟩
  have hv : listed.toList[i]'(by simpa using hlt) = false := by simpa [hlt] using h
  have hpos : 0 < listed.toList.count false := List.count_pos_iff.2 (hv ▸ List.getElem_mem _)
  rw [Array.toList_setIfInBounds, List.count_set (by simpa using hlt), hv, if_pos (by rfl), if_neg (by simp)]
  omega

theorem region_det {id : Nat} {a : Act} {w : World} {l : List Oper} (S : World → Prop) (is : List Nat) (his : List.range' 0 l.toArray.size = is) (hm : P.follows .mixedOrders = true) (hB : detB l.toArray = true) (hS : S w.drew)
    (h : detSeq P l.toArray S (fun aF => ∀ W, S W → Q .normal aF W) is a) : (Code.region id l.toArray true).wp P Q a w := by
  subst his
  have hD := DetB.of hB
  generalize l.toArray = ops at *
  obtain ⟨aF, hK, hd, hz, hs, hall⟩ := det_end hD ops.size 0 a (by omega) h
  have main : ∀ (k : Nat) (listed : Array Bool) (b : Act) (W : World), listed.size = ops.size → listed.toList.count false = k → S W → b.defers = aF.defers → b.tmps.size = aF.tmps.size →
      (∀ s, (∀ j oj, ops[j]? = some oj → oj.dst = some s → listed.getD j false = true) → b.tmps[s]? = aF.tmps[s]?) → wpAny P .any ops Q k listed b W := by
    have done : ∀ (listed : Array Bool) (b : Act) (W : World), listed.size = ops.size → S W → b.defers = aF.defers → b.tmps.size = aF.tmps.size →
        (∀ s, (∀ j oj, ops[j]? = some oj → oj.dst = some s → listed.getD j false = true) → b.tmps[s]? = aF.tmps[s]?) → Region.ready .any ops listed = [] → Q .normal b W := by
      intro listed b W hsz hSW hbd hbz hbs hnil
      have all : ∀ n i, i < n → i < ops.size → listed.getD i false = true := by
        intro n
        induction n with
        | zero => intro i hi; omega
        | succ n ih =>
          intro i hi hio
          cases hl : listed.getD i false with
          | true => rfl
          | false =>
            exfalso
            have hi' := Array.getElem?_eq_getElem hio
            have hr : i ∈ Region.ready .any ops listed := mem_ready.2 ⟨by
              have hlt : i < listed.size := by omega
              simpa [hlt] using hl, _, hi', fun e he hb => ih e.on (by have := hD.up i _ e hi' he hb; omega) (by have := hD.up i _ e hi' he hb; omega)⟩
            rw [hnil] at hr
            cases hr
      have he : b = aF := by
        obtain ⟨bt, bd⟩ := b
        obtain ⟨ft, fd⟩ := aF
        obtain rfl : bd = fd := hbd
        have : bt = ft := Array.ext_getElem? fun s => hbs s (fun j oj hj _ => all (j + 1) j (by omega) (Array.getElem?_eq_some_iff.1 hj).1)
        rw [this]
      rw [he]
      exact hK W hSW
    intro k
    induction k with
    | zero =>
      intro listed b W hsz hc hSW hbd hbz hbs
      have hnil : Region.ready .any ops listed = [] := by
        cases hr : Region.ready .any ops listed with
        | nil => rfl
        | cons i r =>
          exfalso
          have hi : i ∈ Region.ready .any ops listed := by rw [hr]; exact List.mem_cons_self
          have := (count_set_true (mem_ready.1 hi).1).2
          omega
      exact ⟨hnil, done listed b W hsz hSW hbd hbz hbs hnil⟩
    | succ k ih =>
      intro listed b W hsz hc hSW hbd hbz hbs
      refine ⟨done listed b W hsz hSW hbd hbz hbs, fun i hi => ?_⟩
      obtain ⟨hun, o, ho, hdeps⟩ := mem_ready.1 hi
      obtain ⟨hlt, hcs⟩ := count_set_true hun
      obtain ⟨v, hop, hv⟩ := hall i o ho (Nat.zero_le _)
      have hop' : detOp P ops S o v b := detOp_agree (hD.sel _ _ · · ho) (fun d hl => (hbs d (fun j oj hj hd => by
        obtain ⟨e, he1, he2, he3⟩ := hD.look i o j oj d ho hj hd hl
        rw [← he3]
        exact hdeps e he1 he2)).symm) hop
      have next : ∀ W', S W' → wpAny P .any ops Q k (listed.setIfInBounds i true) (b.put o.dst v) W' := fun W' hW' => by
        refine ih _ _ W' (by rw [Array.size_setIfInBounds]; exact hsz) (by omega) hW' (by rw [put_defers]; exact hbd) (by rw [put_size]; exact hbz) (fun s hw => ?_)
        by_cases hos : o.dst = some s
        · by_cases hsl : s < b.tmps.size
          · rw [hos, put_same _ _ hsl, hv s hos (by rw [← hbz]; exact hsl)]
          · rw [Array.getElem?_eq_none (by rw [put_size]; exact Nat.le_of_not_lt hsl), Array.getElem?_eq_none (by rw [← hbz]; exact Nat.le_of_not_lt hsl)]
        · rw [put_other _ _ hos]
          refine hbs s (fun j oj hj hd => ?_)
          have := hw j oj hj hd
          by_cases hij : i = j
          · subst hij
            rw [ho] at hj
            injection hj with hj
            subst hj
            exact absurd hd hos
          · rwa [getD_set_ne false hij] at this
      unfold wpOp
      simp only [ho]
      unfold detOp at hop'
      split
      · rename_i hw
        rw [if_pos hw] at hop'
        exact .inl (Oper.upon_of_V (hop' W hSW) (fun u W' ⟨hu, hW'⟩ => by rw [hu]; exact next W' hW'))
      · rename_i hw
        rw [if_neg hw] at hop'
        rw [← hop']
        exact next W hSW
  refine wp_region_any hm (main ops.size _ a _ (by simp) (by simp) hS hd.symm hz.symm (fun s hno => ?_))
  rw [hs s (fun j oj hj _ hd => by
    have := hno j oj hj hd
    simp [Array.getD] at this)]

/-! ### the steps -/
theorem det_nil {K : Act → Prop} {a : Act} (h : K a) : detSeq P ops S K [] a := h
theorem det_run {l : List Oper} {K : Act → Prop} {i : Nat} {r : List Nat} {a : Act} {o : Oper} {v : Value} (ho : l[i]? = some o) (hw : Region.wanted o (yielded l.toArray a.tmps) = true)
    (hrun : ∀ W, S W → (execOp a.eval o).run P W = .ok (.value v) W) (h : detSeq P l.toArray S K r (a.put o.dst v)) : detSeq P l.toArray S K (i :: r) a :=
  ⟨o, v, by simpa using ho, by unfold detOp; rw [if_pos hw]; intro W hW; rw [hrun W hW]; exact ⟨rfl, hW⟩, h⟩
theorem det_skip {l : List Oper} {K : Act → Prop} {i : Nat} {r : List Nat} {a : Act} {o : Oper} (ho : l[i]? = some o) (hw : Region.wanted o (yielded l.toArray a.tmps) = false)
    (h : detSeq P l.toArray S K r (a.put o.dst undef)) : detSeq P l.toArray S K (i :: r) a :=
  ⟨o, undef, by simpa using ho, by unfold detOp; rw [if_neg (by rw [hw]; exact Bool.false_ne_true)], h⟩
theorem det_call {l : List Oper} {K : Act → Prop} {i : Nat} {r : List Nat} {a : Act} {o : Oper} {f : FuncId} {args : Array Value} (v : Value) (ho : l[i]? = some o) (hw : Region.wanted o (yielded l.toArray a.tmps) = true)
    (hrun : ∀ W, S W → (execOp a.eval o).run P W = .ok (.enter f args) W) (hc : ∀ W, S W → Calls P f args W fun e W' => e = .returned v ∧ S W')
    (h : detSeq P l.toArray S K r (a.put o.dst v)) : detSeq P l.toArray S K (i :: r) a :=
  ⟨o, v, by simpa using ho, by unfold detOp; rw [if_pos hw]; intro W hW; rw [hrun W hW]; exact (hc W hW).mono (fun e W' ⟨he, hS⟩ => ⟨v, he, rfl, hS⟩), h⟩
end
end Go.Proofs.Ytbgknfdaaffeaaa
