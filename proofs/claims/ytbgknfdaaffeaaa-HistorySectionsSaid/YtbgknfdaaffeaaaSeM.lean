/- History: the sections of what happened (plain). -/
import Derived.Test.YtbgknfdaaffeaaaHiM
import Derived.Test.YtbgknfdaaffeaaaSrM
namespace Go.Proofs.Ytbgknfdaaffeaaa

structure EvM where
  d : Int
  c : Int
  r : Int
  i : Int
  t : Int
  b : List Int
  e : Int
def EvM.good (r : Int) (e : EvM) : Bool := (e.r == r) && (e.t != 0) && (e.e == 0) && decide (5 ≤ e.d) && decide (e.d ≤ 7)
def stepS (s : SecH) (e : EvM) : SecH := if e.d = 5 then ⟨s.t, s.p ++ [⟨e.i, e.b⟩], s.s, s.k⟩ else if e.d = 6 then ⟨s.t, s.p, s.s, s.k ++ [⟨(s.p.length : Nat), e.i, e.b⟩]⟩ else ⟨s.t, s.p, (s.p.length : Nat), s.k⟩
def zeroS (t : Int) : SecH := ⟨t, [], 0, []⟩
def mineE (r t : Int) (e : EvM) : Bool := e.good r && (e.t == t)
def secOf (r t : Int) (l : List EvM) : SecH := (l.filter (mineE r t)).foldl stepS (zeroS t)
theorem stepS_t (s : SecH) (e : EvM) : (stepS s e).t = s.t := by
  unfold stepS
  split
  · rfl
  · split <;> rfl
theorem foldS_t : ∀ (l : List EvM) (s : SecH), (l.foldl stepS s).t = s.t
  | [], _ => rfl
  | e :: l, s => (foldS_t l (stepS s e)).trans (stepS_t s e)
theorem secOf_t (r t : Int) (l : List EvM) : (secOf r t l).t = t := foldS_t _ _
theorem secOf_snoc (r t : Int) (l : List EvM) (e : EvM) : secOf r t (l ++ [e]) = if mineE r t e = true then stepS (secOf r t l) e else secOf r t l := by
  unfold secOf
  rw [List.filter_append, List.foldl_append]
  cases h : mineE r t e with
  | true => rw [List.filter_cons_of_pos h]; rfl
  | false => rw [List.filter_cons_of_neg (by rw [h]; exact Bool.false_ne_true)]; rfl
/-- what is told stays -/
theorem stepS_grow (s : SecH) (e : EvM) : (∃ p, (stepS s e).p = s.p ++ p) ∧ ∃ k, (stepS s e).k = s.k ++ k := by
  unfold stepS
  split
  · exact ⟨⟨_, rfl⟩, [], (List.append_nil _).symm⟩
  · split
    · exact ⟨⟨[], (List.append_nil _).symm⟩, _, rfl⟩
    · exact ⟨⟨[], (List.append_nil _).symm⟩, [], (List.append_nil _).symm⟩
theorem foldS_grow : ∀ (l : List EvM) (s : SecH), (∃ p, (l.foldl stepS s).p = s.p ++ p) ∧ ∃ k, (l.foldl stepS s).k = s.k ++ k
  | [], s => ⟨⟨[], (List.append_nil _).symm⟩, [], (List.append_nil _).symm⟩
  | e :: l, s => by
    obtain ⟨⟨p, hp⟩, k, hk⟩ := foldS_grow l (stepS s e)
    obtain ⟨⟨p', hp'⟩, k', hk'⟩ := stepS_grow s e
    exact ⟨⟨p' ++ p, by show ((l.foldl stepS (stepS s e))).p = _; rw [hp, hp', List.append_assoc]⟩, k' ++ k, by show ((l.foldl stepS (stepS s e))).k = _; rw [hk, hk', List.append_assoc]⟩
theorem secOf_grow (r t : Int) (a b : List EvM) : (∃ p, (secOf r t (a ++ b)).p = (secOf r t a).p ++ p) ∧ ∃ k, (secOf r t (a ++ b)).k = (secOf r t a).k ++ k := by
  unfold secOf
  rw [List.filter_append, List.foldl_append]
  exact foldS_grow _ _
/-! ### the sections -/
def addS : List SecH → EvM → List SecH
  | [], e => [stepS (zeroS e.t) e]
  | s :: l, e => if s.t = e.t then stepS s e :: l else s :: addS l e
def secsM (r : Int) (l : List EvM) : List SecH := l.foldl (fun a e => if e.good r = true then addS a e else a) []
theorem secsM_snoc (r : Int) (l : List EvM) (e : EvM) : secsM r (l ++ [e]) = if e.good r = true then addS (secsM r l) e else secsM r l := by
  unfold secsM
  rw [List.foldl_append]
  rfl
theorem addS_none {e : EvM} : ∀ {l : List SecH}, (∀ s ∈ l, s.t ≠ e.t) → addS l e = l ++ [stepS (zeroS e.t) e]
  | [], _ => rfl
  | s :: l, h => by
    unfold addS
    rw [if_neg (h s (by simp)), addS_none (fun x hx => h x (by simp [hx]))]
    rfl
theorem addS_some {e : EvM} : ∀ {l : List SecH} {k : Nat} {s : SecH}, l[k]? = some s → s.t = e.t → (∀ x ∈ l.take k, x.t ≠ e.t) → addS l e = l.set k (stepS s e)
  | [], k, s, h, _, _ => by simp at h
  | x :: l, 0, s, h, hs, _ => by
    obtain rfl : x = s := by simpa using h
    unfold addS
    rw [if_pos hs]
    rfl
  | x :: l, k + 1, s, h, hs, hn => by
    unfold addS
    rw [if_neg (hn x (by simp)), addS_some (k := k) (by simpa using h) hs (fun y hy => hn y (by simp [hy]))]
    rfl
theorem addS_ts (e : EvM) : ∀ l : List SecH, (addS l e).map SecH.t = if (l.map SecH.t).contains e.t = true then l.map SecH.t else l.map SecH.t ++ [e.t]
  | [] => by simp [addS, stepS_t, zeroS]
  | s :: l => by
    unfold addS
    by_cases h : s.t = e.t
    · rw [if_pos h]
      simp [stepS_t, h]
    · rw [if_neg h, List.map_cons, addS_ts e l]
      have h' : ¬ e.t = s.t := fun x => h x.symm
      by_cases hc : (l.map SecH.t).contains e.t = true
      · rw [if_pos hc, if_pos (by simp [h'] at hc ⊢; exact hc)]
        rfl
      · rw [if_neg hc, if_neg (by simp [h'] at hc ⊢; exact hc)]
        rfl
theorem addS_mem {e : EvM} : ∀ {l : List SecH} {s : SecH}, (l.map SecH.t).Nodup → s ∈ addS l e → (s ∈ l ∧ s.t ≠ e.t) ∨ (s.t = e.t ∧ ((∃ x ∈ l, x.t = e.t ∧ s = stepS x e) ∨ ((∀ x ∈ l, x.t ≠ e.t) ∧ s = stepS (zeroS e.t) e)))
  | [], s, _, h => by
    obtain rfl : s = stepS (zeroS e.t) e := by simpa [addS] using h
    exact .inr ⟨by rw [stepS_t]; rfl, .inr ⟨fun _ hx => absurd hx List.not_mem_nil, rfl⟩⟩
  | x :: l, s, hn, h => by
    rw [List.map_cons, List.nodup_cons] at hn
    unfold addS at h
    by_cases hx : x.t = e.t
    · rw [if_pos hx] at h
      rcases List.mem_cons.1 h with rfl | h
      · exact .inr ⟨by rw [stepS_t]; exact hx, .inl ⟨x, by simp, hx, rfl⟩⟩
      · exact .inl ⟨by simp [h], fun he => hn.1 (List.mem_map.2 ⟨s, h, he.trans hx.symm⟩)⟩
    · rw [if_neg hx] at h
      rcases List.mem_cons.1 h with rfl | h
      · exact .inl ⟨by simp, hx⟩
      · rcases addS_mem hn.2 h with ⟨h1, h2⟩ | ⟨h1, ⟨y, hy, h3, h4⟩ | ⟨h2, h3⟩⟩
        · exact .inl ⟨by simp [h1], h2⟩
        · exact .inr ⟨h1, .inl ⟨y, by simp [hy], h3, h4⟩⟩
        · refine .inr ⟨h1, .inr ⟨fun y hy => ?_, h3⟩⟩
          rcases List.mem_cons.1 hy with rfl | hy
          · exact hx
          · exact h2 y hy
theorem snoc_ind {α : Type} {p : List α → Prop} (h0 : p []) (h1 : ∀ l x, p l → p (l ++ [x])) (l : List α) : p l := by
  have key : ∀ m : List α, p m.reverse := fun m => by
    induction m with
    | nil => exact h0
    | cons x m ih => rw [List.reverse_cons]; exact h1 _ _ ih
  have := key l.reverse
  rwa [List.reverse_reverse] at this
structure SecsOk (r : Int) (l : List EvM) (ss : List SecH) : Prop where
  nd : (ss.map SecH.t).Nodup
  eq : ∀ s ∈ ss, s = secOf r s.t l
  ts : ∀ t, t ∈ ss.map SecH.t ↔ ∃ e ∈ l, e.good r = true ∧ e.t = t
theorem secsM_ok (r : Int) (l : List EvM) : SecsOk r l (secsM r l) := by
  refine snoc_ind (p := fun l => SecsOk r l (secsM r l)) ?_ (fun l e ih => ?_) l
  · exact ⟨List.nodup_nil, fun s h => absurd h List.not_mem_nil, fun t => by simp [secsM]⟩
  · rw [secsM_snoc]
    cases hg : e.good r with
    | false =>
      rw [if_neg Bool.false_ne_true]
      refine ⟨ih.nd, fun s hs => ?_, fun t => ?_⟩
      · rw [secOf_snoc, if_neg (by unfold mineE; rw [hg]; simp)]
        exact ih.eq s hs
      · rw [ih.ts]
        constructor
        · rintro ⟨x, hx, h1⟩
          exact ⟨x, by simp [hx], h1⟩
        · rintro ⟨x, hx, h1, h2⟩
          rcases List.mem_append.1 hx with hx | hx
          · exact ⟨x, hx, h1, h2⟩
          · rw [List.mem_singleton] at hx
            rw [hx, hg] at h1
            cases h1
    | true =>
      rw [if_pos rfl]
      have hts := addS_ts e (secsM r l)
      refine ⟨?_, fun s hs => ?_, fun t => ?_⟩
      · rw [hts]
        split
        · exact ih.nd
        · rename_i hc
          rw [List.nodup_append]
          refine ⟨ih.nd, by simp, fun a ha b hb => ?_⟩
          rw [List.mem_singleton] at hb
          subst hb
          intro he
          subst he
          exact hc (by simpa using ha)
      · rcases addS_mem ih.nd hs with ⟨h1, h2⟩ | ⟨h1, ⟨x, hx, h3, h4⟩ | ⟨h2, h3⟩⟩
        · rw [secOf_snoc, if_neg (by unfold mineE; rw [hg]; simp; exact fun h => h2 h.symm)]
          exact ih.eq s h1
        · rw [secOf_snoc, if_pos (by unfold mineE; rw [hg]; simp; exact h1.symm), h1, ← h3, ← ih.eq x hx]
          exact h4
        · rw [secOf_snoc, if_pos (by unfold mineE; rw [hg]; simp; exact h1.symm), h1]
          have : secOf r e.t l = zeroS e.t := by
            unfold secOf
            rw [List.filter_eq_nil_iff.2]
            · rfl
            · intro y hy hm
              unfold mineE at hm
              rw [Bool.and_eq_true] at hm
              have : e.t ∈ (secsM r l).map SecH.t := (ih.ts e.t).2 ⟨y, hy, hm.1, by simpa using hm.2⟩
              obtain ⟨x, hx, hxt⟩ := List.mem_map.1 this
              exact h2 x hx hxt
          rw [this]
          exact h3
      · rw [hts]
        have key : (∃ x ∈ l ++ [e], x.good r = true ∧ x.t = t) ↔ (∃ x ∈ l, x.good r = true ∧ x.t = t) ∨ t = e.t := by
          constructor
          · rintro ⟨x, hx, h1, h2⟩
            rcases List.mem_append.1 hx with hx | hx
            · exact .inl ⟨x, hx, h1, h2⟩
            · rw [List.mem_singleton] at hx
              subst hx
              exact .inr h2.symm
          · rintro (⟨x, hx, h1, h2⟩ | rfl)
            · exact ⟨x, by simp [hx], h1, h2⟩
            · exact ⟨e, by simp, hg, rfl⟩
        rw [key, ← ih.ts]
        split
        · rename_i hc
          constructor
          · exact .inl
          · rintro (h | rfl)
            · exact h
            · simpa using hc
        · simp
/-- sorted, and each once -/
theorem secs_rise {ss : List SecH} (hn : (ss.map SecH.t).Nodup) (hs : (ss.map SecH.t).Pairwise (· ≤ ·)) {i : Nat} {a b : SecH} (h1 : ss[i]? = some a) (h2 : ss[i + 1]? = some b) : a.t < b.t := by
  have h3 : (ss.map SecH.t)[i]? = some a.t := by rw [List.getElem?_map, h1]; rfl
  have h4 : (ss.map SecH.t)[i + 1]? = some b.t := by rw [List.getElem?_map, h2]; rfl
  obtain ⟨l1, e1⟩ := List.getElem?_eq_some_iff.1 h3
  obtain ⟨l2, e2⟩ := List.getElem?_eq_some_iff.1 h4
  have p1 := List.pairwise_iff_getElem.1 hs i (i + 1) l1 l2 (by omega)
  have p2 := List.pairwise_iff_getElem.1 hn i (i + 1) l1 l2 (by omega)
  rw [e1, e2] at p1
  rw [e1, e2] at p2
  have : a.t ≠ b.t := p2
  omega
/-- how many there are in all -/
theorem count_all (r : Int) (l : List EvM) : ∀ (ts : List Int), ts.Nodup → (∀ e ∈ l, e.good r = true → e.t ∈ ts) → (ts.map fun t => (l.filter (mineE r t)).length).foldl (· + ·) 0 = (l.filter (EvM.good r)).length := by
  intro ts hn hm
  have z0 : ∀ ts : List Int, (ts.map fun _ => (0 : Nat)).sum = 0 := fun ts => by
    induction ts with
    | nil => rfl
    | cons t ts ih => rw [List.map_cons, List.sum_cons, ih]
  have one : ∀ (e : EvM) (l : List EvM), e.good r = true → ∀ ts : List Int, ts.Nodup → e.t ∈ ts → (ts.map fun t => ((e :: l).filter (mineE r t)).length).sum = (ts.map fun t => (l.filter (mineE r t)).length).sum + 1 := fun e l hg ts => by
    induction ts with
    | nil => intro _ h; exact absurd h List.not_mem_nil
    | cons t ts iht =>
      intro hn hin
      rw [List.nodup_cons] at hn
      simp only [List.map_cons, List.sum_cons]
      by_cases he : e.t = t
      · rw [List.filter_cons_of_pos (by unfold mineE; rw [hg]; simp [he]), List.length_cons]
        have : (ts.map fun t => ((e :: l).filter (mineE r t)).length) = ts.map fun t => (l.filter (mineE r t)).length := by
          apply List.map_congr_left
          intro t' ht'
          rw [List.filter_cons_of_neg]
          unfold mineE
          rw [hg]
          simp
          intro h
          rw [he] at h
          subst h
          exact hn.1 ht'
        rw [this]
        omega
      · rw [List.filter_cons_of_neg (by unfold mineE; rw [hg]; simp [he])]
        have := iht hn.2 (by rcases List.mem_cons.1 hin with h | h; exact absurd h he; exact h)
        omega
  have key : ∀ (l : List EvM), (∀ e ∈ l, e.good r = true → e.t ∈ ts) → (ts.map fun t => (l.filter (mineE r t)).length).sum = (l.filter (EvM.good r)).length := by
    intro l
    induction l with
    | nil => intro _; exact z0 ts
    | cons e l ih =>
      intro hm
      have ih := ih (fun x hx => hm x (by simp [hx]))
      cases hg : e.good r with
      | false =>
        rw [List.filter_cons_of_neg (by rw [hg]; exact Bool.false_ne_true), ← ih]
        congr 1
        apply List.map_congr_left
        intro t _
        rw [List.filter_cons_of_neg (by unfold mineE; rw [hg]; simp)]
      | true =>
        rw [List.filter_cons_of_pos hg, List.length_cons, ← ih, one e l hg ts hn (hm e (by simp) hg)]
  rw [← key l hm, List.sum_eq_foldl]
end Go.Proofs.Ytbgknfdaaffeaaa
