/- Redo: what flushes and replays do (plain). -/
import Derived.Test.YtbnjeekhoaapiaaRedoDm
import Derived.Test.YtbnjeekhoaapiaaRedoR
namespace Go.Proofs.Ytbnjeekhoaapiaa
open Go.RowKit

/-! ### running requests of one token -/
/-- requests of region 1 that are done one behind the other: s the next number, n the log's length -/
def okRun (t : Int) : Int → Nat → List RQ → Prop
  | _, _, [] => True
  | s, n, r :: R => r.region = 1 ∧ r.token = t ∧ r.seq = s ∧ ((r.op = 2 ∧ 0 ≤ r.index ∧ r.index < 4 ∧ r.data.length ≤ 24 ∧ okRun t (s + 1) n R) ∨ (r.op = 4 ∧ r.index = 0 ∧ r.data.length ≤ 24 ∧ n < 4 ∧ okRun t (s + 1) (n + 1) R) ∨
      (r.op = 5 ∧ r.data = [] ∧ 0 ≤ r.index ∧ r.index ≤ n ∧ r.index ≤ 255 ∧ okRun t (s + 1) (n - r.index.toNat) R))
def ready (x : Rg) (t s : Int) : Prop := (x.high = t ∧ x.seq = s - 1 ∧ 1 < s) ∨ (x.high < t ∧ s = 1)
theorem next_ready {x : Rg} {t s : Int} {r : RQ} (h : ready x t s) (ht : r.token = t) (hs : r.seq = s) (n : Nat) : Rg.nextA x.high x.seq n r = Rg.next2 n r := by
  unfold Rg.nextA
  rcases h with ⟨h1, h2, h3⟩ | ⟨h1, h2⟩
  · rw [if_neg (by omega), if_neg (by omega), if_neg (by omega), if_neg (by omega)]
  · rw [if_pos (by omega), if_neg (by omega)]
theorem run_one {m : Nat → Rg} {t s : Int} {r : RQ} (h : ready (m 1) t s) (h0 : 0 < t) (ht : r.token = t) (hs : r.seq = s) (hreg : r.region = 1)
    (hop : (r.op = 2 ∧ 0 ≤ r.index ∧ r.index < 4 ∧ r.data.length ≤ 24) ∨ (r.op = 4 ∧ r.index = 0 ∧ r.data.length ≤ 24 ∧ (m 1).log.length < 4) ∨ (r.op = 5 ∧ r.data = [] ∧ 0 ≤ r.index ∧ r.index ≤ (m 1).log.length ∧ r.index ≤ 255)) :
    checkI m r = (true, 0) ∧ doM m r = upd m 1 ((m 1).act r) := by
  have hrt : r.region.toNat = 1 := by rw [hreg]; rfl
  have hd : r.data.length ≤ 24 := by
    rcases hop with h | h | h
    · exact h.2.2.2
    · exact h.2.2.1
    · rw [h.2.1]; simp
  have hw : r.wrong = 0 := by
    unfold RQ.wrong
    rw [if_neg (by omega), if_neg (by omega)]
  have hc : r.changes = true := by
    unfold RQ.changes
    rcases hop with h | h | h <;> rw [h.1] <;> rfl
  have hn2 : Rg.next2 (m 1).log.length r = (true, 0) := by
    unfold Rg.next2
    rw [if_neg (by omega), if_neg (by omega)]
  have hck : checkI m r = (true, 0) := by
    unfold checkI
    rw [if_neg (by rw [hw]; simp), if_neg (by omega), if_neg (by omega), hrt, if_neg (by unfold ready at h; rintro (h1 | ⟨h1, _⟩) <;> omega), if_pos hc]
    unfold Rg.next
    rw [next_ready h ht hs, hn2]
  refine ⟨hck, ?_⟩
  unfold doM
  rw [hck, if_pos ⟨rfl, rfl⟩, hrt]
theorem ready_act {x : Rg} {t s : Int} {r : RQ} (ht : r.token = t) (hs : r.seq = s) (h : ready x t s) : ready (x.act r) t (s + 1) := by
  refine .inl ⟨ht, ?_, ?_⟩
  · show r.seq = s + 1 - 1
    omega
  · rcases h with h | h <;> omega
/-- all of them are OK, and what they do -/
theorem run_all (t : Int) (h0 : 0 < t) : ∀ (R : List RQ) (m : Nat → Rg) (s : Int) (n : Nat), okRun t s n R → ready (m 1) t s → (m 1).log.length = n →
    (∀ k r, R[k]? = some r → (checkI ((R.take k).foldl doM m) r).2 = 0) ∧ R.foldl doM m = (if R = [] then m else upd m 1 (R.foldl Rg.act (m 1)))
  | [], m, _, _, _, _, _ => ⟨fun k r h => by simp at h, by rw [if_pos rfl]; rfl⟩
  | r :: R, m, s, n, hr, hy, hn => by
    obtain ⟨hreg, ht, hs, hop⟩ := hr
    obtain ⟨hck, hdo⟩ := run_one hy h0 ht hs hreg (by
      rcases hop with h | h | h
      · exact .inl ⟨h.1, h.2.1, h.2.2.1, h.2.2.2.1⟩
      · exact .inr (.inl ⟨h.1, h.2.1, h.2.2.1, by omega⟩)
      · exact .inr (.inr ⟨h.1, h.2.1, h.2.2.1, by omega, h.2.2.2.2.1⟩))
    have hy2 : ready (doM m r 1) t (s + 1) := by rw [hdo, upd_at]; exact ready_act ht hs hy
    have hrest : ∃ n', okRun t (s + 1) n' R ∧ (doM m r 1).log.length = n' := by
      rw [hdo, upd_at]
      rcases hop with h | h | h
      · refine ⟨n, h.2.2.2.2, ?_⟩
        show (if r.op = 4 then (m 1).log ++ [r.data] else if r.op = 5 then (m 1).log.drop r.index.toNat else (m 1).log).length = n
        rw [if_neg (by omega), if_neg (by omega)]
        exact hn
      · refine ⟨n + 1, h.2.2.2.2, ?_⟩
        show (if r.op = 4 then (m 1).log ++ [r.data] else if r.op = 5 then (m 1).log.drop r.index.toNat else (m 1).log).length = n + 1
        rw [if_pos h.1, List.length_append, hn]
        rfl
      · refine ⟨n - r.index.toNat, h.2.2.2.2.2, ?_⟩
        show (if r.op = 4 then (m 1).log ++ [r.data] else if r.op = 5 then (m 1).log.drop r.index.toNat else (m 1).log).length = n - r.index.toNat
        rw [if_neg (by omega), if_pos h.1, List.length_drop, hn]
    obtain ⟨n', hr', hn'⟩ := hrest
    obtain ⟨h1, h2⟩ := run_all t h0 R (doM m r) (s + 1) n' hr' hy2 hn'
    refine ⟨?_, ?_⟩
    · intro k q hk
      cases k with
      | zero =>
        obtain rfl : r = q := by simpa using hk
        show (checkI m r).2 = 0
        rw [hck]
      | succ k => exact h1 k q (by simpa using hk)
    · rw [if_neg (by simp)]
      show R.foldl doM (doM m r) = upd m 1 (R.foldl Rg.act ((m 1).act r))
      rw [h2, hdo]
      split
      · rename_i he
        rw [he]
        rfl
      · rw [upd_upd, upd_at]
theorem okRun_take (t : Int) : ∀ (R : List RQ) (s : Int) (n k : Nat), okRun t s n R → okRun t s n (R.take k)
  | [], _, _, k, _ => by rw [List.take_nil]; trivial
  | r :: R, s, n, 0, _ => trivial
  | r :: R, s, n, k + 1, ⟨h1, h2, h3, h4⟩ => by
    refine ⟨h1, h2, h3, ?_⟩
    rcases h4 with h | h | h
    · exact .inl ⟨h.1, h.2.1, h.2.2.1, h.2.2.2.1, okRun_take t R _ _ k h.2.2.2.2⟩
    · exact .inr (.inl ⟨h.1, h.2.1, h.2.2.1, h.2.2.2.1, okRun_take t R _ _ k h.2.2.2.2⟩)
    · exact .inr (.inr ⟨h.1, h.2.1, h.2.2.1, h.2.2.2.1, h.2.2.2.2.1, okRun_take t R _ _ k h.2.2.2.2.2⟩)
/-- the log's length behind requests -/
def logLen : Nat → List RQ → Nat
  | n, [] => n
  | n, r :: R => logLen (if r.op = 4 then n + 1 else if r.op = 5 then n - r.index.toNat else n) R
theorem okRun_append (t : Int) : ∀ (R Q : List RQ) (s : Int) (n : Nat), okRun t s n R → okRun t (s + R.length) (logLen n R) Q → okRun t s n (R ++ Q)
  | [], Q, s, n, _, h => by simpa [logLen] using h
  | r :: R, Q, s, n, ⟨h1, h2, h3, h4⟩, h => by
    have hl : okRun t (s + 1 + R.length) (logLen (if r.op = 4 then n + 1 else if r.op = 5 then n - r.index.toNat else n) R) Q := by
      rw [List.length_cons] at h
      rw [show s + 1 + (R.length : Int) = s + ((R.length + 1 : Nat) : Int) by omega]
      exact h
    refine ⟨h1, h2, h3, ?_⟩
    rcases h4 with h | h | h
    · rw [if_neg (by omega), if_neg (by omega)] at hl
      exact .inl ⟨h.1, h.2.1, h.2.2.1, h.2.2.2.1, okRun_append t R Q _ _ h.2.2.2.2 hl⟩
    · rw [if_pos h.1] at hl
      exact .inr (.inl ⟨h.1, h.2.1, h.2.2.1, h.2.2.2.1, okRun_append t R Q _ _ h.2.2.2.2 hl⟩)
    · rw [if_neg (by omega), if_pos h.1] at hl
      exact .inr (.inr ⟨h.1, h.2.1, h.2.2.1, h.2.2.2.1, h.2.2.2.2.1, okRun_append t R Q _ _ h.2.2.2.2.2 hl⟩)
theorem logLen_append : ∀ (R Q : List RQ) (n : Nat), logLen n (R ++ Q) = logLen (logLen n R) Q
  | [], _, _ => rfl
  | _ :: R, Q, _ => logLen_append R Q _

/-! ### blocks behind writes -/
def app (b : Nat → List Int) (l : List PU) : Nat → List Int := l.foldl (fun b p => upd b p.index.toNat p.data) b
theorem app_cons (b : Nat → List Int) (p : PU) (l : List PU) : app b (p :: l) = app (upd b p.index.toNat p.data) l := rfl
theorem app_append (b : Nat → List Int) (l r : List PU) : app b (l ++ r) = app (app b l) r := List.foldl_append
/-- what is written does not matter before -/
theorem app_same (l : List PU) : ∀ (b c : Nat → List Int) (j : Nat), (b j = c j ∨ ∃ p ∈ l, p.index.toNat = j) → app b l j = app c l j := by
  induction l with
  | nil =>
    intro b c j h
    rcases h with h | ⟨p, hp, _⟩
    · exact h
    · cases hp
  | cons p r ih =>
    intro b c j h
    rw [app_cons, app_cons]
    refine ih _ _ j ?_
    by_cases he : j = p.index.toNat
    · subst he
      exact .inl (by rw [upd_at, upd_at])
    · rcases h with h | ⟨q, hq, hqj⟩
      · exact .inl (by rw [upd_ne _ _ _ _ he, upd_ne _ _ _ _ he]; exact h)
      · rcases List.mem_cons.1 hq with rfl | hq
        · exact absurd hqj.symm he
        · exact .inr ⟨q, hq, hqj⟩
theorem app_untouched (l : List PU) : ∀ (b : Nat → List Int) (j : Nat), (∀ p ∈ l, p.index.toNat ≠ j) → app b l j = b j := by
  induction l with
  | nil => intro b j _; rfl
  | cons p r ih =>
    intro b j h
    rw [app_cons, ih _ j (fun q hq => h q (List.mem_cons_of_mem _ hq)), upd_ne _ _ _ _ (Ne.symm (h p List.mem_cons_self))]
/-- writes done again, from the first one on -/
theorem app_again (b : Nat → List Int) (l : List PU) (k : Nat) : app (app b (l.take k)) l = app b l := by
  funext j
  refine app_same l _ _ j ?_
  by_cases h : ∃ p ∈ l, p.index.toNat = j
  · exact .inr h
  · exact .inl (app_untouched _ _ _ (fun p hp he => h ⟨p, List.mem_of_mem_take hp, he⟩))
theorem app_short {b : Nat → List Int} {l : List PU} (hb : ∀ j, (b j).length ≤ 24) (hl : ∀ p ∈ l, p.data.length ≤ 24) : ∀ j, (app b l j).length ≤ 24 := by
  induction l generalizing b with
  | nil => exact hb
  | cons p r ih =>
    rw [app_cons]
    refine ih (fun j => ?_) (fun q hq => hl q (List.mem_cons_of_mem _ hq))
    unfold upd
    split
    · exact hl p List.mem_cons_self
    · exact hb j
def fine (l : List PU) : Prop := ∀ p ∈ l, p.region = 1 ∧ 0 ≤ p.index ∧ p.index < 4 ∧ p.data.length ≤ 23
theorem fine_recE {x : PU} (h : x.region = 1 ∧ 0 ≤ x.index ∧ x.index < 4 ∧ x.data.length ≤ 23) : recE x = 0 := by
  unfold recE
  rw [if_neg (by omega), if_neg (by omega)]
theorem fine_recs : ∀ (l : List PU), fine l → recsE l = 0
  | [], _ => rfl
  | x :: r, h => by
    unfold recsE
    rw [if_pos (fine_recE (h x List.mem_cons_self))]
    exact fine_recs r (fun p hp => h p (List.mem_cons_of_mem _ hp))
theorem fine_planE (l : List PU) (h : fine l) : planE 1 l = 0 := by
  unfold planE
  rw [if_pos (fine_recs l h), if_neg]
  intro ha
  obtain ⟨x, hx, hn⟩ := List.any_eq_true.1 ha
  rw [(h x hx).1] at hn
  simp at hn
theorem fine_sub {l r : List PU} (h : fine l) (hs : ∀ p ∈ r, p ∈ l) : fine r := fun p hp => h p (hs p hp)
theorem fine_getD {l : List PU} (h : fine l) {k : Nat} (hk : k < l.length) : ∃ x, l[k]? = some x ∧ l.getD k ⟨0, 0, []⟩ = x ∧ (x.region = 1 ∧ 0 ≤ x.index ∧ x.index < 4 ∧ x.data.length ≤ 23) := by
  have hx := List.getElem?_eq_getElem (l := l) (i := k) hk
  exact ⟨_, hx, getD_some hx, h _ (List.mem_of_getElem? hx)⟩
theorem u32_small {x : Int} (h : 0 ≤ x ∧ x ≤ 4294967295) : IntKind.u32.wrap x = x := IntWalk.u32_in _ h
def trims : List RQ → Int
  | [] => 0
  | r :: R => (if r.op = 5 then r.index else 0) + trims R
theorem trims_append : ∀ (R Q : List RQ), trims (R ++ Q) = trims R + trims Q
  | [], Q => by simp [trims]
  | r :: R, Q => by
    show (if r.op = 5 then r.index else 0) + trims (R ++ Q) = (if r.op = 5 then r.index else 0) + trims R + trims Q
    rw [trims_append, Int.add_assoc]
theorem okRun_snoc {t : Int} {R : List RQ} {r : RQ} {s : Int} {n : Nat} (h : okRun t s n R) (hr : okRun t (s + R.length) (logLen n R) [r]) : okRun t s n (R ++ [r]) := okRun_append t R [r] s n h hr
theorem take_succ_map {α : Type} (f : PU → α) {l : List PU} {k : Nat} {x : PU} (h : l[k]? = some x) : (l.take (k + 1)).map f = (l.take k).map f ++ [f x] := by rw [List.take_add_one, h, List.map_append]; rfl
theorem app_take_succ {b : Nat → List Int} {l : List PU} {k : Nat} {x : PU} (h : l[k]? = some x) : app b (l.take (k + 1)) = upd (app b (l.take k)) x.index.toNat x.data := by rw [List.take_add_one, h, app_append]; rfl

/-- the first e requests of a part -/
theorem part_run (t s : Int) (pt : List PU) (hf : fine pt) (h4 : pt.length ≤ 4) (hp : 0 < pt.length) (hs : 0 ≤ s ∧ s ≤ 1000000) : ∀ e, e ≤ 2 * pt.length + 1 →
    okRun t s 0 ((List.range e).map (reqAt 1 t s pt)) ∧ logLen 0 ((List.range e).map (reqAt 1 t s pt)) = (if e ≤ pt.length then e else if e ≤ 2 * pt.length then pt.length else 0) ∧
    trims ((List.range e).map (reqAt 1 t s pt)) = (if e ≤ 2 * pt.length then 0 else (pt.length : Int)) ∧
    ∀ x : Rg, x.log = [] → (((List.range e).map (reqAt 1 t s pt)).foldl Rg.act x).log = (if e ≤ pt.length then (pt.take e).map recB else if e ≤ 2 * pt.length then pt.map recB else []) ∧ (((List.range e).map (reqAt 1 t s pt)).foldl Rg.act x).b = app x.b (pt.take (e - pt.length)) := by
  intro e
  induction e with
  | zero =>
    intro _
    refine ⟨trivial, ?_, ?_, fun x hx => ⟨?_, ?_⟩⟩
    · rw [if_pos (Nat.zero_le _)]; rfl
    · rw [if_pos (Nat.zero_le _)]; rfl
    · rw [if_pos (Nat.zero_le _)]; exact hx
    · rw [Nat.zero_sub]; rfl
  | succ e ih =>
    intro he
    obtain ⟨h1, h2, h3, hx⟩ := ih (by omega)
    rw [range_snoc]
    have hseq : IntKind.u32.wrap (s + e) = s + e := u32_small (by omega)
    have hlen : (((List.range e).map (reqAt 1 t s pt)).length : Int) = e := by simp
    have hlast : ∀ r, logLen 0 ((List.range e).map (reqAt 1 t s pt) ++ [r]) = (if r.op = 4 then logLen 0 ((List.range e).map (reqAt 1 t s pt)) + 1 else if r.op = 5 then logLen 0 ((List.range e).map (reqAt 1 t s pt)) - r.index.toNat else logLen 0 ((List.range e).map (reqAt 1 t s pt))) := fun r => logLen_append _ _ _
    have htr : ∀ r, trims ((List.range e).map (reqAt 1 t s pt) ++ [r]) = trims ((List.range e).map (reqAt 1 t s pt)) + (if r.op = 5 then r.index else 0) := fun r => by rw [trims_append]; show _ + ((if r.op = 5 then r.index else 0) + 0) = _; rw [Int.add_zero]
    have hfo : ∀ (r : RQ) (x : Rg), ((List.range e).map (reqAt 1 t s pt) ++ [r]).foldl Rg.act x = (((List.range e).map (reqAt 1 t s pt)).foldl Rg.act x).act r := fun r x => by rw [List.foldl_append]; rfl
    by_cases c1 : e < pt.length
    · obtain ⟨y, hy, hyd, hyf⟩ := fine_getD hf c1
      have hr : reqAt 1 t s pt e = ⟨4, 1, 0, t, s + e, recB y⟩ := by unfold reqAt; rw [if_pos c1, hseq, hyd]
      rw [hr]
      rw [if_pos (by omega)] at h2
      refine ⟨okRun_snoc h1 ⟨rfl, rfl, ?_, .inr (.inl ⟨rfl, rfl, ?_, by rw [h2]; omega, trivial⟩)⟩, ?_, ?_, fun x hxl => ?_⟩
      · show s + (e : Int) = s + _
        rw [hlen]
      · show (recB y).length ≤ 24
        rw [recE_recB y (fine_recE hyf), List.length_cons]
        omega
      · rw [hlast, if_pos rfl, h2, if_pos (by omega)]
      · rw [htr, h3, if_pos (by omega), if_pos (by omega : e + 1 ≤ 2 * pt.length)]; rfl
      · rw [hfo]
        obtain ⟨g1, g2⟩ := hx x hxl
        refine ⟨?_, ?_⟩
        · show (((List.range e).map (reqAt 1 t s pt)).foldl Rg.act x).log ++ [recB y] = _
          rw [g1, if_pos (by omega), if_pos (by omega), take_succ_map recB hy]
        · show (((List.range e).map (reqAt 1 t s pt)).foldl Rg.act x).b = _
          rw [g2, show e + 1 - pt.length = e - pt.length by omega]
    · by_cases c2 : e < 2 * pt.length
      · obtain ⟨y, hy, hyd, hyf⟩ := fine_getD hf (k := e - pt.length) (by omega)
        have hr : reqAt 1 t s pt e = ⟨2, 1, y.index, t, s + e, y.data⟩ := by unfold reqAt; rw [if_neg c1, if_pos c2, hseq, hyd]
        have hl2 : logLen 0 ((List.range e).map (reqAt 1 t s pt)) = pt.length := by
          rw [h2]
          split
          · omega
          · rw [if_pos (by omega)]
        rw [hr]
        refine ⟨okRun_snoc h1 ⟨rfl, rfl, ?_, .inl ⟨rfl, hyf.2.1, hyf.2.2.1, by show y.data.length ≤ 24; omega, trivial⟩⟩, ?_, ?_, fun x hxl => ?_⟩
        · show s + (e : Int) = s + _
          rw [hlen]
        · rw [hlast]
          show (if (2 : Int) = 4 then _ else if (2 : Int) = 5 then _ else _) = _
          rw [if_neg (by decide), if_neg (by decide), hl2, if_neg (by omega), if_pos (by omega)]
        · rw [htr, h3, if_pos (by omega), if_pos (by omega : e + 1 ≤ 2 * pt.length)]; rfl
        · rw [hfo]
          obtain ⟨g1, g2⟩ := hx x hxl
          refine ⟨?_, ?_⟩
          · show (((List.range e).map (reqAt 1 t s pt)).foldl Rg.act x).log = _
            rw [g1, if_neg (by omega : ¬ e + 1 ≤ pt.length), if_pos (by omega : e + 1 ≤ 2 * pt.length)]
            split
            · rw [List.take_of_length_le (by omega)]
            · rw [if_pos (by omega)]
          · show upd (((List.range e).map (reqAt 1 t s pt)).foldl Rg.act x).b y.index.toNat y.data = _
            rw [g2, show e + 1 - pt.length = (e - pt.length) + 1 by omega, app_take_succ hy]
      · have he2 : e = 2 * pt.length := by omega
        have hr : reqAt 1 t s pt e = ⟨5, 1, pt.length, t, s + e, []⟩ := by unfold reqAt; rw [if_neg c1, if_neg c2, hseq]
        have hl2 : logLen 0 ((List.range e).map (reqAt 1 t s pt)) = pt.length := by rw [h2, if_neg (by omega), if_pos (by omega)]
        rw [hr]
        refine ⟨okRun_snoc h1 ⟨rfl, rfl, ?_, .inr (.inr ⟨rfl, rfl, by show (0 : Int) ≤ (pt.length : Int); omega, by rw [hl2]; exact Int.le_refl _, by show (pt.length : Int) ≤ 255; omega, trivial⟩)⟩, ?_, ?_, fun x hxl => ?_⟩
        · show s + (e : Int) = s + _
          rw [hlen]
        · rw [hlast]
          show (if (5 : Int) = 4 then _ else if (5 : Int) = 5 then _ else _) = _
          rw [if_neg (by decide), if_pos rfl, hl2, if_neg (by omega), if_neg (by omega)]
          show pt.length - ((pt.length : Int)).toNat = 0
          omega
        · rw [htr, h3, if_pos (by omega), if_neg (by omega : ¬ e + 1 ≤ 2 * pt.length)]
          show 0 + (if (5 : Int) = 5 then (pt.length : Int) else 0) = _
          rw [if_pos rfl, Int.zero_add]
        · rw [hfo]
          obtain ⟨g1, g2⟩ := hx x hxl
          refine ⟨?_, ?_⟩
          · show (((List.range e).map (reqAt 1 t s pt)).foldl Rg.act x).log.drop ((pt.length : Int)).toNat = _
            rw [g1, if_neg (by omega), if_pos (by omega), if_neg (by omega), if_neg (by omega), List.drop_of_length_le (by rw [List.length_map]; omega)]
          · show (((List.range e).map (reqAt 1 t s pt)).foldl Rg.act x).b = _
            rw [g2, List.take_of_length_le (by omega), List.take_of_length_le (by omega)]
/-! ### a replay -/
def wAt (t : Int) (l : List PU) (k : Nat) : RQ :=
  if k < l.length then ⟨2, 1, (l.getD k ⟨0, 0, []⟩).index, t, 1 + k, (l.getD k ⟨0, 0, []⟩).data⟩ else ⟨5, 1, l.length, t, 1 + k, []⟩
theorem wAll_list (t : Int) (l : List PU) (hp : 0 < l.length) (h4 : l.length ≤ 1000) : wAll 1 t 1 l = (List.range (l.length + 1)).map (wAt t l) := by
  apply List.ext_getElem?
  intro k
  unfold wAll
  rw [if_pos hp]
  by_cases h1 : k < l.length
  · have hx := List.getElem?_eq_getElem (l := l) (i := k) h1
    rw [List.getElem?_append_left (by rw [wl_length]; exact h1), wl_get, List.getElem?_map, List.getElem?_range (by omega), hx]
    show some (wQ 1 t 1 (0 + k) l[k]) = some (wAt t l k)
    unfold wAt wQ
    rw [if_pos h1, getD_some hx, Nat.zero_add, u32_small (by omega)]
  · rw [List.getElem?_append_right (by rw [wl_length]; omega), wl_length]
    by_cases h3 : k = l.length
    · rw [List.getElem?_map, List.getElem?_range (by omega), show k - l.length = 0 by omega]
      show some (RQ.mk 5 1 l.length t (IntKind.u32.wrap (1 + l.length)) []) = some (wAt t l k)
      unfold wAt
      rw [if_neg h1, u32_small (by omega), h3]
    · rw [List.getElem?_eq_none (by simp; omega), List.getElem?_eq_none (by simp; omega)]
theorem replay_run (t : Int) (l : List PU) (hf : fine l) (h4 : l.length ≤ 100) : ∀ e, e ≤ l.length + 1 →
    okRun t 1 l.length ((List.range e).map (wAt t l)) ∧ logLen l.length ((List.range e).map (wAt t l)) = (if e ≤ l.length then l.length else 0) ∧
    ∀ x : Rg, x.log.length = l.length → (((List.range e).map (wAt t l)).foldl Rg.act x).log = (if e ≤ l.length then x.log else []) ∧ (((List.range e).map (wAt t l)).foldl Rg.act x).b = app x.b (l.take e) := by
  intro e
  induction e with
  | zero =>
    intro _
    refine ⟨trivial, ?_, fun x hx => ⟨?_, rfl⟩⟩
    · rw [if_pos (Nat.zero_le _)]; rfl
    · rw [if_pos (Nat.zero_le _)]; rfl
  | succ e ih =>
    intro he
    obtain ⟨h1, h2, hx⟩ := ih (by omega)
    rw [range_snoc]
    have hlen : (((List.range e).map (wAt t l)).length : Int) = e := by simp
    have hlast : ∀ r, logLen l.length ((List.range e).map (wAt t l) ++ [r]) = (if r.op = 4 then logLen l.length ((List.range e).map (wAt t l)) + 1 else if r.op = 5 then logLen l.length ((List.range e).map (wAt t l)) - r.index.toNat else logLen l.length ((List.range e).map (wAt t l))) := fun r => logLen_append _ _ _
    have hfo : ∀ (r : RQ) (x : Rg), ((List.range e).map (wAt t l) ++ [r]).foldl Rg.act x = (((List.range e).map (wAt t l)).foldl Rg.act x).act r := fun r x => by rw [List.foldl_append]; rfl
    rw [if_pos (by omega)] at h2
    by_cases c1 : e < l.length
    · obtain ⟨y, hy, hyd, hyf⟩ := fine_getD hf c1
      have hr : wAt t l e = ⟨2, 1, y.index, t, 1 + e, y.data⟩ := by unfold wAt; rw [if_pos c1, hyd]
      rw [hr]
      refine ⟨okRun_snoc h1 ⟨rfl, rfl, by rw [hlen], .inl ⟨rfl, hyf.2.1, hyf.2.2.1, by show y.data.length ≤ 24; omega, trivial⟩⟩, ?_, fun x hxl => ?_⟩
      · rw [hlast]
        show (if (2 : Int) = 4 then _ else if (2 : Int) = 5 then _ else _) = _
        rw [if_neg (by decide), if_neg (by decide), h2, if_pos (by omega)]
      · rw [hfo]
        obtain ⟨g1, g2⟩ := hx x hxl
        refine ⟨?_, ?_⟩
        · show (((List.range e).map (wAt t l)).foldl Rg.act x).log = _
          rw [g1, if_pos (by omega), if_pos (by omega)]
        · show upd (((List.range e).map (wAt t l)).foldl Rg.act x).b y.index.toNat y.data = _
          rw [g2, app_take_succ hy]
    · have he2 : e = l.length := by omega
      have hr : wAt t l e = ⟨5, 1, l.length, t, 1 + e, []⟩ := by unfold wAt; rw [if_neg c1]
      rw [hr]
      refine ⟨okRun_snoc h1 ⟨rfl, rfl, by rw [hlen], .inr (.inr ⟨rfl, rfl, by show (0 : Int) ≤ (l.length : Int); omega, by rw [h2]; exact Int.le_refl _, by show (l.length : Int) ≤ 255; omega, trivial⟩)⟩, ?_, fun x hxl => ?_⟩
      · rw [hlast]
        show (if (5 : Int) = 4 then _ else if (5 : Int) = 5 then _ else _) = _
        rw [if_neg (by decide), if_pos rfl, h2, if_neg (by omega)]
        show l.length - ((l.length : Int)).toNat = 0
        omega
      · rw [hfo]
        obtain ⟨g1, g2⟩ := hx x hxl
        refine ⟨?_, ?_⟩
        · show (((List.range e).map (wAt t l)).foldl Rg.act x).log.drop ((l.length : Int)).toNat = _
          rw [g1, if_pos (by omega), if_neg (by omega), List.drop_of_length_le (by omega)]
        · show (((List.range e).map (wAt t l)).foldl Rg.act x).b = _
          rw [g2, List.take_of_length_le (by omega), List.take_of_length_le (by omega)]

theorem act_high (t : Int) : ∀ (R : List RQ) (x : Rg), (∀ r ∈ R, r.token = t) → x.high ≤ t → (R.foldl Rg.act x).high ≤ t
  | [], x, _, h => h
  | r :: R, x, ht, _ => act_high t R (x.act r) (fun q hq => ht q (List.mem_cons_of_mem _ hq)) (by show r.token ≤ t; rw [ht r List.mem_cons_self]; exact Int.le_refl _)
theorem okRun_token (t : Int) : ∀ (R : List RQ) (s : Int) (n : Nat), okRun t s n R → ∀ r ∈ R, r.token = t
  | [], _, _, _, r, h => by cases h
  | q :: R, s, n, ⟨_, h2, _, h4⟩, r, hr => by
    rcases List.mem_cons.1 hr with rfl | hr
    · exact h2
    · rcases h4 with h | h | h
      · exact okRun_token t R _ _ h.2.2.2.2 r hr
      · exact okRun_token t R _ _ h.2.2.2.2 r hr
      · exact okRun_token t R _ _ h.2.2.2.2.2 r hr
/-- a run done to an image: all are OK; region 1 behind it -/
theorem run_image {m : Nat → Rg} {t : Int} {R : List RQ} (h0 : 0 < t) (h : okRun t 1 (m 1).log.length R) (hh : (m 1).high < t) (d : Nat) :
    (∀ k r, k < d → R[k]? = some r → (checkI ((R.take k).foldl doM m) r).2 = 0) ∧ ((R.take d).foldl doM m) 1 = (R.take d).foldl Rg.act (m 1) ∧ (((R.take d).foldl doM m) 1).high ≤ t := by
  have key : ((R.take d).foldl doM m) 1 = (R.take d).foldl Rg.act (m 1) := by
    rw [(run_all t h0 (R.take d) m 1 _ (okRun_take t R 1 _ d h) (.inr ⟨hh, rfl⟩) rfl).2]
    split
    · rename_i he
      rw [he]
      rfl
    · rw [upd_at]
  refine ⟨fun k r _ hk => (run_all t h0 R m 1 _ h (.inr ⟨hh, rfl⟩) rfl).1 k r hk, key, ?_⟩
  rw [key]
  exact act_high t _ _ (fun r hr => okRun_token t R _ _ h r (List.mem_of_mem_take hr)) (by omega)

/-- a replay of a log, done in part -/
theorem replay_image {m : Nat → Rg} {t : Int} {l : List PU} (h0 : 0 < t) (hf : fine l) (h4 : l.length ≤ 4) (hl : (m 1).log = l.map recB) (hh : (m 1).high < t) (d : Nat) :
    (∀ k r, k < d → (wAll 1 t 1 l)[k]? = some r → (checkI (((wAll 1 t 1 l).take k).foldl doM m) r).2 = 0) ∧ (((wAll 1 t 1 l).take d).foldl doM m 1).high ≤ t ∧
    (((wAll 1 t 1 l).take d).foldl doM m 1).b = app (m 1).b (l.take d) ∧ (((wAll 1 t 1 l).take d).foldl doM m 1).log = if d ≤ l.length then l.map recB else [] := by
  have hll : (m 1).log.length = l.length := by rw [hl, List.length_map]
  by_cases hp : 0 < l.length
  · have hw := wAll_list t l hp (by omega)
    have hrun := replay_run t l hf (by omega) (l.length + 1) (Nat.le_refl _)
    rw [hw]
    obtain ⟨h1, h2, h3⟩ := run_image (m := m) (R := (List.range (l.length + 1)).map (wAt t l)) h0 (by rw [hll]; exact hrun.1) hh d
    refine ⟨h1, h3, ?_⟩
    rw [h2, ← List.map_take, List.take_range]
    obtain ⟨_, _, hx⟩ := replay_run t l hf (by omega) (min d (l.length + 1)) (by omega)
    obtain ⟨g1, g2⟩ := hx (m 1) hll
    refine ⟨?_, ?_⟩
    · rw [g2]
      rcases Nat.le_total d (l.length + 1) with h | h
      · rw [Nat.min_eq_left h]
      · rw [Nat.min_eq_right h, List.take_of_length_le (by omega), List.take_of_length_le (by omega)]
    · rw [g1, hl]
      by_cases h : d ≤ l.length
      · rw [if_pos (by omega), if_pos h]
      · rw [if_neg (by omega), if_neg h]
  · have hn : l = [] := List.eq_nil_of_length_eq_zero (by omega)
    subst hn
    have hw : wAll 1 t 1 [] = [] := rfl
    rw [hw, List.take_nil]
    refine ⟨fun k r _ hk => by simp at hk, by show (m 1).high ≤ t; omega, by rw [List.take_nil]; rfl, ?_⟩
    show (m 1).log = _
    rw [hl]
    split <;> rfl
/-- what holds behind some requests of a plan of l -/
structure Half (l : List PU) (b0 : Nat → List Int) (R : List RQ) (y : Rg) (sure k i : Nat) : Prop where
  le : sure + k ≤ l.length
  k4 : k ≤ 4
  ik : i ≤ k
  log : y.log = ((l.drop sure).take k).map recB
  b : y.b = app (app b0 (l.take sure)) (((l.drop sure).take k).take i)
  tr : trims R = sure

theorem plan_run (t : Int) (l : List PU) (hf : fine l) (hl : l.length ≤ 1000) : ∀ j, 4 * j < l.length + 4 →
    (okRun t 1 0 (pQ 1 t 1 l j).2 ∧ logLen 0 (pQ 1 t 1 l j).2 = 0 ∧ (pQ 1 t 1 l j).1 = 1 + ((pQ 1 t 1 l j).2.length : Int) ∧ (pQ 1 t 1 l j).2.length ≤ 9 * j ∧ trims (pQ 1 t 1 l j).2 = (min (4 * j) l.length : Nat)) ∧
    ∀ x : Rg, x.log = [] → (((pQ 1 t 1 l j).2.foldl Rg.act x).log = [] ∧ ((pQ 1 t 1 l j).2.foldl Rg.act x).b = app x.b (l.take (4 * j))) ∧
      ∀ d, ∃ sure k i, Half l x.b ((pQ 1 t 1 l j).2.take d) (((pQ 1 t 1 l j).2.take d).foldl Rg.act x) sure k i := by
  intro j
  induction j with
  | zero =>
    intro _
    refine ⟨⟨trivial, rfl, rfl, Nat.le_refl _, ?_⟩, fun x hx => ⟨⟨hx, rfl⟩, fun d => ⟨0, 0, 0, ?_⟩⟩⟩
    · show (0 : Int) = _
      rw [Nat.mul_zero, Nat.zero_min]
      rfl
    · show Half l x.b (([] : List RQ).take d) ((([] : List RQ).take d).foldl Rg.act x) 0 0 0
      rw [List.take_nil]
      exact ⟨Nat.zero_le _, Nat.zero_le _, Nat.le_refl _, hx, rfl, rfl⟩
  | succ j ih =>
    intro hj
    obtain ⟨⟨h1, h2, h3, h4, h5⟩, hx⟩ := ih (by omega)
    have hpl : ((l.drop (4 * j)).take 4).length = min 4 (l.length - 4 * j) := by rw [List.length_take, List.length_drop]
    have hp0 : 0 < ((l.drop (4 * j)).take 4).length := by omega
    have hp4 : ((l.drop (4 * j)).take 4).length ≤ 4 := by omega
    have hfp : fine ((l.drop (4 * j)).take 4) := fine_sub hf (fun p hp => List.mem_of_mem_drop (List.mem_of_mem_take hp))
    have hst : pQ 1 t 1 l (j + 1) = ((partQ 1 t (pQ 1 t 1 l j).1 ((l.drop (4 * j)).take 4)).1, (pQ 1 t 1 l j).2 ++ (partQ 1 t (pQ 1 t 1 l j).1 ((l.drop (4 * j)).take 4)).2) := rfl
    rw [partQ_list _ _ _ _ hp0, partQ_seq _ _ _ _ hp0] at hst
    have hsm : 0 ≤ (pQ 1 t 1 l j).1 ∧ (pQ 1 t 1 l j).1 ≤ 1000000 := by omega
    have hrun := part_run t (pQ 1 t 1 l j).1 ((l.drop (4 * j)).take 4) hfp hp4 hp0 hsm
    have hmin : l.take (4 * (j + 1)) = l.take (4 * j) ++ (l.drop (4 * j)).take 4 := by rw [show 4 * (j + 1) = 4 * j + 4 by omega, List.take_add]
    have hptk : ∀ e, e ≤ ((l.drop (4 * j)).take 4).length → ((l.drop (4 * j)).take 4).take e = (l.drop (4 * j)).take e := fun e he => by rw [List.take_take, Nat.min_eq_left (by omega)]
    rw [hst]
    simp only
    generalize hA : (pQ 1 t 1 l j).2 = A at *
    generalize hs : (pQ 1 t 1 l j).1 = s at *
    generalize hpt : (l.drop (4 * j)).take 4 = pt at *
    obtain ⟨f1, f2, f3, fx⟩ := hrun (2 * pt.length + 1) (Nat.le_refl _)
    rw [if_neg (by omega), if_neg (by omega)] at f2
    rw [if_neg (by omega)] at f3
    refine ⟨⟨okRun_append t A _ 1 0 h1 (by rw [h2, ← h3]; exact f1), by rw [logLen_append, h2, f2], ?_, ?_, ?_⟩, fun x hxl => ?_⟩
    · rw [u32_small (by omega), List.length_append, List.length_map, List.length_range]
      omega
    · rw [List.length_append, List.length_map, List.length_range]
      omega
    · rw [trims_append, h5, f3]
      omega
    · obtain ⟨⟨g1, g2⟩, g3⟩ := hx x hxl
      refine ⟨?_, fun d => ?_⟩
      · rw [List.foldl_append]
        obtain ⟨q1, q2⟩ := fx (A.foldl Rg.act x) g1
        rw [if_neg (by omega), if_neg (by omega)] at q1
        refine ⟨q1, ?_⟩
        rw [q2, g2, List.take_of_length_le (l := pt) (by omega), hmin, app_append]
      · by_cases hd : d ≤ A.length
        · rw [List.take_append_of_le_length hd]
          exact g3 d
        · rw [List.take_append, List.take_of_length_le (by omega), List.foldl_append, ← List.map_take, List.take_range]
          obtain ⟨_, _, e3, ex⟩ := hrun (min (d - A.length) (2 * pt.length + 1)) (by omega)
          obtain ⟨q1, q2⟩ := ex (A.foldl Rg.act x) g1
          generalize min (d - A.length) (2 * pt.length + 1) = e at *
          by_cases c1 : e ≤ pt.length
          · refine ⟨4 * j, e, 0, ⟨by omega, by omega, Nat.zero_le _, ?_, ?_, ?_⟩⟩
            · rw [q1, if_pos c1, hptk e c1]
            · rw [q2, g2, show e - pt.length = 0 by omega, List.take_zero, List.take_zero]
            · rw [trims_append, h5, e3, if_pos (by omega)]
              omega
          · by_cases c2 : e ≤ 2 * pt.length
            · refine ⟨4 * j, pt.length, e - pt.length, ⟨by omega, hp4, by omega, ?_, ?_, ?_⟩⟩
              · rw [q1, if_neg c1, if_pos c2, ← hptk pt.length (Nat.le_refl _), List.take_of_length_le (Nat.le_refl _)]
              · rw [q2, g2, ← hptk pt.length (Nat.le_refl _), List.take_of_length_le (l := pt) (Nat.le_refl _)]
              · rw [trims_append, h5, e3, if_pos c2]
                omega
            · refine ⟨4 * j + pt.length, 0, 0, ⟨by omega, by omega, Nat.le_refl _, ?_, ?_, ?_⟩⟩
              · rw [q1, if_neg c1, if_neg c2, List.take_zero]; rfl
              · rw [q2, g2, List.take_of_length_le (l := pt) (by omega), List.take_zero, List.take_add, app_append, ← hptk pt.length (Nat.le_refl _), List.take_of_length_le (l := pt) (Nat.le_refl _)]
                rfl
              · rw [trims_append, h5, e3, if_neg c2]
                omega

/-- a plan done to an image, in part -/
theorem plan_image {m : Nat → Rg} {t : Int} {l : List PU} (h0 : 0 < t) (hf : fine l) (hl : l.length ≤ 1000) (hlog : (m 1).log = []) (hh : (m 1).high < t) (d : Nat) :
    (∀ k r, k < d → (planQ 1 t 1 l)[k]? = some r → (checkI (((planQ 1 t 1 l).take k).foldl doM m) r).2 = 0) ∧ (((planQ 1 t 1 l).take d).foldl doM m 1).high ≤ t ∧
    ∃ sure k i, Half l (m 1).b ((planQ 1 t 1 l).take d) (((planQ 1 t 1 l).take d).foldl doM m 1) sure k i := by
  have hq : planQ 1 t 1 l = (pQ 1 t 1 l ((l.length + 3) / 4)).2 := by unfold planQ; rw [if_pos (fine_planE l hf)]
  obtain ⟨⟨h1, _, _, _, _⟩, hx⟩ := plan_run t l hf hl ((l.length + 3) / 4) (by omega)
  rw [hq]
  obtain ⟨g1, g2, g3⟩ := run_image (m := m) h0 (by rw [hlog]; exact h1) hh d
  refine ⟨g1, g3, ?_⟩
  rw [g2]
  exact (hx (m 1) hlog).2 d
/-- a plan done whole -/
theorem plan_whole {m : Nat → Rg} {t : Int} {l : List PU} (h0 : 0 < t) (hf : fine l) (hl : l.length ≤ 1000) (hlog : (m 1).log = []) (hh : (m 1).high < t) :
    ((planQ 1 t 1 l).foldl doM m 1).log = [] ∧ ((planQ 1 t 1 l).foldl doM m 1).b = app (m 1).b l := by
  have hq : planQ 1 t 1 l = (pQ 1 t 1 l ((l.length + 3) / 4)).2 := by unfold planQ; rw [if_pos (fine_planE l hf)]
  obtain ⟨⟨h1, _, _, _, _⟩, hx⟩ := plan_run t l hf hl ((l.length + 3) / 4) (by omega)
  rw [hq]
  obtain ⟨_, g2, _⟩ := run_image (m := m) h0 (by rw [hlog]; exact h1) hh ((pQ 1 t 1 l ((l.length + 3) / 4)).2.length)
  rw [List.take_length] at g2
  rw [g2]
  obtain ⟨q1, q2⟩ := (hx (m 1) hlog).1
  exact ⟨q1, by rw [q2, List.take_of_length_le (by omega)]⟩
theorem planQ_length (t : Int) (l : List PU) : (planQ 1 t 1 l).length ≤ 9 * ((l.length + 3) / 4) := by
  unfold planQ
  split
  · exact pQ_length _ _ _ _ _
  · simp
theorem wAll_ok (t s : Int) (ht : 0 ≤ t ∧ t < 18446744073709551616) (l : List PU) : ∀ r ∈ wAll 1 t s l, r.ok := by
  intro r hr
  unfold wAll at hr
  have hw : ∀ x : Int, 0 ≤ IntKind.u32.wrap x ∧ IntKind.u32.wrap x < 4294967296 := fun x => by simp only [IntKind.wrap_u32]; omega
  rcases List.mem_append.1 hr with hr | hr
  · obtain ⟨k, hk⟩ := List.mem_iff_getElem?.1 hr
    rw [wl_get] at hk
    cases hx : l[k]? with
    | none => rw [hx] at hk; cases hk
    | some x =>
      rw [hx] at hk
      obtain rfl : wQ 1 t s (0 + k) x = r := by simpa using hk
      exact ⟨ht.1, ht.2, (hw _).1, (hw _).2⟩
  · split at hr
    · obtain rfl := List.mem_singleton.1 hr
      exact ⟨ht.1, ht.2, (hw _).1, (hw _).2⟩
    · cases hr
theorem pQ_ok (t s : Int) (ht : 0 ≤ t ∧ t < 18446744073709551616) (l : List PU) : ∀ j, ∀ r ∈ (pQ 1 t s l j).2, r.ok
  | 0, r, hr => by cases hr
  | j + 1, r, hr => by
    have hw : ∀ x : Int, 0 ≤ IntKind.u32.wrap x ∧ IntKind.u32.wrap x < 4294967296 := fun x => by simp only [IntKind.wrap_u32]; omega
    rcases List.mem_append.1 (show r ∈ (pQ 1 t s l j).2 ++ _ from hr) with hr | hr
    · exact pQ_ok t s ht l j r hr
    · rcases List.mem_append.1 (show r ∈ wl (eQ 1 t (pQ 1 t s l j).1) 0 ((l.drop (4 * j)).take 4) ++ _ from hr) with hr | hr
      · obtain ⟨k, hk⟩ := List.mem_iff_getElem?.1 hr
        rw [wl_get] at hk
        cases hx : ((l.drop (4 * j)).take 4)[k]? with
        | none => rw [hx] at hk; cases hk
        | some x =>
          rw [hx] at hk
          obtain rfl : eQ 1 t (pQ 1 t s l j).1 (0 + k) x = r := by simpa using hk
          exact ⟨ht.1, ht.2, (hw _).1, (hw _).2⟩
      · exact wAll_ok t _ ht _ r hr
theorem planQ_ok (t : Int) (ht : 0 ≤ t ∧ t < 18446744073709551616) (l : List PU) : ∀ r ∈ planQ 1 t 1 l, r.ok := by
  intro r hr
  unfold planQ at hr
  split at hr
  · exact pQ_ok t 1 ht l _ r hr
  · cases hr
/-- a log's records, as writes again -/
theorem log_back (l : List PU) (hf : fine l) : repE (l.map recB) = 0 ∧ (l.map recB).map (parP 1) = l := by
  induction l with
  | nil => exact ⟨rfl, rfl⟩
  | cons x r ih =>
    have hx := hf x List.mem_cons_self
    obtain ⟨h1, h2⟩ := ih (fun p hp => hf p (List.mem_cons_of_mem _ hp))
    have hp : parE (recB x) = 0 := by rw [recE_recB x (fine_recE hx), ← rec_par 1 x.index x.data hx.2.1]; exact (by obtain ⟨a, b, c⟩ := x; obtain rfl : a = 1 := hx.1; exact fine_recE hx)
    refine ⟨?_, ?_⟩
    · rw [List.map_cons]
      unfold repE
      rw [if_pos hp, h1]
    · rw [List.map_cons, List.map_cons, h2]
      congr 1
      rw [recE_recB x (fine_recE hx)] at hp ⊢
      obtain ⟨a, b, c⟩ := x
      obtain rfl : a = 1 := hx.1
      exact if_pos hp
theorem rep_log (t : Int) (l : List PU) (hf : fine l) : repQ 1 t 1 (l.map recB) = wAll 1 t 1 l := by
  unfold repQ
  rw [if_pos (log_back l hf).1, (log_back l hf).2]
/-- the last writes of each block alone do the same -/
theorem app_merge (l : List PU) (hf : fine l) : ∀ b, app b (mergeP l) = app b l := by
  induction l with
  | nil => intro b; rfl
  | cons x r ih =>
    intro b
    have ihr := ih (fun p hp => hf p (List.mem_cons_of_mem _ hp))
    show app b (if r.any (keyP x) = true then mergeP r else x :: mergeP r) = app (upd b x.index.toNat x.data) r
    split
    · rename_i ha
      rw [ihr]
      obtain ⟨y, hy, hk⟩ := List.any_eq_true.1 ha
      unfold keyP at hk
      simp only [Bool.and_eq_true, beq_iff_eq] at hk
      funext j
      refine app_same r _ _ j ?_
      by_cases he : j = x.index.toNat
      · exact .inr ⟨y, hy, by rw [hk.2, he]⟩
      · exact .inl (by rw [upd_ne _ _ _ _ he])
    · rw [app_cons, ihr]
theorem mergeP_mem (l : List PU) : ∀ p ∈ mergeP l, p ∈ l := by
  induction l with
  | nil => intro p hp; cases hp
  | cons x r ih =>
    intro p hp
    have hp : p ∈ (if r.any (keyP x) = true then mergeP r else x :: mergeP r) := hp
    split at hp
    · exact List.mem_cons_of_mem _ (ih p hp)
    · rcases List.mem_cons.1 hp with rfl | hp
      · exact List.mem_cons_self
      · exact List.mem_cons_of_mem _ (ih p hp)
theorem mergeP_length2 (l : List PU) : (mergeP l).length ≤ l.length := by
  induction l with
  | nil => exact Nat.le_refl _
  | cons x r ih =>
    show (if r.any (keyP x) = true then mergeP r else x :: mergeP r).length ≤ r.length + 1
    split
    · omega
    · rw [List.length_cons]; omega
theorem recB_bytes2 (p : PU) (h : Bytes p.data) : Bytes (recB p) ∧ (recB p).length ≤ 24 := by
  by_cases he : recE p = 0
  · rw [recE_recB p he]
    obtain ⟨h1, h2, h3⟩ := recE_data p he
    refine ⟨fun x hx => ?_, by simp; omega⟩
    rcases List.mem_cons.1 hx with rfl | hx
    · unfold isByte; omega
    · exact h x hx
  · unfold recB
    rw [if_neg he]
    exact ⟨fun x hx => absurd hx List.not_mem_nil, by simp⟩
end Go.Proofs.Ytbnjeekhoaapiaa
