/- History: the document's search, plainly: one way on; what is right. -/
import Derived.Test.YtbgknfdaaffeaaaHiR
namespace Go.Proofs.Ytbgknfdaaffeaaa
open Go.RowKit

def lensB (l : List SecH) : List Nat := l.map (fun s => s.p.length)
theorem stepB_drop {l : List SecH} {ks : List Nat} {i : Nat} {s : SecH} {k : Nat} (hs : l[i]? = some s) (hk : ks[i]? = some k) :
    stepB (l.drop i) (ks.drop i) = if (stepB (l.drop (i + 1)) (ks.drop (i + 1))).1 = true then (if k = s.s.toNat then (true, s.p.length :: (stepB (l.drop (i + 1)) (ks.drop (i + 1))).2) else (false, (k - 1) :: (stepB (l.drop (i + 1)) (ks.drop (i + 1))).2)) else (false, k :: (stepB (l.drop (i + 1)) (ks.drop (i + 1))).2) := by
  have h1 : l.drop i = s :: l.drop (i + 1) := by
    obtain ⟨h, e⟩ := List.getElem?_eq_some_iff.1 hs
    rw [List.drop_eq_getElem_cons h, e]
  have h2 : ks.drop i = k :: ks.drop (i + 1) := by
    obtain ⟨h, e⟩ := List.getElem?_eq_some_iff.1 hk
    rw [List.drop_eq_getElem_cons h, e]
  rw [h1, h2]
  rfl
theorem lensB_drop {l : List SecH} {i : Nat} {s : SecH} (hs : l[i]? = some s) : lensB (l.drop i) = s.p.length :: lensB (l.drop (i + 1)) := by
  obtain ⟨h, e⟩ := List.getElem?_eq_some_iff.1 hs
  rw [List.drop_eq_getElem_cons h, e]
  rfl
/-- all behind one are where they end -/
def allS (l : List SecH) (ks : List Nat) (i : Nat) : Prop := stepB (l.drop i) (ks.drop i) = (true, lensB (l.drop i))
theorem allS_end (l : List SecH) (ks : List Nat) {n : Nat} (h : l.length ≤ n) : allS l ks n := by
  unfold allS
  rw [List.drop_of_length_le h]
  rfl
theorem allS_more {l : List SecH} {ks : List Nat} {i : Nat} {s : SecH} {k : Nat} (h : allS l ks (i + 1)) (hs : l[i]? = some s) (hk : ks[i]? = some k) (e : k = s.s.toNat) : allS l ks i := by
  unfold allS at h ⊢
  rw [stepB_drop hs hk, h, if_pos rfl, if_pos e, lensB_drop hs]
theorem allS_stop {l : List SecH} {ks : List Nat} {i : Nat} {s : SecH} {k : Nat} (h : allS l ks (i + 1)) (hs : l[i]? = some s) (hk : ks[i]? = some k) (e : k ≠ s.s.toNat) : stepB (l.drop i) (ks.drop i) = (false, (k - 1) :: lensB (l.drop (i + 1))) := by
  unfold allS at h
  rw [stepB_drop hs hk, h, if_pos rfl, if_neg e]
theorem stepB_front {l : List SecH} {ks : List Nat} (hl : ks.length = l.length) : ∀ (i : Nat) (r : List Nat), i ≤ l.length → stepB (l.drop i) (ks.drop i) = (false, r) → stepB l ks = (false, ks.take i ++ r)
  | 0, r, _, h => by simpa using h
  | i + 1, r, hi, h => by
    have hs := List.getElem?_eq_getElem (l := l) (i := i) (by omega)
    have hk := List.getElem?_eq_getElem (l := ks) (i := i) (by omega)
    have h1 := stepB_drop hs hk
    rw [h, if_neg (by simp)] at h1
    rw [stepB_front hl i _ (by omega) h1, List.take_add_one, hk, List.append_assoc]
    rfl
theorem set_take {α : Type} {xs ys : List α} {i : Nat} {u x : α} (hx : xs[i]? = some x) : (xs.take (i + 1) ++ ys).set i u = xs.take i ++ u :: ys := by
  have hlt := (List.getElem?_eq_some_iff.1 hx).1
  rw [List.take_add_one, hx, List.append_assoc, List.set_append_right _ _ (by rw [List.length_take]; omega), List.length_take, show i - min i xs.length = 0 by omega]
  rfl
/-- blocks behind the first so many, from others on -/
def behG (b : BlH) (l : List SecH) (ks : List Nat) : Nat → BlH
  | 0 => b
  | i + 1 => behB (behG b l ks i) (((l[i]?).elim [] SecH.p).take ((ks[i]?).getD 0))
theorem behG_no (l : List SecH) (ks : List Nat) : ∀ i, behG noB l ks i = behN l ks i
  | 0 => rfl
  | i + 1 => by unfold behG behN; rw [behG_no l ks i]
theorem behG_cons (b : BlH) (x : SecH) (r : List SecH) (ks : List Nat) : ∀ i, behG b (x :: r) ks (i + 1) = behG (behB b (x.p.take (ks.headD 0))) r ks.tail i
  | 0 => by
    cases ks <;> rfl
  | i + 1 => by
    rw [behG, behG_cons b x r ks i]
    cases ks <;> rfl
def RightG (b : BlH) (l : List SecH) (ks : List Nat) (s : Nat) : Prop := ∀ (j : Nat) (y : LookH), (((l[s]?).elim [] SecH.k))[j]? = some y → atB (behB (behG b l ks s) (((l[s]?).elim [] SecH.p).take y.a.toNat)) y.i = y.d
theorem rightB_iff : ∀ (l : List SecH) (ks : List Nat) (b : BlH), rightB l ks b = true ↔ ∀ s, s < l.length → RightG b l ks s
  | [], ks, b => ⟨fun _ s h => by simp at h, fun _ => rfl⟩
  | x :: r, ks, b => by
    unfold rightB
    rw [Bool.and_eq_true, rightB_iff r]
    have h0 : bearsB x b = true ↔ RightG b (x :: r) ks 0 := by
      unfold bearsB RightG lookB
      rw [List.all_eq_true]
      constructor
      · intro h j y hy
        exact of_decide_eq_true (h y (List.mem_of_getElem? hy))
      · intro h y hy
        obtain ⟨j, hj⟩ := List.mem_iff_getElem?.1 hy
        exact decide_eq_true (h j y hj)
    rw [h0]
    constructor
    · rintro ⟨h1, h2⟩ s hs
      cases s with
      | zero => exact h1
      | succ s =>
        intro j y hy
        rw [behG_cons]
        exact h2 s (by simpa using hs) j y hy
    · intro h
      refine ⟨h 0 (by simp), fun s hs j y hy => ?_⟩
      have := h (s + 1) (by simpa using hs) j y hy
      rw [behG_cons] at this
      exact this
theorem rightP_iff (l : List SecH) (ks : List Nat) : (∀ s, s < l.length → RightP l ks s) ↔ rightB l ks noB = true := by
  rw [rightB_iff]
  unfold RightP RightG blockM
  simp only [behG_no]
/-- the first right way is what explains -/
theorem expl_first {l : List SecH} {w : Nat} (hw : w < waysB l) (hr : rightB l (wayB l w) noB = true) (h : ∀ v, v < w → rightB l (wayB l v) noB = false) : explB l noB = some (wayB l w) := by
  cases he : explB l noB with
  | none => rw [(explB_spec l noB).2 he w hw] at hr; cases hr
  | some ks =>
    obtain ⟨v, hv, rfl, h1, h2⟩ := (explB_spec l noB).1 ks he
    rcases Nat.lt_trichotomy v w with hlt | rfl | hlt
    · rw [h v hlt] at h1; cases h1
    · rfl
    · rw [h2 w hlt] at hr; cases hr
theorem expl_never {l : List SecH} (h : ∀ v, v < waysB l → rightB l (wayB l v) noB = false) : explB l noB = none := by
  cases he : explB l noB with
  | none => rfl
  | some ks =>
    obtain ⟨v, hv, rfl, h1, _⟩ := (explB_spec l noB).1 ks he
    rw [h v hv] at h1
    cases h1
/-- how many ways there are, where there are not too many -/
theorem waysI_small {most : Int} : ∀ (l : List SecH) (n : Int), 1 ≤ n → waysI most l n ≤ most → waysI most l n = if l.any badH = true then 0 else n * waysB l
  | [], n, _, _ => by simp [waysI, waysB]
  | s :: r, n, hn, h => by
    unfold waysI at h ⊢
    by_cases hb : badH s = true
    · rw [if_pos hb, if_pos (by rw [List.any_cons, hb]; rfl)]
    · rw [if_neg hb] at h ⊢
      have hb' : badH s = false := by simpa using hb
      have hb2 := hb'
      unfold badH at hb2
      rw [Bool.or_eq_false_iff, decide_eq_false_iff_not, decide_eq_false_iff_not] at hb2
      by_cases hm : n * ((s.p.length : Int) - s.s + 1) > most
      · rw [if_pos hm] at h
        omega
      · rw [if_neg hm] at h ⊢
        have hw : ((s.ways : Nat) : Int) = (s.p.length : Int) - s.s + 1 := by
          unfold SecH.ways
          omega
        have h1 : 1 ≤ n * ((s.p.length : Int) - s.s + 1) := by
          have := Int.mul_le_mul hn (by omega : (1 : Int) ≤ (s.p.length : Int) - s.s + 1) (by omega) (by omega)
          omega
        rw [waysI_small r _ h1 h, List.any_cons, hb', Bool.false_or]
        split
        · rfl
        · rw [show waysB (s :: r) = s.ways * waysB r from rfl, Int.natCast_mul, hw, Int.mul_assoc]
theorem waysI_more {most big : Int} (hmb : most ≤ big) : ∀ (l : List SecH) (n : Int), waysI most l n ≤ most → waysI big l n = waysI most l n
  | [], _, _ => rfl
  | s :: r, n, h => by
    unfold waysI at h ⊢
    by_cases hb : badH s = true
    · rw [if_pos hb, if_pos hb]
    · rw [if_neg hb] at h ⊢
      rw [if_neg hb]
      by_cases hm : n * ((s.p.length : Int) - s.s + 1) > most
      · rw [if_pos hm] at h
        omega
      · rw [if_neg hm] at h ⊢
        rw [if_neg (by omega)]
        exact waysI_more hmb r _ h
theorem wayB_zero : ∀ l : List SecH, wayB l 0 = lensB l
  | [] => rfl
  | s :: r => by
    show (s.p.length - 0 / waysB r) :: wayB r (0 % waysB r) = _
    rw [Nat.zero_div, Nat.zero_mod, wayB_zero r]
    rfl
theorem explM_of {l : List SecH} (h : l.any badH = false) : explM l = explB l noB := if_neg (by rw [h]; exact Bool.false_ne_true)
theorem good_of {l : List SecH} (h : l.any badH = false) : ∀ s ∈ l, 0 ≤ s.s ∧ s.s.toNat ≤ s.p.length := by
  intro s hs
  have := List.any_eq_false.1 h s hs
  unfold badH at this
  simp only [Bool.or_eq_true, decide_eq_true_eq, not_or, Int.not_lt] at this
  omega
end Go.Proofs.Ytbgknfdaaffeaaa
