/- History: what explains sections (plain). -/
import Derived.Test.YtbgknfdaaffeaaaImgM
namespace Go.Proofs.Ytbgknfdaaffeaaa

/-! ### what explains sections -/
structure PutH where
  i : Int
  d : List Int
structure LookH where
  a : Int
  i : Int
  d : List Int
structure SecH where
  t : Int
  p : List PutH
  s : Int
  k : List LookH

abbrev BlH := Nat → List Int
def noB : BlH := fun _ => []
def putB (b : BlH) (p : PutH) : BlH := if 0 ≤ p.i ∧ p.i < 4 then upd b p.i.toNat p.d else b
def behB (b : BlH) (l : List PutH) : BlH := l.foldl putB b
def atB (b : BlH) (i : Int) : List Int := if 0 ≤ i ∧ i < 4 then b i.toNat else []
def lookB (s : SecH) (b : BlH) (k : LookH) : Bool := decide (atB (behB b (s.p.take k.a.toNat)) k.i = k.d)
def bearsB (s : SecH) (b : BlH) : Bool := s.k.all (lookB s b)
/-- how many ways -/
def SecH.ways (s : SecH) : Nat := s.p.length - s.s.toNat + 1
def waysB : List SecH → Nat
  | [] => 1
  | s :: r => s.ways * waysB r
/-- the way of this number -/
def wayB : List SecH → Nat → List Nat
  | [], _ => []
  | s :: r, w => (s.p.length - w / waysB r) :: wayB r (w % waysB r)
def rightB : List SecH → List Nat → BlH → Bool
  | [], _, _ => true
  | s :: r, ks, b => bearsB s b && rightB r ks.tail (behB b (s.p.take (ks.headD 0)))
/-- the first of so many that is one -/
def firstB {α : Type} (f : Nat → Option α) : Nat → Nat → Option α
  | 0, _ => none
  | n + 1, k => (f k).or (firstB f n (k + 1))
def explB : List SecH → BlH → Option (List Nat)
  | [], _ => some []
  | s :: r, b => if bearsB s b then firstB (fun q => (explB r (behB b (s.p.take (s.p.length - q)))).map ((s.p.length - q) :: ·)) s.ways 0 else none

theorem firstB_none {α : Type} {f : Nat → Option α} : ∀ (n k : Nat), firstB f n k = none ↔ ∀ q, q < n → f (k + q) = none
  | 0, k => ⟨fun _ q hq => by omega, fun _ => rfl⟩
  | n + 1, k => by
    unfold firstB
    rw [Option.or_eq_none_iff, firstB_none n (k + 1)]
    refine ⟨fun ⟨h1, h2⟩ q hq => ?_, fun h => ⟨by simpa using h 0 (by omega), fun q hq => ?_⟩⟩
    · cases q with
      | zero => exact h1
      | succ q => have := h2 q (by omega); rwa [show k + (q + 1) = k + 1 + q by omega]
    · have := h (q + 1) (by omega); rwa [show k + 1 + q = k + (q + 1) by omega]
theorem firstB_some {α : Type} {f : Nat → Option α} {x : α} : ∀ (n k : Nat), firstB f n k = some x → ∃ q, q < n ∧ f (k + q) = some x ∧ ∀ p, p < q → f (k + p) = none
  | 0, k, h => by cases h
  | n + 1, k, h => by
    unfold firstB at h
    rcases Option.or_eq_some_iff.1 h with h | ⟨h0, h⟩
    · exact ⟨0, by omega, h, fun p hp => by omega⟩
    · obtain ⟨q, h1, h2, h3⟩ := firstB_some n (k + 1) h
      refine ⟨q + 1, by omega, by rwa [show k + (q + 1) = k + 1 + q by omega], fun p hp => ?_⟩
      cases p with
      | zero => exact h0
      | succ p => have := h3 p (by omega); rwa [show k + (p + 1) = k + 1 + p by omega]
/-- behind those of which none is one -/
theorem firstB_skip {α : Type} {f : Nat → Option α} {n k : Nat} (hk : k ≤ n) (h : ∀ q, q < k → f q = none) : firstB f n 0 = firstB f (n - k) k := by
  have : ∀ (m j : Nat), j + m = k → firstB f (n - j) j = firstB f (n - k) k := by
    intro m
    induction m with
    | zero => intro j hj; rw [show j = k by omega]
    | succ m ih =>
      intro j hj
      rw [show n - j = (n - (j + 1)) + 1 by omega]
      show (f j).or (firstB f (n - (j + 1)) (j + 1)) = _
      rw [h j (by omega), Option.none_or, ih (j + 1) (by omega)]
  exact this k 0 (by omega)
theorem waysB_pos : ∀ l, 0 < waysB l
  | [] => Nat.one_pos
  | s :: r => Nat.mul_pos (by unfold SecH.ways; omega) (waysB_pos r)
theorem explB_spec : ∀ (l : List SecH) (b : BlH),
    (∀ ks, explB l b = some ks → ∃ w, w < waysB l ∧ ks = wayB l w ∧ rightB l ks b = true ∧ ∀ v, v < w → rightB l (wayB l v) b = false) ∧
    (explB l b = none → ∀ v, v < waysB l → rightB l (wayB l v) b = false)
  | [], b => ⟨fun ks h => ⟨0, Nat.one_pos, by simpa [explB, wayB] using h.symm, rfl, fun v hv => by omega⟩, fun h => by cases h⟩
  | s :: r, b => by
    have hp := waysB_pos r
    have hr : ∀ v, rightB (s :: r) (wayB (s :: r) v) b = (bearsB s b && rightB r (wayB r (v % waysB r)) (behB b (s.p.take (s.p.length - v / waysB r)))) := fun v => rfl
    have hlt : ∀ v, v < waysB (s :: r) → v / waysB r < s.ways := fun v hv => Nat.div_lt_of_lt_mul (by rw [Nat.mul_comm]; exact hv)
    unfold explB
    by_cases hb : bearsB s b = true
    · rw [if_pos hb]
      refine ⟨fun ks h => ?_, fun h v hv => ?_⟩
      · obtain ⟨q, h1, h2, h3⟩ := firstB_some _ _ h
        rw [Nat.zero_add] at h2
        obtain ⟨ks', h4, rfl⟩ := Option.map_eq_some_iff.1 h2
        obtain ⟨w, h5, rfl, h7, h8⟩ := (explB_spec r _).1 ks' h4
        have e1 : (q * waysB r + w) / waysB r = q := by
          rw [Nat.mul_comm, Nat.mul_add_div hp, Nat.div_eq_of_lt h5, Nat.add_zero]
        have e2 : (q * waysB r + w) % waysB r = w := by
          rw [Nat.mul_comm, Nat.mul_add_mod, Nat.mod_eq_of_lt h5]
        refine ⟨q * waysB r + w, ?_, ?_, ?_, fun v hv => ?_⟩
        · show _ < s.ways * waysB r
          have : (q + 1) * waysB r ≤ s.ways * waysB r := Nat.mul_le_mul_right _ h1
          rw [Nat.succ_mul] at this
          omega
        · show _ = (s.p.length - _) :: wayB r _
          rw [e1, e2]
        · show (bearsB s b && _) = true
          rw [hb, Bool.true_and]
          exact h7
        · rw [hr, hb, Bool.true_and]
          by_cases hq : v / waysB r = q
          · rw [hq]
            refine h8 _ ?_
            have := Nat.div_add_mod v (waysB r)
            rw [hq, Nat.mul_comm] at this
            omega
          · have hvq : v / waysB r < q := by
              have : v / waysB r ≤ q := by rw [← e1]; exact Nat.div_le_div_right (by omega)
              omega
            have := h3 _ hvq
            rw [Nat.zero_add, Option.map_eq_none_iff] at this
            exact (explB_spec r _).2 this _ (Nat.mod_lt _ hp)
      · rw [hr, hb, Bool.true_and]
        have := (firstB_none _ _).1 h _ (hlt v hv)
        rw [Nat.zero_add, Option.map_eq_none_iff] at this
        exact (explB_spec r _).2 this _ (Nat.mod_lt _ hp)
    · rw [if_neg hb]
      have hf : bearsB s b = false := by simpa using hb
      refine ⟨fun ks h => ?_, fun _ v _ => ?_⟩
      · cases h
      · rw [hr, hf, Bool.false_and]
/-- one way on: told is whether that was the last one -/
def stepB : List SecH → List Nat → Bool × List Nat
  | [], _ => (true, [])
  | s :: r, ks => if (stepB r ks.tail).1 = true then (if ks.headD 0 = s.s.toNat then (true, s.p.length :: (stepB r ks.tail).2) else (false, (ks.headD 0 - 1) :: (stepB r ks.tail).2)) else (false, ks.headD 0 :: (stepB r ks.tail).2)
theorem stepB_way : ∀ (l : List SecH), (∀ s ∈ l, s.s.toNat ≤ s.p.length) → ∀ w, w < waysB l → stepB l (wayB l w) = (decide (w + 1 = waysB l), wayB l ((w + 1) % waysB l))
  | [], _, w, hw => by
    have : w = 0 := by have : w < 1 := hw; omega
    subst this
    rfl
  | s :: r, hs, w, hw => by
    have hp := waysB_pos r
    have h0 := hs s (by simp)
    have ih := stepB_way r (fun x hx => hs x (by simp [hx])) (w % waysB r) (Nat.mod_lt _ hp)
    have hm := Nat.mod_lt w hp
    have hq : w / waysB r < s.ways := Nat.div_lt_of_lt_mul (by rw [Nat.mul_comm]; exact hw)
    have hdm := Nat.div_add_mod w (waysB r)
    have hW : waysB (s :: r) = s.ways * waysB r := rfl
    have hwy : s.ways = s.p.length - s.s.toNat + 1 := rfl
    show (if (stepB r (wayB r (w % waysB r))).1 = true then _ else _) = _
    have e0 : (wayB (s :: r) w).headD 0 = s.p.length - w / waysB r := rfl
    have e1 : (wayB (s :: r) w).tail = wayB r (w % waysB r) := rfl
    rw [e0, e1, ih]
    by_cases hc : w % waysB r + 1 = waysB r
    · have hd : w + 1 = (w / waysB r + 1) * waysB r := by
        rw [Nat.succ_mul, Nat.mul_comm]
        omega
      simp only [hc, decide_true, if_true, Nat.mod_self]
      by_cases hl : s.p.length - w / waysB r = s.s.toNat
      · rw [if_pos hl]
        have hqe : w / waysB r + 1 = s.ways := by omega
        rw [hqe, ← hW] at hd
        rw [hd]
        simp only [decide_true, Nat.mod_self]
        show _ = (true, (s.p.length - 0 / waysB r) :: wayB r (0 % waysB r))
        rw [Nat.zero_div, Nat.zero_mod, Nat.sub_zero]
      · rw [if_neg hl]
        have hql : w / waysB r + 1 < s.ways := by omega
        have hlt : w + 1 < waysB (s :: r) := by
          rw [hd, hW]
          exact Nat.mul_lt_mul_of_pos_right hql hp
        rw [decide_eq_false (by omega), Nat.mod_eq_of_lt hlt]
        show _ = (false, (s.p.length - (w + 1) / waysB r) :: wayB r ((w + 1) % waysB r))
        rw [hd, Nat.mul_div_cancel _ hp, Nat.mul_mod_left]
        congr 2
    · have hlt1 : w % waysB r + 1 < waysB r := by omega
      have e2 : (w + 1) / waysB r = w / waysB r := by
        rw [show w + 1 = waysB r * (w / waysB r) + (w % waysB r + 1) by omega, Nat.mul_add_div hp, Nat.div_eq_of_lt hlt1, Nat.add_zero]
      have e3 : (w + 1) % waysB r = w % waysB r + 1 := by
        conv => lhs; rw [show w + 1 = waysB r * (w / waysB r) + (w % waysB r + 1) by omega]
        rw [Nat.mul_add_mod, Nat.mod_eq_of_lt hlt1]
      have hlt : w + 1 < waysB (s :: r) := by
        rw [hW]
        have : (w / waysB r + 1) * waysB r ≤ s.ways * waysB r := Nat.mul_le_mul_right _ hq
        rw [Nat.succ_mul, Nat.mul_comm (w / waysB r)] at this
        omega
      rw [decide_eq_false (by omega), decide_eq_false (by omega), if_neg (by simp), Nat.mod_eq_of_lt hlt, Nat.mod_eq_of_lt hlt1]
      show _ = (false, (s.p.length - (w + 1) / waysB r) :: wayB r ((w + 1) % waysB r))
      rw [e2, e3]
theorem wayB_length : ∀ (l : List SecH) (w : Nat), (wayB l w).length = l.length
  | [], _ => rfl
  | _ :: r, _ => congrArg (· + 1) (wayB_length r _)
theorem wayB_bounds : ∀ (l : List SecH), (∀ s ∈ l, s.s.toNat ≤ s.p.length) → ∀ w, w < waysB l → ∀ (j : Nat) s k, l[j]? = some s → (wayB l w)[j]? = some k → s.s.toNat ≤ k ∧ k ≤ s.p.length
  | [], _, _, _, j, s, k, h, _ => by simp at h
  | s :: r, hs, w, hw, j, x, k, h, hk => by
    have hq : w / waysB r < s.ways := Nat.div_lt_of_lt_mul (by rw [Nat.mul_comm]; exact hw)
    have h0 := hs s (by simp)
    have hwy : s.ways = s.p.length - s.s.toNat + 1 := rfl
    cases j with
    | zero =>
      obtain rfl : s = x := by simpa using h
      obtain rfl : s.p.length - w / waysB r = k := by simpa [wayB] using hk
      generalize w / waysB r = q at hq ⊢
      exact ⟨by omega, by omega⟩
    | succ j => exact wayB_bounds r (fun x hx => hs x (by simp [hx])) (w % waysB r) (Nat.mod_lt _ (waysB_pos r)) j x k (by simpa using h) (by simpa [wayB] using hk)
/-- blocks that are one are one behind the same -/
theorem behB_congr (l : List PutH) : ∀ (a b : BlH), (∀ j, j < 4 → a j = b j) → ∀ j, j < 4 → behB a l j = behB b l j := by
  induction l with
  | nil => exact fun a b h => h
  | cons p r ih =>
    intro a b h
    refine ih (putB a p) (putB b p) (fun j hj => ?_)
    unfold putB
    split
    · unfold upd
      split
      · rfl
      · exact h j hj
    · exact h j hj
theorem atB_congr {a b : BlH} (h : ∀ j, j < 4 → a j = b j) (i : Int) : atB a i = atB b i := by
  unfold atB
  split
  · exact h _ (by omega)
  · rfl
theorem bearsB_congr {a b : BlH} (h : ∀ j, j < 4 → a j = b j) (s : SecH) : bearsB s a = bearsB s b := by
  unfold bearsB
  congr 1
  funext k
  unfold lookB
  rw [atB_congr (behB_congr _ _ _ h)]
theorem explB_congr : ∀ (l : List SecH) (a b : BlH), (∀ j, j < 4 → a j = b j) → explB l a = explB l b
  | [], _, _, _ => rfl
  | s :: r, a, b, h => by
    unfold explB
    rw [bearsB_congr h s]
    split
    · congr 1
      funext q
      rw [explB_congr r _ _ (behB_congr _ _ _ h)]
    · rfl
theorem behB_snoc (b : BlH) {l : List PutH} {k : Nat} {x : PutH} (h : l[k]? = some x) : behB b (l.take (k + 1)) = putB (behB b (l.take k)) x := by
  unfold behB
  rw [List.take_add_one, h, List.foldl_append]
  rfl
end Go.Proofs.Ytbgknfdaaffeaaa
