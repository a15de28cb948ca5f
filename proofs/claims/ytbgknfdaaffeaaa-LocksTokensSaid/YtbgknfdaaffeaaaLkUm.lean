/- Locks: a table out of bytes (plain). -/
import Derived.Test.YtbgknfdaaffeaaaLkM
import Derived.Test.YtbgknfdaaffeaaaRdSt
namespace Go.Proofs.Ytbgknfdaaffeaaa

def Rd.ho (r : Rd) : HoldM × Rd := (⟨(r.num 1).1, ((r.num 1).2.num 1).1, (((r.num 1).2.num 1).2.num 8).1, ((((r.num 1).2.num 1).2.num 8).2.num 8).1⟩, ((((r.num 1).2.num 1).2.num 8).2.num 8).2)
def Rd.wo (r : Rd) : WantM × Rd := (⟨(r.num 1).1, ((r.num 1).2.num 1).1⟩, ((r.num 1).2.num 1).2)
def Rd.hos (r : Rd) : Nat → List HoldM × Rd
  | 0 => ([], r)
  | n + 1 => ((r.hos n).1 ++ [(r.hos n).2.ho.1], (r.hos n).2.ho.2)
def Rd.wos (r : Rd) : Nat → List WantM × Rd
  | 0 => ([], r)
  | n + 1 => ((r.wos n).1 ++ [(r.wos n).2.wo.1], (r.wos n).2.wo.2)
def Rd.g1 (r : Rd) : Int × Rd := r.num 1
def Rd.g2 (r : Rd) : List HoldM × Rd := r.g1.2.hos r.g1.1.toNat
def Rd.g3 (r : Rd) : Int × Rd := r.g2.2.num 1
def Rd.g4 (r : Rd) : List WantM × Rd := r.g3.2.wos r.g3.1.toNat
def Rd.lreg (r : Rd) : RegM := ⟨r.g2.1, r.g4.1⟩
def Rd.tab (r : Rd) : Nat → (Nat → RegM) × Rd
  | 0 => (fun _ => ⟨[], []⟩, r)
  | k + 1 => (upd (r.tab k).1 k (r.tab k).2.lreg, (r.tab k).2.g4.2)
def toksT (m : Nat → RegM) (k : Nat) : List Int := (List.range k).flatMap fun i => (m i).h.map HoldM.t
theorem toksT_succ (m : Nat → RegM) (k : Nat) : toksT m (k + 1) = toksT m k ++ (m k).h.map HoldM.t := by simp [toksT, List.range_succ]
def tokB (last : Int) (ts : List Int) (t : Int) : Bool := decide (0 < t) && decide (t ≤ last) && !ts.contains t
def okRev (last : Int) : List Int → Bool
  | [] => true
  | t :: r => okRev last r && tokB last r.reverse t
def okToks (last : Int) (ts : List Int) : Bool := okRev last ts.reverse
theorem okToks_snoc (last : Int) (ts : List Int) (t : Int) : okToks last (ts ++ [t]) = (okToks last ts && tokB last ts t) := by
  unfold okToks
  rw [List.reverse_append, List.reverse_singleton, List.singleton_append]
  show (okRev last ts.reverse && tokB last ts.reverse.reverse t) = _
  rw [List.reverse_reverse]
theorem okToks_nil (last : Int) : okToks last [] = true := rfl
def ckH (many : Bool) (seen : List Int) : List HoldM → Bool
  | [] => true
  | h :: r => (nodeB h.c && modeB h.m && !seen.contains h.c && !(many && (h.m == 2))) && ckH many (seen ++ [h.c]) r
def ckW (seen : List Int) : List WantM → Bool
  | [] => true
  | x :: r => (nodeB x.c && modeB x.m && !seen.contains x.c) && ckW (seen ++ [x.c]) r
def checkB (x : RegM) : Bool := decide (x.h.length ≤ 4) && decide (x.w.length ≤ 4) && ckH (decide (1 < x.h.length)) [] x.h && ckW (x.h.map HoldM.c) x.w
def chkT (m : Nat → RegM) (k : Nat) : Bool := (List.range k).all fun i => checkB (m i)
theorem chkT_succ (m : Nat → RegM) (k : Nat) : chkT m (k + 1) = (chkT m k && checkB (m k)) := by simp [chkT, List.range_succ]
def Rd.t1 (r : Rd) : Int × Rd := r.num 8
def Rd.t2 (r : Rd) : Int × Rd := r.t1.2.num 8
def Rd.t4 (r : Rd) : (Nat → RegM) × Rd := r.t2.2.tab 4
def uTab (bs : List Int) : TabM := ⟨(Rd.t1 ⟨bs, false⟩).1, (Rd.t2 ⟨bs, false⟩).1, (Rd.t4 ⟨bs, false⟩).1⟩
def uOk (bs : List Int) : Bool := okToks (uTab bs).last (toksT (uTab bs).r 4) && chkT (uTab bs).r 4
def uE (bs : List Int) : Int := if (Rd.t4 ⟨bs, false⟩).2.endE ≠ 0 then (Rd.t4 ⟨bs, false⟩).2.endE else if uOk bs = true then 0 else 1

theorem Rd.Ok.ho {r : Rd} (h : r.Ok) : r.ho.2.Ok := (((h.num 1).num 1).num 8).num 8
theorem Rd.Ok.wo {r : Rd} (h : r.Ok) : r.wo.2.Ok := (h.num 1).num 1
theorem Rd.Ok.hos {r : Rd} (h : r.Ok) (n : Nat) : (r.hos n).2.Ok := by
  induction n with
  | zero => exact h
  | succ n ih => exact ih.ho
theorem Rd.Ok.wos {r : Rd} (h : r.Ok) (n : Nat) : (r.wos n).2.Ok := by
  induction n with
  | zero => exact h
  | succ n ih => exact ih.wo
theorem Rd.Ok.g4 {r : Rd} (h : r.Ok) : r.g4.2.Ok := (((h.num 1).hos _).num 1).wos _
theorem Rd.Ok.tab {r : Rd} (h : r.Ok) (k : Nat) : (r.tab k).2.Ok := by
  induction k with
  | zero => exact h
  | succ k ih => exact ih.g4
theorem Rd.hos_length (r : Rd) (n : Nat) : (r.hos n).1.length = n := by
  induction n with
  | zero => rfl
  | succ n ih => show ((r.hos n).1 ++ [_]).length = _; simp [ih]
theorem Rd.wos_length (r : Rd) (n : Nat) : (r.wos n).1.length = n := by
  induction n with
  | zero => rfl
  | succ n ih => show ((r.wos n).1 ++ [_]).length = _; simp [ih]
theorem toksT_upd (m : Nat → RegM) (k i : Nat) (x : RegM) (h : k ≤ i) : toksT (upd m i x) k = toksT m k := by
  induction k with
  | zero => rfl
  | succ k ih =>
    rw [toksT_succ, toksT_succ, ih (by omega)]
    unfold upd
    rw [if_neg (by omega)]
theorem chkT_upd (m : Nat → RegM) (k i : Nat) (x : RegM) (h : k ≤ i) : chkT (upd m i x) k = chkT m k := by
  induction k with
  | zero => rfl
  | succ k ih =>
    rw [chkT_succ, chkT_succ, ih (by omega)]
    unfold upd
    rw [if_neg (by omega)]

/-! ### what a table out of bytes is -/
/-- tokens are given once, up to the last one -/
structure TokOk (T : TabM) : Prop where
  l0 : 0 ≤ T.last
  nd : ∀ i, i < 4 → ((T.r i).h.map HoldM.t).Nodup
  ap : ∀ i j, i < 4 → j < 4 → i ≠ j → ∀ x ∈ (T.r i).h, ∀ y ∈ (T.r j).h, x.t ≠ y.t
  le : ∀ i, i < 4 → ∀ x ∈ (T.r i).h, 0 < x.t ∧ x.t ≤ T.last
theorem okToks_spec {last : Int} : ∀ {ts : List Int}, okToks last ts = true → ts.Nodup ∧ ∀ t ∈ ts, 0 < t ∧ t ≤ last := by
  have key : ∀ rs : List Int, okRev last rs = true → rs.reverse.Nodup ∧ ∀ t ∈ rs, 0 < t ∧ t ≤ last := by
    intro rs
    induction rs with
    | nil => intro _; exact ⟨List.nodup_nil, fun _ h => absurd h List.not_mem_nil⟩
    | cons t r ih =>
      intro h
      unfold okRev at h
      rw [Bool.and_eq_true] at h
      obtain ⟨h1, h2⟩ := h
      obtain ⟨i1, i2⟩ := ih h1
      unfold tokB at h2
      simp only [Bool.and_eq_true, decide_eq_true_eq, Bool.not_eq_true', List.contains_eq_mem, decide_eq_false_iff_not, List.mem_reverse] at h2
      refine ⟨?_, fun x hx => ?_⟩
      · rw [List.reverse_cons, List.nodup_append]
        refine ⟨i1, by simp, fun a ha b hb e => ?_⟩
        rw [List.mem_singleton] at hb
        rw [List.mem_reverse] at ha
        subst hb
        subst e
        exact h2.2 ha
      · rcases List.mem_cons.1 hx with rfl | hx
        · exact h2.1
        · exact i2 x hx
  intro ts h
  obtain ⟨h1, h2⟩ := key ts.reverse h
  rw [List.reverse_reverse] at h1
  exact ⟨h1, fun t ht => h2 t (List.mem_reverse.2 ht)⟩
theorem toksT_four (m : Nat → RegM) : toksT m 4 = (m 0).h.map HoldM.t ++ ((m 1).h.map HoldM.t ++ ((m 2).h.map HoldM.t ++ (m 3).h.map HoldM.t)) := by
  rw [toksT_succ, toksT_succ, toksT_succ, toksT_succ]
  simp [toksT]
theorem lt4U {k : Nat} (h : k < 4) : k = 0 ∨ k = 1 ∨ k = 2 ∨ k = 3 := by omega
theorem TokOk.of {T : TabM} (h0 : 0 ≤ T.last) (h : okToks T.last (toksT T.r 4) = true) : TokOk T := by
  obtain ⟨h1, h2⟩ := okToks_spec h
  rw [toksT_four] at h1 h2
  simp only [List.nodup_append, List.mem_append] at h1 h2
  obtain ⟨n0, ⟨n1, ⟨n2, n3, d23⟩, d1⟩, d0⟩ := h1
  have mt : ∀ {i : Nat} {x : HoldM}, x ∈ (T.r i).h → x.t ∈ (T.r i).h.map HoldM.t := fun hx => List.mem_map.2 ⟨_, hx, rfl⟩
  have ap : ∀ i j, i < j → j < 4 → ∀ x ∈ (T.r i).h, ∀ y ∈ (T.r j).h, x.t ≠ y.t := by
    intro i j hij hj x hx y hy
    rcases lt4U (by omega : i < 4) with rfl | rfl | rfl | rfl <;> rcases lt4U hj with rfl | rfl | rfl | rfl <;> try omega
    · exact d0 _ (mt hx) _ (.inl (mt hy))
    · exact d0 _ (mt hx) _ (.inr (.inl (mt hy)))
    · exact d0 _ (mt hx) _ (.inr (.inr (mt hy)))
    · exact d1 _ (mt hx) _ (.inl (mt hy))
    · exact d1 _ (mt hx) _ (.inr (mt hy))
    · exact d23 _ (mt hx) _ (mt hy)
  refine ⟨h0, fun i hi => ?_, fun i j hi hj hij x hx y hy => ?_, fun i hi x hx => ?_⟩
  · rcases lt4U hi with rfl | rfl | rfl | rfl
    · exact n0
    · exact n1
    · exact n2
    · exact n3
  · rcases Nat.lt_or_gt_of_ne hij with h3 | h3
    · exact ap i j h3 hj x hx y hy
    · exact (ap j i h3 hi y hy x hx).symm
  · refine h2 x.t ?_
    rcases lt4U hi with rfl | rfl | rfl | rfl
    · exact .inl (mt hx)
    · exact .inr (.inl (mt hx))
    · exact .inr (.inr (.inl (mt hx)))
    · exact .inr (.inr (.inr (mt hx)))
theorem uTab_ok {bs : List Int} (h : Rd.Ok ⟨bs, false⟩) (he : uE bs = 0) : TabOk (uTab bs) ∧ TokOk (uTab bs) := by
  have hok : uOk bs = true := by
    unfold uE at he
    split at he
    · rename_i h1
      exact absurd he h1
    · split at he
      · assumption
      · cases he
  unfold uOk at hok
  rw [Bool.and_eq_true] at hok
  have hn := Rd.num8_lt h
  have hl := Rd.num8_lt (h.num 8)
  have hc : ∀ i, i < 4 → checkB ((uTab bs).r i) = true := fun i hi => List.all_eq_true.1 hok.2 i (List.mem_range.2 hi)
  refine ⟨⟨hn.1, Int.le_of_lt_add_one hn.2, hl.1, Int.le_of_lt_add_one hl.2, fun i hi => ?_, fun i hi => ?_⟩, .of hl.1 hok.1⟩
  · have := hc i hi
    unfold checkB at this
    simp only [Bool.and_eq_true, decide_eq_true_eq] at this
    exact this.1.1.1
  · have := hc i hi
    unfold checkB at this
    simp only [Bool.and_eq_true, decide_eq_true_eq] at this
    exact this.1.1.2
end Go.Proofs.Ytbgknfdaaffeaaa
