/- Locks: a table out of bytes (plain). -/
import Derived.Test.YtbgknfdaaffeaaaLkM
import Derived.Test.YtbgknfdaaffeaaaRdSt
namespace Go.Proofs.Ytbgknfdaaffeaaa

def Rd.ho (r : Rd) : HoldM × Rd := (⟨(r.num 1).1, ((r.num 1).2.num 1).1, (((r.num 1).2.num 1).2.num 8).1, ((((r.num 1).2.num 1).2.num 8).2.num 8).1⟩, ((((r.num 1).2.num 1).2.num 8).2.num 8).2)
def Rd.wo (r : Rd) : WantM × Rd := (⟨(r.num 1).1, ((r.num 1).2.num 1).1⟩, ((r.num 1).2.num 1).2)
def Rd.hos (r : Rd) : Nat → List HoldM × Rd
  | 0 => ([], r)
  | n + 1 => ((r.hos n).1 ++ [(r.hos n).2.ho.1], (r.hos n).2.ho.2)
def Rd.wos (r : Rd) : Nat → List WantM × Rd
  | 0 => ([], r)
  | n + 1 => ((r.wos n).1 ++ [(r.wos n).2.wo.1], (r.wos n).2.wo.2)
def Rd.g1 (r : Rd) : Int × Rd := r.num 1
def Rd.g2 (r : Rd) : List HoldM × Rd := r.g1.2.hos r.g1.1.toNat
def Rd.g3 (r : Rd) : Int × Rd := r.g2.2.num 1
def Rd.g4 (r : Rd) : List WantM × Rd := r.g3.2.wos r.g3.1.toNat
def Rd.lreg (r : Rd) : RegM := ⟨r.g2.1, r.g4.1⟩
def Rd.tab (r : Rd) : Nat → (Nat → RegM) × Rd
  | 0 => (fun _ => ⟨[], []⟩, r)
  | k + 1 => (upd (r.tab k).1 k (r.tab k).2.lreg, (r.tab k).2.g4.2)
def toksT (m : Nat → RegM) (k : Nat) : List Int := (List.range k).flatMap fun i => (m i).h.map HoldM.t
theorem toksT_succ (m : Nat → RegM) (k : Nat) : toksT m (k + 1) = toksT m k ++ (m k).h.map HoldM.t := by simp [toksT, List.range_succ]
def tokB (last : Int) (ts : List Int) (t : Int) : Bool := decide (0 < t) && decide (t ≤ last) && !ts.contains t
def okRev (last : Int) : List Int → Bool
  | [] => true
  | t :: r => okRev last r && tokB last r.reverse t
def okToks (last : Int) (ts : List Int) : Bool := okRev last ts.reverse
theorem okToks_snoc (last : Int) (ts : List Int) (t : Int) : okToks last (ts ++ [t]) = (okToks last ts && tokB last ts t) := by
  unfold okToks
  rw [List.reverse_append, List.reverse_singleton, List.singleton_append]
  show (okRev last ts.reverse && tokB last ts.reverse.reverse t) = _
  rw [List.reverse_reverse]
theorem okToks_nil (last : Int) : okToks last [] = true := rfl
def ckH (many : Bool) (seen : List Int) : List HoldM → Bool
  | [] => true
  | h :: r => (nodeB h.c && modeB h.m && !seen.contains h.c && !(many && (h.m == 2))) && ckH many (seen ++ [h.c]) r
def ckW (seen : List Int) : List WantM → Bool
  | [] => true
  | x :: r => (nodeB x.c && modeB x.m && !seen.contains x.c) && ckW (seen ++ [x.c]) r
def checkB (x : RegM) : Bool := decide (x.h.length ≤ 4) && decide (x.w.length ≤ 4) && ckH (decide (1 < x.h.length)) [] x.h && ckW (x.h.map HoldM.c) x.w
def chkT (m : Nat → RegM) (k : Nat) : Bool := (List.range k).all fun i => checkB (m i)
theorem chkT_succ (m : Nat → RegM) (k : Nat) : chkT m (k + 1) = (chkT m k && checkB (m k)) := by simp [chkT, List.range_succ]
def Rd.t1 (r : Rd) : Int × Rd := r.num 8
def Rd.t2 (r : Rd) : Int × Rd := r.t1.2.num 8
def Rd.t4 (r : Rd) : (Nat → RegM) × Rd := r.t2.2.tab 4
def uTab (bs : List Int) : TabM := ⟨(Rd.t1 ⟨bs, false⟩).1, (Rd.t2 ⟨bs, false⟩).1, (Rd.t4 ⟨bs, false⟩).1⟩
def uOk (bs : List Int) : Bool := okToks (uTab bs).last (toksT (uTab bs).r 4) && chkT (uTab bs).r 4
def uE (bs : List Int) : Int := if (Rd.t4 ⟨bs, false⟩).2.endE ≠ 0 then (Rd.t4 ⟨bs, false⟩).2.endE else if uOk bs = true then 0 else 1

theorem Rd.Ok.ho {r : Rd} (h : r.Ok) : r.ho.2.Ok := (((h.num 1).num 1).num 8).num 8
theorem Rd.Ok.wo {r : Rd} (h : r.Ok) : r.wo.2.Ok := (h.num 1).num 1
theorem Rd.Ok.hos {r : Rd} (h : r.Ok) (n : Nat) : (r.hos n).2.Ok := by
  induction n with
  | zero => exact h
  | succ n ih => exact ih.ho
theorem Rd.Ok.wos {r : Rd} (h : r.Ok) (n : Nat) : (r.wos n).2.Ok := by
  induction n with
  | zero => exact h
  | succ n ih => exact ih.wo
theorem Rd.Ok.g4 {r : Rd} (h : r.Ok) : r.g4.2.Ok := (((h.num 1).hos _).num 1).wos _
theorem Rd.Ok.tab {r : Rd} (h : r.Ok) (k : Nat) : (r.tab k).2.Ok := by
  induction k with
  | zero => exact h
  | succ k ih => exact ih.g4
theorem Rd.hos_length (r : Rd) (n : Nat) : (r.hos n).1.length = n := by
  induction n with
  | zero => rfl
  | succ n ih => show ((r.hos n).1 ++ [_]).length = _; simp [ih]
theorem Rd.wos_length (r : Rd) (n : Nat) : (r.wos n).1.length = n := by
  induction n with
  | zero => rfl
  | succ n ih => show ((r.wos n).1 ++ [_]).length = _; simp [ih]
theorem toksT_upd (m : Nat → RegM) (k i : Nat) (x : RegM) (h : k ≤ i) : toksT (upd m i x) k = toksT m k := by
  induction k with
  | zero => rfl
  | succ k ih =>
    rw [toksT_succ, toksT_succ, ih (by omega)]
    unfold upd
    rw [if_neg (by omega)]
theorem chkT_upd (m : Nat → RegM) (k i : Nat) (x : RegM) (h : k ≤ i) : chkT (upd m i x) k = chkT m k := by
  induction k with
  | zero => rfl
  | succ k ih =>
    rw [chkT_succ, chkT_succ, ih (by omega)]
    unfold upd
    rw [if_neg (by omega)]

/-! ### what a table out of bytes is -/
/-- tokens are given once, up to the last one -/
structure TokOk (T : TabM) : Prop where
  l0 : 0 ≤ T.last
  nd : ∀ i, i < 4 → ((T.r i).h.map HoldM.t).Nodup
  ap : ∀ i j, i < 4 → j < 4 → i ≠ j → ∀ x ∈ (T.r i).h, ∀ y ∈ (T.r j).h, x.t ≠ y.t
  le : ∀ i, i < 4 → ∀ x ∈ (T.r i).h, 0 < x.t ∧ x.t ≤ T.last
theorem okToks_spec {last : Int} : ∀ {ts : List Int}, okToks last ts = true → ts.Nodup ∧ ∀ t ∈ ts, 0 < t ∧ t ≤ last := by
  have key : ∀ rs : List Int, okRev last rs = true → rs.reverse.Nodup ∧ ∀ t ∈ rs, 0 < t ∧ t ≤ last := by
    intro rs
    induction rs with
    | nil => intro _; exact ⟨List.nodup_nil, fun _ h => absurd h List.not_mem_nil⟩
    | cons t r ih =>
      intro h
      unfold okRev at h
      rw [Bool.and_eq_true] at h
      obtain ⟨h1, h2⟩ := h
      obtain ⟨i1, i2⟩ := ih h1
      unfold tokB at h2
      simp only [Bool.and_eq_true, decide_eq_true_eq, Bool.not_eq_true', List.contains_eq_mem, decide_eq_false_iff_not, List.mem_reverse] at h2
      refine ⟨?_, fun x hx => ?_⟩
      · rw [List.reverse_cons, List.nodup_append]
        refine ⟨i1, by simp, fun a ha b hb e => ?_⟩
        rw [List.mem_singleton] at hb
        rw [List.mem_reverse] at ha
        subst hb
        subst e
        exact h2.2 ha
      · rcases List.mem_cons.1 hx with rfl | hx
        · exact h2.1
        · exact i2 x hx
  intro ts h
  obtain ⟨h1, h2⟩ := key ts.reverse h
  rw [List.reverse_reverse] at h1
  exact ⟨h1, fun t ht => h2 t (List.mem_reverse.2 ht)⟩
theorem toksT_four (m : Nat → RegM) : toksT m 4 = (m 0).h.map HoldM.t ++ ((m 1).h.map HoldM.t ++ ((m 2).h.map HoldM.t ++ (m 3).h.map HoldM.t)) := by
  rw [toksT_succ, toksT_succ, toksT_succ, toksT_succ]
  simp [toksT]
theorem lt4U {k : Nat} (h : k < 4) : k = 0 ∨ k = 1 ∨ k = 2 ∨ k = 3 := by omega
theorem TokOk.of {T : TabM} (h0 : 0 ≤ T.last) (h : okToks T.last (toksT T.r 4) = true) : TokOk T := by
  obtain ⟨h1, h2⟩ := okToks_spec h
  rw [toksT_four] at h1 h2
  simp only [List.nodup_append, List.mem_append] at h1 h2
  obtain ⟨n0, ⟨n1, ⟨n2, n3, d23⟩, d1⟩, d0⟩ := h1
  have mt : ∀ {i : Nat} {x : HoldM}, x ∈ (T.r i).h → x.t ∈ (T.r i).h.map HoldM.t := fun hx => List.mem_map.2 ⟨_, hx, rfl⟩
  have ap : ∀ i j, i < j → j < 4 → ∀ x ∈ (T.r i).h, ∀ y ∈ (T.r j).h, x.t ≠ y.t := by
    intro i j hij hj x hx y hy
    rcases lt4U (by omega : i < 4) with rfl | rfl | rfl | rfl <;> rcases lt4U hj with rfl | rfl | rfl | rfl <;> try omega
    · exact d0 _ (mt hx) _ (.inl (mt hy))
    · exact d0 _ (mt hx) _ (.inr (.inl (mt hy)))
    · exact d0 _ (mt hx) _ (.inr (.inr (mt hy)))
    · exact d1 _ (mt hx) _ (.inl (mt hy))
    · exact d1 _ (mt hx) _ (.inr (mt hy))
    · exact d23 _ (mt hx) _ (mt hy)
  refine ⟨h0, fun i hi => ?_, fun i j hi hj hij x hx y hy => ?_, fun i hi x hx => ?_⟩
  · rcases lt4U hi with rfl | rfl | rfl | rfl
    · exact n0
    · exact n1
    · exact n2
    · exact n3
  · rcases Nat.lt_or_gt_of_ne hij with h3 | h3
    · exact ap i j h3 hj x hx y hy
    · exact (ap j i h3 hi y hy x hx).symm
  · refine h2 x.t ?_
    rcases lt4U hi with rfl | rfl | rfl | rfl
    · exact .inl (mt hx)
    · exact .inr (.inl (mt hx))
    · exact .inr (.inr (.inl (mt hx)))
    · exact .inr (.inr (.inr (mt hx)))
theorem uTab_ok {bs : List Int} (h : Rd.Ok ⟨bs, false⟩) (he : uE bs = 0) : TabOk (uTab bs) ∧ TokOk (uTab bs) := by
  have hok : uOk bs = true := by
    unfold uE at he
    split at he
    · rename_i h1
      exact absurd he h1
    · split at he
      · assumption
      · cases he
  unfold uOk at hok
  rw [Bool.and_eq_true] at hok
  have hn := Rd.num8_lt h
  have hl := Rd.num8_lt (h.num 8)
  have hc : ∀ i, i < 4 → checkB ((uTab bs).r i) = true := fun i hi => List.all_eq_true.1 hok.2 i (List.mem_range.2 hi)
  refine ⟨⟨hn.1, Int.le_of_lt_add_one hn.2, hl.1, Int.le_of_lt_add_one hl.2, fun i hi => ?_, fun i hi => ?_⟩, .of hl.1 hok.1⟩
  · have := hc i hi
    unfold checkB at this
    simp only [Bool.and_eq_true, decide_eq_true_eq] at this
    exact this.1.1.1
  · have := hc i hi
    unfold checkB at this
    simp only [Bool.and_eq_true, decide_eq_true_eq] at this
    exact this.1.1.2
end Go.Proofs.Ytbgknfdaaffeaaa
/- Locks: the document's test of a table out of bytes; a table's bytes (plain). -/
namespace Go.Proofs.Ytbgknfdaaffeaaa

/-! ### distinct numbers, one by one -/
def dupRev : List Int → Bool
  | [] => true
  | t :: r => dupRev r && !r.contains t
def dupOk (ts : List Int) : Bool := dupRev ts.reverse
theorem dupOk_snoc (ts : List Int) (t : Int) : dupOk (ts ++ [t]) = (dupOk ts && !ts.contains t) := by
  unfold dupOk
  rw [List.reverse_append, List.reverse_singleton, List.singleton_append]
  show (dupRev ts.reverse && !ts.reverse.contains t) = _
  rw [List.contains_eq_mem, List.contains_eq_mem]
  simp
theorem dupRev_iff : ∀ rs : List Int, dupRev rs = true ↔ rs.Nodup
  | [] => by simp [dupRev]
  | t :: r => by
    unfold dupRev
    rw [Bool.and_eq_true, dupRev_iff r, List.nodup_cons]
    simp [List.contains_eq_mem]
    exact And.comm
theorem nodup_rev {l : List Int} : l.reverse.Nodup ↔ l.Nodup := by
  unfold List.Nodup
  rw [List.pairwise_reverse]
  exact ⟨fun h => h.imp (fun a b => a b.symm), fun h => h.imp (fun a b => a b.symm)⟩
theorem dupOk_iff (ts : List Int) : dupOk ts = true ↔ ts.Nodup := by
  unfold dupOk
  rw [dupRev_iff, nodup_rev]
theorem okToks_iff (last : Int) (ts : List Int) : okToks last ts = true ↔ ts.Nodup ∧ ∀ t ∈ ts, 0 < t ∧ t ≤ last := by
  refine ⟨okToks_spec, fun h => ?_⟩
  unfold okToks
  have key : ∀ rs : List Int, rs.Nodup → (∀ t ∈ rs, 0 < t ∧ t ≤ last) → okRev last rs = true := by
    intro rs
    induction rs with
    | nil => intro _ _; rfl
    | cons t r ih =>
      intro h1 h2
      rw [List.nodup_cons] at h1
      unfold okRev tokB
      rw [ih h1.2 (fun x hx => h2 x (by simp [hx]))]
      have := h2 t (by simp)
      simp [List.contains_eq_mem, h1.1, this.1, this.2]
  exact key _ (nodup_rev.2 h.1) (fun t ht => h.2 t (List.mem_reverse.1 ht))
/-- who holds and waits: each once, none above 15 -/
def whoOk (xs : List Int) : Bool := dupOk xs && xs.all fun c => decide (c ≤ 15)
theorem whoOk_snoc (xs : List Int) (c : Int) : whoOk (xs ++ [c]) = (whoOk xs && (!xs.contains c && decide (c ≤ 15))) := by
  unfold whoOk
  rw [dupOk_snoc, List.all_append]
  cases dupOk xs <;> cases xs.contains c <;> cases xs.all (fun c => decide (c ≤ 15)) <;> simp
theorem whoOk_take {xs : List Int} {k : Nat} (h : whoOk (xs.take k) = false) : whoOk xs = false := by
  cases he : whoOk xs with
  | false => rfl
  | true =>
    unfold whoOk at he h
    rw [Bool.and_eq_true, dupOk_iff] at he
    rw [(dupOk_iff _).2 (he.1.sublist (List.take_sublist _ _)), Bool.true_and] at h
    rw [List.all_eq_false] at h
    obtain ⟨c, hc, h2⟩ := h
    have := List.all_eq_true.1 he.2 c (List.mem_of_mem_take hc)
    exact absurd this h2
theorem dupOk_take {xs : List Int} {k : Nat} (h : dupOk (xs.take k) = false) : dupOk xs = false := by
  cases he : dupOk xs with
  | false => rfl
  | true =>
    rw [dupOk_iff] at he
    rw [(dupOk_iff _).2 (he.sublist (List.take_sublist _ _))] at h
    cases h
def holdFine (many : Bool) (last : Int) (h : HoldM) : Bool := !decide (h.m < 1) && !decide (h.m > 2) && !((h.m == 2) && many) && !(h.t == 0) && !decide (h.t > last)
def wantFine (x : WantM) : Bool := !decide (x.m < 1) && !decide (x.m > 2)
def fineB (last : Int) (x : RegM) : Bool := decide (x.h.length ≤ 4) && decide (x.w.length ≤ 4) && x.h.all (holdFine (decide (1 < x.h.length)) last) && x.w.all wantFine && whoOk (x.h.map HoldM.c ++ x.w.map WantM.c)
theorem contains_f {xs : List Int} {c : Int} : (!xs.contains c) = true ↔ c ∉ xs := by simp [List.contains_eq_mem]
theorem ckH_iff (many : Bool) : ∀ (hs : List HoldM) (seen : List Int), seen.Nodup → (ckH many seen hs = true ↔ (∀ h ∈ hs, nodeB h.c = true ∧ modeB h.m = true ∧ (many && (h.m == 2)) = false) ∧ (seen ++ hs.map HoldM.c).Nodup)
  | [], seen, hn => by simp [ckH, hn]
  | h :: r, seen, hn => by
    unfold ckH
    rw [Bool.and_eq_true, Bool.and_eq_true, Bool.and_eq_true, Bool.and_eq_true, contains_f]
    have e : seen ++ (h :: r).map HoldM.c = (seen ++ [h.c]) ++ r.map HoldM.c := by simp
    rw [e]
    by_cases hc : h.c ∈ seen
    · constructor
      · intro hh; exact absurd hc hh.1.1.2
      · intro hh
        exfalso
        have := hh.2
        rw [List.nodup_append] at this
        have := this.1
        rw [List.nodup_append] at this
        exact this.2.2 _ hc _ (by simp) rfl
    · rw [ckH_iff many r (seen ++ [h.c]) (by
        rw [List.nodup_append]
        exact ⟨hn, by simp, fun a ha b hb e => by rw [List.mem_singleton] at hb; subst hb; subst e; exact hc ha⟩)]
      constructor
      · rintro ⟨⟨⟨⟨a, b⟩, _⟩, d⟩, f, g⟩
        refine ⟨fun x hx => ?_, g⟩
        rcases List.mem_cons.1 hx with rfl | hx
        · exact ⟨a, b, by simpa only [Bool.not_eq_true'] using d⟩
        · exact f x hx
      · rintro ⟨f, g⟩
        obtain ⟨a, b, d⟩ := f h (by simp)
        exact ⟨⟨⟨⟨a, b⟩, hc⟩, by rw [d]; rfl⟩, fun x hx => f x (by simp [hx]), g⟩
theorem ckW_iff : ∀ (ws : List WantM) (seen : List Int), seen.Nodup → (ckW seen ws = true ↔ (∀ h ∈ ws, nodeB h.c = true ∧ modeB h.m = true) ∧ (seen ++ ws.map WantM.c).Nodup)
  | [], seen, hn => by simp [ckW, hn]
  | h :: r, seen, hn => by
    unfold ckW
    rw [Bool.and_eq_true, Bool.and_eq_true, Bool.and_eq_true, contains_f]
    have e : seen ++ (h :: r).map WantM.c = (seen ++ [h.c]) ++ r.map WantM.c := by simp
    rw [e]
    by_cases hc : h.c ∈ seen
    · constructor
      · intro hh; exact absurd hc hh.1.2
      · intro hh
        exfalso
        have := hh.2
        rw [List.nodup_append] at this
        have := this.1
        rw [List.nodup_append] at this
        exact this.2.2 _ hc _ (by simp) rfl
    · rw [ckW_iff r (seen ++ [h.c]) (by
        rw [List.nodup_append]
        exact ⟨hn, by simp, fun a ha b hb e => by rw [List.mem_singleton] at hb; subst hb; subst e; exact hc ha⟩)]
      constructor
      · rintro ⟨⟨⟨a, b⟩, _⟩, f, g⟩
        refine ⟨fun x hx => ?_, g⟩
        rcases List.mem_cons.1 hx with rfl | hx
        · exact ⟨a, b⟩
        · exact f x hx
      · rintro ⟨f, g⟩
        obtain ⟨a, b⟩ := f h (by simp)
        exact ⟨⟨⟨a, b⟩, hc⟩, fun x hx => f x (by simp [hx]), g⟩
/-- what must hold of one region -/
structure RegOk (x : RegM) : Prop where
  hl : x.h.length ≤ 4
  wl : x.w.length ≤ 4
  h : ∀ h ∈ x.h, nodeB h.c = true ∧ modeB h.m = true ∧ (1 < x.h.length → h.m ≠ 2)
  w : ∀ h ∈ x.w, nodeB h.c = true ∧ modeB h.m = true
  nd : (x.h.map HoldM.c ++ x.w.map WantM.c).Nodup
theorem many_iff {n : Nat} {m : Int} : (decide (1 < n) && (m == 2)) = false ↔ (1 < n → m ≠ 2) := by
  cases h : decide (1 < n) with
  | false => simp at h; simp; omega
  | true => simp at h; simp [h]
theorem checkB_iff (x : RegM) : checkB x = true ↔ RegOk x := by
  unfold checkB
  rw [Bool.and_eq_true, Bool.and_eq_true, Bool.and_eq_true, decide_eq_true_eq, decide_eq_true_eq, ckH_iff _ _ _ List.nodup_nil]
  constructor
  · rintro ⟨⟨⟨a, b⟩, c, d⟩, e⟩
    rw [List.nil_append] at d
    rw [ckW_iff _ _ d] at e
    exact ⟨a, b, fun h hh => ⟨(c h hh).1, (c h hh).2.1, many_iff.1 (c h hh).2.2⟩, e.1, e.2⟩
  · rintro ⟨a, b, c, d, e⟩
    have hn : (x.h.map HoldM.c).Nodup := (List.nodup_append.1 e).1
    exact ⟨⟨⟨a, b⟩, fun h hh => ⟨(c h hh).1, (c h hh).2.1, many_iff.2 (c h hh).2.2⟩, by rw [List.nil_append]; exact hn⟩, (ckW_iff _ _ hn).2 ⟨d, e⟩⟩
theorem modeB_iff (m : Int) : modeB m = true ↔ 1 ≤ m ∧ m ≤ 2 := by
  unfold modeB
  simp
  omega
theorem fineB_iff (last : Int) (x : RegM) (h0 : (∀ h ∈ x.h, 0 ≤ h.c) ∧ (∀ h ∈ x.w, 0 ≤ h.c)) (ht : ∀ h ∈ x.h, 0 ≤ h.t) : fineB last x = true ↔ RegOk x ∧ ∀ h ∈ x.h, 0 < h.t ∧ h.t ≤ last := by
  unfold fineB whoOk
  rw [Bool.and_eq_true, Bool.and_eq_true, Bool.and_eq_true, Bool.and_eq_true, Bool.and_eq_true, decide_eq_true_eq, decide_eq_true_eq, List.all_eq_true, List.all_eq_true, List.all_eq_true, dupOk_iff]
  have key : ∀ h ∈ x.h, (holdFine (decide (1 < x.h.length)) last h = true ↔ (modeB h.m = true ∧ (1 < x.h.length → h.m ≠ 2)) ∧ 0 < h.t ∧ h.t ≤ last) := fun h hh => by
    have := ht h hh
    unfold holdFine
    rw [modeB_iff]
    simp
    omega
  have keyw : ∀ h : WantM, wantFine h = true ↔ modeB h.m = true := fun h => by
    unfold wantFine
    rw [modeB_iff]
    simp
  have nd : ∀ c : Int, 0 ≤ c → (nodeB c = true ↔ c ≤ 15) := fun c h => by
    unfold nodeB
    simp
    omega
  constructor
  · rintro ⟨⟨⟨⟨a, b⟩, c⟩, d⟩, e, f⟩
    have f1 : ∀ h ∈ x.h, h.c ≤ 15 := fun h hh => by simpa using f h.c (List.mem_append_left _ (List.mem_map.2 ⟨h, hh, rfl⟩))
    have f2 : ∀ h ∈ x.w, h.c ≤ 15 := fun h hh => by simpa using f h.c (List.mem_append_right _ (List.mem_map.2 ⟨h, hh, rfl⟩))
    refine ⟨⟨a, b, fun h hh => ?_, fun h hh => ⟨(nd _ (h0.2 h hh)).2 (f2 h hh), (keyw h).1 (d h hh)⟩, e⟩, fun h hh => ((key h hh).1 (c h hh)).2⟩
    have := (key h hh).1 (c h hh)
    exact ⟨(nd _ (h0.1 h hh)).2 (f1 h hh), this.1.1, this.1.2⟩
  · rintro ⟨⟨a, b, c, d, e⟩, f⟩
    refine ⟨⟨⟨⟨a, b⟩, fun h hh => (key h hh).2 ⟨(c h hh).2, f h hh⟩⟩, fun h hh => (keyw h).2 (d h hh).2⟩, e, fun k hk => ?_⟩
    rcases List.mem_append.1 hk with hk | hk
    · obtain ⟨h, hh, rfl⟩ := List.mem_map.1 hk
      simpa using (nd _ (h0.1 h hh)).1 (c h hh).1
    · obtain ⟨h, hh, rfl⟩ := List.mem_map.1 hk
      simpa using (nd _ (h0.2 h hh)).1 (d h hh).1
def fineT (last : Int) (m : Nat → RegM) (k : Nat) : Bool := (List.range k).all fun i => fineB last (m i)
theorem fineT_succ (last : Int) (m : Nat → RegM) (k : Nat) : fineT last m (k + 1) = (fineT last m k && fineB last (m k)) := by simp [fineT, List.range_succ]
theorem fineT_false {last : Int} {m : Nat → RegM} {k n : Nat} (hk : k < n) (h : fineB last (m k) = false) : fineT last m n = false := by
  unfold fineT
  rw [List.all_eq_false]
  exact ⟨k, List.mem_range.2 hk, by rw [h]; exact Bool.false_ne_true⟩
/-- what a reader reads -/
theorem Rd.hos_mem {r : Rd} (h : r.Ok) (n : Nat) : ∀ x ∈ (r.hos n).1, (0 ≤ x.c ∧ x.c < 256) ∧ (0 ≤ x.m ∧ x.m < 256) ∧ (0 ≤ x.t ∧ x.t < 18446744073709551616) ∧ (0 ≤ x.u ∧ x.u < 18446744073709551616) := by
  induction n with
  | zero => intro x hx; exact absurd hx List.not_mem_nil
  | succ n ih =>
    intro x hx
    have hx : x ∈ (r.hos n).1 ++ [(r.hos n).2.ho.1] := hx
    rcases List.mem_append.1 hx with hx | hx
    · exact ih x hx
    · rw [List.mem_singleton] at hx
      subst hx
      have ok := h.hos n
      exact ⟨Rd.num1_lt ok, Rd.num1_lt (ok.num 1), Rd.num8_lt ((ok.num 1).num 1), Rd.num8_lt (((ok.num 1).num 1).num 8)⟩
theorem Rd.wos_mem {r : Rd} (h : r.Ok) (n : Nat) : ∀ x ∈ (r.wos n).1, (0 ≤ x.c ∧ x.c < 256) ∧ (0 ≤ x.m ∧ x.m < 256) := by
  induction n with
  | zero => intro x hx; exact absurd hx List.not_mem_nil
  | succ n ih =>
    intro x hx
    have hx : x ∈ (r.wos n).1 ++ [(r.wos n).2.wo.1] := hx
    rcases List.mem_append.1 hx with hx | hx
    · exact ih x hx
    · rw [List.mem_singleton] at hx
      subst hx
      have ok := h.wos n
      exact ⟨Rd.num1_lt ok, Rd.num1_lt (ok.num 1)⟩
theorem Rd.tab_at {r : Rd} (h : r.Ok) (k i : Nat) (hi : i < k) : ∃ q : Rd, q.Ok ∧ (r.tab k).1 i = q.lreg := by
  induction k with
  | zero => omega
  | succ k ih =>
    by_cases he : i = k
    · subst he
      exact ⟨(r.tab i).2, h.tab i, if_pos rfl⟩
    · obtain ⟨q, h1, h2⟩ := ih (by omega)
      exact ⟨q, h1, (if_neg he).trans h2⟩
theorem uTab_pos {bs : List Int} (h : Rd.Ok ⟨bs, false⟩) {i : Nat} (hi : i < 4) : ((∀ x ∈ ((uTab bs).r i).h, 0 ≤ x.c) ∧ (∀ x ∈ ((uTab bs).r i).w, 0 ≤ x.c)) ∧ ∀ x ∈ ((uTab bs).r i).h, 0 ≤ x.t := by
  obtain ⟨q, hq, e⟩ := Rd.tab_at ((h.num 8).num 8) 4 i hi
  have e : (uTab bs).r i = q.lreg := e
  rw [e]
  have h1 := Rd.hos_mem (hq.num 1) (q.num 1).1.toNat
  have h2 := Rd.wos_mem (((hq.num 1).hos (q.num 1).1.toNat).num 1) q.g3.1.toNat
  exact ⟨⟨fun x hx => (h1 x hx).1.1, fun x hx => (h2 x hx).1.1⟩, fun x hx => (h1 x hx).2.2.1.1⟩
theorem all4 (p : Nat → Bool) : ((List.range 4).all p) = true ↔ ∀ i, i < 4 → p i = true := by
  rw [List.all_eq_true]
  exact ⟨fun h i hi => h i (List.mem_range.2 hi), fun h i hi => h i (List.mem_range.1 hi)⟩
/-- both tests are one -/
theorem uOk_doc {bs : List Int} (h : Rd.Ok ⟨bs, false⟩) : (fineT (uTab bs).last (uTab bs).r 4 && dupOk (toksT (uTab bs).r 4)) = uOk bs := by
  have hmem : ∀ t, t ∈ toksT (uTab bs).r 4 ↔ ∃ i, i < 4 ∧ ∃ x ∈ ((uTab bs).r i).h, x.t = t := fun t => by
    unfold toksT
    simp
  have e : (fineT (uTab bs).last (uTab bs).r 4 && dupOk (toksT (uTab bs).r 4)) = true ↔ uOk bs = true := by
    unfold uOk
    rw [Bool.and_eq_true, Bool.and_eq_true, okToks_iff, dupOk_iff]
    unfold fineT chkT
    rw [all4, all4]
    constructor
    · rintro ⟨a, b⟩
      have a : ∀ i, i < 4 → RegOk ((uTab bs).r i) ∧ ∀ x ∈ ((uTab bs).r i).h, 0 < x.t ∧ x.t ≤ (uTab bs).last := fun i hi => (fineB_iff _ _ (uTab_pos h hi).1 (uTab_pos h hi).2).1 (a i hi)
      refine ⟨⟨b, fun t ht => ?_⟩, fun i hi => (checkB_iff _).2 (a i hi).1⟩
      obtain ⟨i, hi, x, hx, rfl⟩ := (hmem t).1 ht
      exact (a i hi).2 x hx
    · rintro ⟨⟨a, b⟩, c⟩
      refine ⟨fun i hi => (fineB_iff _ _ (uTab_pos h hi).1 (uTab_pos h hi).2).2 ⟨(checkB_iff _).1 (c i hi), fun x hx => b _ ((hmem _).2 ⟨i, hi, x, hx, rfl⟩)⟩, a⟩
  cases h1 : uOk bs with
  | true => exact e.2 h1
  | false =>
    cases h2 : (fineT (uTab bs).last (uTab bs).r 4 && dupOk (toksT (uTab bs).r 4)) with
    | false => rfl
    | true => rw [e.1 h2] at h1; cases h1

/-! ### a table's bytes -/
def holdB (h : HoldM) : List Int := numI h.c 1 ++ numI h.m 1 ++ numI h.t 8 ++ numI h.u 8
def wantB (x : WantM) : List Int := numI x.c 1 ++ numI x.m 1
def lregB (x : RegM) : List Int := numI (x.h.length : Nat) 1 ++ x.h.flatMap holdB ++ numI (x.w.length : Nat) 1 ++ x.w.flatMap wantB
def lpackTo (m : Nat → RegM) (k : Nat) : List Int := (List.range k).flatMap fun i => lregB (m i)
def packT (T : TabM) : List Int := numI T.now 8 ++ numI T.last 8 ++ lpackTo T.r 4
theorem lpackTo_succ (m : Nat → RegM) (k : Nat) : lpackTo m (k + 1) = lpackTo m k ++ lregB (m k) := by simp [lpackTo, List.range_succ]
theorem lpackTo_upd (m : Nat → RegM) (k i : Nat) (x : RegM) (h : k ≤ i) : lpackTo (upd m i x) k = lpackTo m k := by
  induction k with
  | zero => rfl
  | succ k ih =>
    rw [lpackTo_succ, lpackTo_succ, ih (by omega)]
    unfold upd
    rw [if_neg (by omega)]
theorem Rd.num_goodL {r : Rd} (h : r.Ok) (m : Nat) (h1 : 1 ≤ m) (h8 : m ≤ 8) (hs : (r.num (m : Int)).2.s = false) : r.s = false ∧ r.xs = numI (r.num (m : Int)).1 m ++ (r.num (m : Int)).2.xs := by
  have h2 := Rd.num_good h.hb h1 h8 hs
  refine ⟨h2.1, ?_⟩
  have e : numI (r.num (m : Int)).1 m = numB (r.num (m : Int)).1 m := by
    unfold numI
    rw [if_neg (by omega), Int.toNat_natCast]
  rw [e]
  exact h2.2.1
theorem Rd.ho_good {r : Rd} (h : r.Ok) (hs : r.ho.2.s = false) : r.s = false ∧ r.xs = holdB r.ho.1 ++ r.ho.2.xs := by
  have g4 := Rd.num_goodL (((h.num 1).num 1).num 8) 8 (by omega) (by omega) hs
  have g3 := Rd.num_goodL ((h.num 1).num 1) 8 (by omega) (by omega) g4.1
  have g2 := Rd.num_goodL (h.num 1) 1 (by omega) (by omega) g3.1
  have g1 := Rd.num_goodL h 1 (by omega) (by omega) g2.1
  refine ⟨g1.1, ?_⟩
  have e1 : r.xs = numI (r.num 1).1 1 ++ (r.num 1).2.xs := g1.2
  have e2 : (r.num 1).2.xs = numI ((r.num 1).2.num 1).1 1 ++ ((r.num 1).2.num 1).2.xs := g2.2
  have e3 : ((r.num 1).2.num 1).2.xs = numI (((r.num 1).2.num 1).2.num 8).1 8 ++ (((r.num 1).2.num 1).2.num 8).2.xs := g3.2
  have e4 : (((r.num 1).2.num 1).2.num 8).2.xs = numI ((((r.num 1).2.num 1).2.num 8).2.num 8).1 8 ++ ((((r.num 1).2.num 1).2.num 8).2.num 8).2.xs := g4.2
  show r.xs = (numI (r.num 1).1 1 ++ numI ((r.num 1).2.num 1).1 1 ++ numI (((r.num 1).2.num 1).2.num 8).1 8 ++ numI ((((r.num 1).2.num 1).2.num 8).2.num 8).1 8) ++ ((((r.num 1).2.num 1).2.num 8).2.num 8).2.xs
  rw [e1, e2, e3, e4]
  simp only [List.append_assoc]
theorem Rd.wo_good {r : Rd} (h : r.Ok) (hs : r.wo.2.s = false) : r.s = false ∧ r.xs = wantB r.wo.1 ++ r.wo.2.xs := by
  have g2 := Rd.num_goodL (h.num 1) 1 (by omega) (by omega) hs
  have g1 := Rd.num_goodL h 1 (by omega) (by omega) g2.1
  refine ⟨g1.1, ?_⟩
  have e1 : r.xs = numI (r.num 1).1 1 ++ (r.num 1).2.xs := g1.2
  have e2 : (r.num 1).2.xs = numI ((r.num 1).2.num 1).1 1 ++ ((r.num 1).2.num 1).2.xs := g2.2
  show r.xs = (numI (r.num 1).1 1 ++ numI ((r.num 1).2.num 1).1 1) ++ ((r.num 1).2.num 1).2.xs
  rw [e1, e2]
  simp only [List.append_assoc]
theorem Rd.hos_good {r : Rd} (h : r.Ok) (n : Nat) (hs : (r.hos n).2.s = false) : r.s = false ∧ r.xs = (r.hos n).1.flatMap holdB ++ (r.hos n).2.xs := by
  induction n with
  | zero => exact ⟨hs, rfl⟩
  | succ n ih =>
    have h1 := Rd.ho_good (h.hos n) hs
    have h2 := ih h1.1
    refine ⟨h2.1, ?_⟩
    show r.xs = ((r.hos n).1 ++ [(r.hos n).2.ho.1]).flatMap holdB ++ (r.hos n).2.ho.2.xs
    rw [List.flatMap_append, List.append_assoc]
    simp only [List.flatMap_cons, List.flatMap_nil, List.append_nil]
    rw [← h1.2]
    exact h2.2
theorem Rd.wos_good {r : Rd} (h : r.Ok) (n : Nat) (hs : (r.wos n).2.s = false) : r.s = false ∧ r.xs = (r.wos n).1.flatMap wantB ++ (r.wos n).2.xs := by
  induction n with
  | zero => exact ⟨hs, rfl⟩
  | succ n ih =>
    have h1 := Rd.wo_good (h.wos n) hs
    have h2 := ih h1.1
    refine ⟨h2.1, ?_⟩
    show r.xs = ((r.wos n).1 ++ [(r.wos n).2.wo.1]).flatMap wantB ++ (r.wos n).2.wo.2.xs
    rw [List.flatMap_append, List.append_assoc]
    simp only [List.flatMap_cons, List.flatMap_nil, List.append_nil]
    rw [← h1.2]
    exact h2.2
theorem Rd.lreg_good {r : Rd} (h : r.Ok) (hs : r.g4.2.s = false) : r.s = false ∧ r.xs = lregB r.lreg ++ r.g4.2.xs := by
  have ok1 : r.g1.2.Ok := h.num 1
  have ok2 : r.g2.2.Ok := ok1.hos _
  have ok3 : r.g3.2.Ok := ok2.num 1
  have g4 := Rd.wos_good ok3 r.g3.1.toNat hs
  have g3 := Rd.num_goodL ok2 1 (by omega) (by omega) g4.1
  have g2 := Rd.hos_good ok1 r.g1.1.toNat g3.1
  have g1 := Rd.num_goodL h 1 (by omega) (by omega) g2.1
  refine ⟨g1.1, ?_⟩
  have l1 : ((r.g2.1.length : Nat) : Int) = r.g1.1 := by
    have e : r.g2.1.length = r.g1.1.toNat := Rd.hos_length _ _
    rw [e]
    exact Int.toNat_of_nonneg (Rd.num1_lt h).1
  have l2 : ((r.g4.1.length : Nat) : Int) = r.g3.1 := by
    have e : r.g4.1.length = r.g3.1.toNat := Rd.wos_length _ _
    rw [e]
    exact Int.toNat_of_nonneg (Rd.num1_lt ok2).1
  have e1 : r.xs = numI r.g1.1 1 ++ r.g1.2.xs := g1.2
  have e2 : r.g1.2.xs = r.g2.1.flatMap holdB ++ r.g2.2.xs := g2.2
  have e3 : r.g2.2.xs = numI r.g3.1 1 ++ r.g3.2.xs := g3.2
  have e4 : r.g3.2.xs = r.g4.1.flatMap wantB ++ r.g4.2.xs := g4.2
  show r.xs = (numI (r.g2.1.length : Nat) 1 ++ r.g2.1.flatMap holdB ++ numI (r.g4.1.length : Nat) 1 ++ r.g4.1.flatMap wantB) ++ r.g4.2.xs
  rw [l1, l2, e1, e2, e3, e4]
  simp only [List.append_assoc]
theorem Rd.tab_good {r : Rd} (h : r.Ok) (k : Nat) (hs : (r.tab k).2.s = false) : r.s = false ∧ r.xs = lpackTo (r.tab k).1 k ++ (r.tab k).2.xs := by
  induction k with
  | zero => exact ⟨hs, rfl⟩
  | succ k ih =>
    have h1 := Rd.lreg_good (h.tab k) hs
    have h2 := ih h1.1
    refine ⟨h2.1, ?_⟩
    show r.xs = lpackTo (upd (r.tab k).1 k (r.tab k).2.lreg) (k + 1) ++ (r.tab k).2.g4.2.xs
    rw [lpackTo_succ, lpackTo_upd _ _ _ _ (Nat.le_refl _), show upd (r.tab k).1 k (r.tab k).2.lreg k = (r.tab k).2.lreg from if_pos rfl, List.append_assoc, ← h1.2]
    exact h2.2
theorem packT_uTab {bs : List Int} (h : Rd.Ok ⟨bs, false⟩) (he : uE bs = 0) : packT (uTab bs) = bs := by
  have h0 : (Rd.t4 ⟨bs, false⟩).2.endE = 0 := by
    unfold uE at he
    split at he
    · rename_i h1
      exact absurd he h1
    · rename_i h1
      exact Decidable.not_not.1 h1
  have hs : (Rd.t4 ⟨bs, false⟩).2.s = false ∧ (Rd.t4 ⟨bs, false⟩).2.xs = [] := by
    unfold Rd.endE at h0
    split at h0
    · cases h0
    · rename_i hs
      split at h0
      · cases h0
      · rename_i hl
        exact ⟨by simpa using hs, List.eq_nil_of_length_eq_zero (by omega)⟩
  have ok2 : (Rd.t2 ⟨bs, false⟩).2.Ok := (h.num 8).num 8
  have g3 := Rd.tab_good ok2 4 hs.1
  have g2 := Rd.num_goodL (h.num 8) 8 (by omega) (by omega) g3.1
  have g1 := Rd.num_goodL h 8 (by omega) (by omega) g2.1
  have e1 : bs = numI (Rd.t1 ⟨bs, false⟩).1 8 ++ (Rd.t1 ⟨bs, false⟩).2.xs := g1.2
  have e2 : (Rd.t1 ⟨bs, false⟩).2.xs = numI (Rd.t2 ⟨bs, false⟩).1 8 ++ (Rd.t2 ⟨bs, false⟩).2.xs := g2.2
  have e3 : (Rd.t2 ⟨bs, false⟩).2.xs = lpackTo (Rd.t4 ⟨bs, false⟩).1 4 ++ (Rd.t4 ⟨bs, false⟩).2.xs := g3.2
  unfold packT uTab
  rw [hs.2, List.append_nil] at e3
  rw [List.append_assoc, ← e3, ← e2, ← e1]
end Go.Proofs.Ytbgknfdaaffeaaa
