/- Images read from bytes (plain). -/
import Derived.Test.YtdhkklcjhbnnlaaImgE
import Derived.Test.YtdhkklcjhbnnlaaImgP
import Derived.Test.YtdhkklcjhbnnlaaImgG
import Derived.Test.YtdhkklcjhbnnlaaImgAw
namespace Go.Proofs.Ytdhkklcjhbnnlaa

def Rd.blk (r : Rd) : Nat → (Nat → List Int) × Rd
  | 0 => (fun _ => [], r)
  | j + 1 => (upd (r.blk j).1 j (r.blk j).2.byt.1, (r.blk j).2.byt.2)
def Rd.logs (r : Rd) : Nat → List (List Int) × Rd
  | 0 => ([], r)
  | n + 1 => ((r.logs n).1 ++ [(r.logs n).2.byt.1], (r.logs n).2.byt.2)
def Rd.h1 (r : Rd) : Int × Rd := r.num 8
def Rd.h2 (r : Rd) : Int × Rd := r.h1.2.num 4
def Rd.h3 (r : Rd) : (Nat → List Int) × Rd := r.h2.2.blk 4
def Rd.h4 (r : Rd) : Int × Rd := r.h3.2.num 1
def Rd.h5 (r : Rd) : List (List Int) × Rd := r.h4.2.logs r.h4.1.toNat
def Rd.rg (r : Rd) : Rg := ⟨r.h1.1, r.h2.1, r.h3.1, r.h5.1⟩
def Rd.img (r : Rd) : Nat → (Nat → Rg) × Rd
  | 0 => (aw0, r)
  | k + 1 => (upd (r.img k).1 k (r.img k).2.rg, (r.img k).2.h5.2)
def shortB (b : List Int) : Bool := decide (b.length ≤ 24)
def blkOk (b : Nat → List Int) (j : Nat) : Bool := (List.range j).all fun i => shortB (b i)
def rgOk (x : Rg) : Bool := blkOk x.b 4 && x.log.all shortB && decide (x.log.length ≤ 4) && (decide (0 < x.high) || x.seq == 0)
def imgOk (m : Nat → Rg) (k : Nat) : Bool := (List.range k).all fun i => rgOk (m i)
def unpE (bs : List Int) : Int := if (Rd.img ⟨bs, false⟩ 4).2.endE ≠ 0 then (Rd.img ⟨bs, false⟩ 4).2.endE else if imgOk (Rd.img ⟨bs, false⟩ 4).1 4 = true then 0 else 1
theorem blkOk_succ (b : Nat → List Int) (j : Nat) : blkOk b (j + 1) = (blkOk b j && shortB (b j)) := by simp [blkOk, List.range_succ]
theorem imgOk_succ (m : Nat → Rg) (k : Nat) : imgOk m (k + 1) = (imgOk m k && rgOk (m k)) := by simp [imgOk, List.range_succ]

theorem Rd.Ok.blk {r : Rd} (h : r.Ok) (j : Nat) : (r.blk j).2.Ok := by
  induction j with
  | zero => exact h
  | succ j ih => exact ih.byt
theorem Rd.Ok.logs {r : Rd} (h : r.Ok) (n : Nat) : (r.logs n).2.Ok := by
  induction n with
  | zero => exact h
  | succ n ih => exact ih.byt
theorem Rd.Ok.h5 {r : Rd} (h : r.Ok) : r.h5.2.Ok := (((h.num 8).num 4).blk 4 |>.num 1).logs _
theorem Rd.Ok.img {r : Rd} (h : r.Ok) (k : Nat) : (r.img k).2.Ok := by
  induction k with
  | zero => exact h
  | succ k ih => exact ih.h5
theorem Rd.logs_length (r : Rd) (n : Nat) : (r.logs n).1.length = n := by
  induction n with
  | zero => rfl
  | succ n ih => show ((r.logs n).1 ++ [_]).length = _; simp [ih]
theorem Rd.byt_len {r : Rd} (_h : r.Ok) : r.byt.1.length ≤ 1000 := by
  unfold Rd.byt
  have h1 := ((r.num 2).2.take_len (Rd.count (r.num 2).1 (r.num 2).2)).1
  unfold Rd.count at h1 ⊢
  split
  · rename_i h2
    unfold Rd.take
    rw [if_pos (.inr (by omega))]
    simp
  · rename_i h2
    rw [if_neg h2] at h1
    omega

/-- what is read goodly is what was packed -/
theorem Rd.byt_good {r : Rd} (h : r.Ok) (hs : r.byt.2.s = false) : r.s = false ∧ r.xs = bytB r.byt.1 ++ r.byt.2.xs := by
  have h9 : r.fld 9 = (⟨9, 0, r.byt.1⟩, r.byt.2) := if_pos rfl
  have h1 := Rd.fld_good (k := 9) h.hb rfl (by rw [h9]; exact hs)
  rw [h9] at h1
  exact ⟨h1.1, h1.2.1⟩
theorem Rd.num_goodI {r : Rd} (h : r.Ok) (m : Nat) (h1 : 1 ≤ m) (h8 : m ≤ 8) (hs : (r.num (m : Int)).2.s = false) : r.s = false ∧ r.xs = numI (r.num (m : Int)).1 m ++ (r.num (m : Int)).2.xs := by
  have h2 := Rd.num_good h.hb h1 h8 hs
  refine ⟨h2.1, ?_⟩
  have e : numI (r.num (m : Int)).1 m = numB (r.num (m : Int)).1 m := by
    unfold numI
    rw [if_neg (by omega), Int.toNat_natCast]
  rw [e]
  exact h2.2.1
def blkB (b : Nat → List Int) (j : Nat) : List Int := (List.range j).flatMap fun i => bytB (b i)
theorem blkB_succ (b : Nat → List Int) (j : Nat) : blkB b (j + 1) = blkB b j ++ bytB (b j) := by simp [blkB, List.range_succ]
theorem blkB_upd (b : Nat → List Int) (j k : Nat) (x : List Int) (h : j ≤ k) : blkB (upd b k x) j = blkB b j := by
  induction j with
  | zero => rfl
  | succ j ih => rw [blkB_succ, blkB_succ, ih (by omega), upd_ne _ _ _ _ (by omega)]
theorem Rd.blk_good {r : Rd} (h : r.Ok) (j : Nat) (hs : (r.blk j).2.s = false) : r.s = false ∧ r.xs = blkB (r.blk j).1 j ++ (r.blk j).2.xs := by
  induction j with
  | zero => exact ⟨hs, rfl⟩
  | succ j ih =>
    have h1 := Rd.byt_good (h.blk j) hs
    have h2 := ih h1.1
    refine ⟨h2.1, ?_⟩
    show r.xs = blkB (upd (r.blk j).1 j (r.blk j).2.byt.1) (j + 1) ++ (r.blk j).2.byt.2.xs
    rw [blkB_succ, blkB_upd _ _ _ _ (Nat.le_refl _), upd_at, List.append_assoc, ← h1.2]
    exact h2.2
theorem Rd.logs_good {r : Rd} (h : r.Ok) (n : Nat) (hs : (r.logs n).2.s = false) : r.s = false ∧ r.xs = (r.logs n).1.flatMap bytB ++ (r.logs n).2.xs := by
  induction n with
  | zero => exact ⟨hs, rfl⟩
  | succ n ih =>
    have h1 := Rd.byt_good (h.logs n) hs
    have h2 := ih h1.1
    refine ⟨h2.1, ?_⟩
    show r.xs = ((r.logs n).1 ++ [(r.logs n).2.byt.1]).flatMap bytB ++ (r.logs n).2.byt.2.xs
    rw [List.flatMap_append, List.append_assoc]
    simp only [List.flatMap_cons, List.flatMap_nil, List.append_nil]
    rw [← h1.2]
    exact h2.2
theorem Rd.rg_good {r : Rd} (h : r.Ok) (hs : r.h5.2.s = false) : r.s = false ∧ r.xs = regB r.rg ++ r.h5.2.xs := by
  have ok1 : r.h1.2.Ok := h.num 8
  have ok2 : r.h2.2.Ok := ok1.num 4
  have ok3 : r.h3.2.Ok := ok2.blk 4
  have ok4 : r.h4.2.Ok := ok3.num 1
  have g5 := Rd.logs_good ok4 r.h4.1.toNat hs
  have g4 := Rd.num_goodI ok3 1 (by omega) (by omega) g5.1
  have g3 := Rd.blk_good ok2 4 g4.1
  have g2 := Rd.num_goodI ok1 4 (by omega) (by omega) g3.1
  have g1 := Rd.num_goodI h 8 (by omega) (by omega) g2.1
  refine ⟨g1.1, ?_⟩
  have hl : ((r.h5.1.length : Nat) : Int) = r.h4.1 := by
    have e : r.h5.1.length = r.h4.1.toNat := Rd.logs_length _ _
    have := (Rd.num1_lt ok3).1
    rw [e]
    exact Int.toNat_of_nonneg this
  have e1 : r.xs = numI r.h1.1 8 ++ r.h1.2.xs := g1.2
  have e2 : r.h1.2.xs = numI r.h2.1 4 ++ r.h2.2.xs := g2.2
  have e3 : r.h2.2.xs = blkB r.h3.1 4 ++ r.h3.2.xs := g3.2
  have e4 : r.h3.2.xs = numI r.h4.1 1 ++ r.h4.2.xs := g4.2
  have e5 : r.h4.2.xs = r.h5.1.flatMap bytB ++ r.h5.2.xs := g5.2
  have eb : blkB r.h3.1 4 = bytB (r.h3.1 0) ++ bytB (r.h3.1 1) ++ bytB (r.h3.1 2) ++ bytB (r.h3.1 3) := by
    rw [blkB_succ, blkB_succ, blkB_succ, blkB_succ]
    simp [blkB]
  show r.xs = (numI r.h1.1 8 ++ numI r.h2.1 4 ++ bytB (r.h3.1 0) ++ bytB (r.h3.1 1) ++ bytB (r.h3.1 2) ++ bytB (r.h3.1 3) ++ numI (r.h5.1.length : Nat) 1 ++ r.h5.1.flatMap bytB) ++ r.h5.2.xs
  rw [hl, e1, e2, e3, e4, e5, eb]
  simp only [List.append_assoc]
theorem packTo_upd (m : Nat → Rg) (k i : Nat) (x : Rg) (h : k ≤ i) : packTo (upd m i x) k = packTo m k := by
  induction k with
  | zero => rfl
  | succ k ih => rw [packTo_succ, packTo_succ, ih (by omega), upd_ne _ _ _ _ (by omega)]
theorem Rd.img_good {r : Rd} (h : r.Ok) (k : Nat) (hs : (r.img k).2.s = false) : r.s = false ∧ r.xs = packTo (r.img k).1 k ++ (r.img k).2.xs := by
  induction k with
  | zero => exact ⟨hs, rfl⟩
  | succ k ih =>
    have h1 := Rd.rg_good (h.img k) hs
    have h2 := ih h1.1
    refine ⟨h2.1, ?_⟩
    show r.xs = packTo (upd (r.img k).1 k (r.img k).2.rg) (k + 1) ++ (r.img k).2.h5.2.xs
    rw [packTo_succ, packTo_upd _ _ _ _ (Nat.le_refl _), upd_at, List.append_assoc, ← h1.2]
    exact h2.2
theorem Rd.blk_far (r : Rd) (j i : Nat) (h : j ≤ i) : (r.blk j).1 i = [] := by
  induction j with
  | zero => rfl
  | succ j ih =>
    show upd (r.blk j).1 j _ i = []
    rw [upd_ne _ _ _ _ (by omega)]
    exact ih (by omega)
theorem Rd.img_far (r : Rd) (k i : Nat) (h : k ≤ i) : (r.img k).1 i = Rg.zero := by
  induction k with
  | zero => rfl
  | succ k ih =>
    show upd (r.img k).1 k _ i = Rg.zero
    rw [upd_ne _ _ _ _ (by omega)]
    exact ih (by omega)
theorem Rd.img_at {r : Rd} (h : r.Ok) (k i : Nat) (hi : i < k) : ∃ q : Rd, q.Ok ∧ (r.img k).1 i = q.rg := by
  induction k with
  | zero => omega
  | succ k ih =>
    by_cases he : i = k
    · subst he
      exact ⟨(r.img i).2, h.img i, upd_at _ _ _⟩
    · obtain ⟨q, h1, h2⟩ := ih (by omega)
      exact ⟨q, h1, (upd_ne _ _ _ _ he).trans h2⟩
theorem rg_ok {q : Rd} (h : q.Ok) (ho : rgOk q.rg = true) : q.rg.ok := by
  unfold rgOk at ho
  simp only [Bool.and_eq_true, decide_eq_true_eq] at ho
  obtain ⟨⟨⟨hb, hl⟩, hn⟩, _⟩ := ho
  have n8 := Rd.num8_lt h
  have n4 := Rd.num4_lt (h.num 8)
  refine ⟨n8.1, n8.2, n4.1, n4.2, hn, fun l hm => ?_, fun j => ?_⟩
  · have := List.all_eq_true.1 hl l hm
    unfold shortB at this
    simpa using this
  · by_cases hj : j < 4
    · have := List.all_eq_true.1 hb j (List.mem_range.2 hj)
      unfold shortB at this
      simpa using this
    · show ((Rd.blk _ 4).1 j).length ≤ 24
      rw [Rd.blk_far _ _ _ (by omega)]
      simp
theorem unp_law {bs : List Int} (h : Rd.Ok ⟨bs, false⟩) (he : unpE bs = 0) : packI (Rd.img ⟨bs, false⟩ 4).1 = bs ∧ ∀ k, ((Rd.img ⟨bs, false⟩ 4).1 k).ok := by
  unfold unpE at he
  split at he
  · rename_i h1
    exact absurd he h1
  · rename_i h1
    have h0 : (Rd.img ⟨bs, false⟩ 4).2.endE = 0 := Decidable.not_not.1 h1
    split at he
    · rename_i hok
      have hs : (Rd.img ⟨bs, false⟩ 4).2.s = false ∧ (Rd.img ⟨bs, false⟩ 4).2.xs = [] := by
        unfold Rd.endE at h0
        split at h0
        · cases h0
        · rename_i hs
          split at h0
          · cases h0
          · rename_i hl
            exact ⟨by simpa using hs, List.eq_nil_of_length_eq_zero (by omega)⟩
      have hg := Rd.img_good h 4 hs.1
      refine ⟨?_, fun k => ?_⟩
      · have := hg.2
        rw [hs.2, List.append_nil] at this
        exact this.symm
      · by_cases hk : k < 4
        · have hrk := List.all_eq_true.1 hok k (List.mem_range.2 hk)
          obtain ⟨q, hq, e⟩ := Rd.img_at h 4 k hk
          rw [e] at hrk ⊢
          exact rg_ok hq hrk
        · rw [Rd.img_far _ _ _ (by omega)]
          exact Rg.zero_ok
    · cases he

end Go.Proofs.Ytdhkklcjhbnnlaa
