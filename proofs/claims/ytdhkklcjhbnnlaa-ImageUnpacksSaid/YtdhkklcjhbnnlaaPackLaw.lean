/- What is encoded is decoded, and the other way round (plain). -/
import Derived.Test.YtdhkklcjhbnnlaaPackDe
namespace Go.Proofs.Ytdhkklcjhbnnlaa

/-- what comes back of a field -/
def Fld.norm (f : Fld) : Fld := if f.k = 9 then ⟨9, 0, f.b⟩ else ⟨f.k, f.n % 256 ^ f.k.toNat, []⟩

theorem numB_cons (n : Int) (k : Nat) : numB n (k + 1) = n % 256 :: numB (n / 256) k := by
  unfold numB
  rw [List.range_succ_eq_map, List.map_cons, List.map_map]
  congr 1
  · simp
  · apply List.map_congr_left
    intro i _
    simp only [Function.comp]
    rw [Nat.succ_eq_add_one, Int.pow_succ, Int.mul_comm, ← Int.ediv_ediv_of_nonneg (by omega)]
theorem ofB_numB (n : Nat) (k : Nat) : ofB (numB n k) = ((n % 256 ^ k : Nat) : Int) := by
  induction k generalizing n with
  | zero => simp [numB_zero, ofB, Nat.mod_one]
  | succ k ih =>
    rw [numB_cons, ofB, show (n : Int) / 256 = ((n / 256 : Nat) : Int) by omega, ih, Nat.pow_succ, Nat.mul_comm (256 ^ k), Nat.mod_mul]
    omega
theorem numB_ofB {t : List Int} (h : Bytes t) : numB (ofB t) t.length = t := by
  induction t with
  | nil => rfl
  | cons x r ih =>
    have hx := h x List.mem_cons_self
    unfold isByte at hx
    rw [List.length_cons, numB_cons, ofB]
    rw [show (x + 256 * ofB r) % 256 = x by omega, show (x + 256 * ofB r) / 256 = ofB r by omega, ih (fun y hy => h y (List.mem_cons_of_mem _ hy))]

theorem isKind_cases {k : Int} (h : isKind k = true) : k = 9 ∨ ∃ m : Nat, k = m ∧ 1 ≤ m ∧ m ≤ 8 := by
  unfold isKind at h
  simp only [Bool.or_eq_true, beq_iff_eq] at h
  rcases h with (((h | h) | h) | h) | h
  · exact .inr ⟨1, h, by omega, by omega⟩
  · exact .inr ⟨2, h, by omega, by omega⟩
  · exact .inr ⟨4, h, by omega, by omega⟩
  · exact .inr ⟨8, h, by omega, by omega⟩
  · exact .inl h
theorem Rd.take_append (a b : List Int) : Rd.take ⟨a ++ b, false⟩ a.length = (a, ⟨b, false⟩) := by
  unfold Rd.take
  rw [if_neg (by simp), List.take_left, List.drop_left]
theorem Rd.num_append (n : Nat) (k : Nat) (h1 : 1 ≤ k) (h8 : k ≤ 8) (b : List Int) : Rd.num ⟨numB n k ++ b, false⟩ (k : Int) = (((n % 256 ^ k : Nat) : Int), ⟨b, false⟩) := by
  have e : Rd.size ⟨numB n k ++ b, false⟩ (k : Int) = (numB (n : Int) k).length := by
    unfold Rd.size
    rw [if_neg (by omega), numB_length]
    omega
  unfold Rd.num
  rw [e, Rd.take_append, ofB_numB]

/-- one field back -/
theorem Rd.fld_back (f : Fld) (h0 : 0 ≤ f.n) (hk : isKind f.k = true) (hl : tooLong f = false) (rest : List Int) : Rd.fld ⟨fldB f ++ rest, false⟩ f.k = (f.norm, ⟨rest, false⟩) := by
  obtain ⟨k, n, b⟩ := f
  obtain ⟨n, rfl⟩ := Int.eq_ofNat_of_zero_le h0
  simp only at hk
  unfold Rd.fld fldB Fld.norm
  rcases isKind_cases hk with rfl | ⟨m, rfl, h1, h8⟩
  · have hlen : b.length ≤ 1000 := by
      unfold tooLong at hl
      simp at hl
      exact hl
    simp only [if_pos]
    unfold Rd.byt bytB
    rw [List.take_of_length_le hlen, List.append_assoc]
    have h2 := Rd.num_append b.length 2 (by omega) (by omega) (b ++ rest)
    rw [show ((2 : Nat) : Int) = 2 from rfl, show b.length % 256 ^ 2 = b.length from Nat.mod_eq_of_lt (by omega)] at h2
    rw [h2]
    have h3 : Rd.count (b.length : Int) ⟨b ++ rest, false⟩ = b.length := by
      unfold Rd.count
      rw [if_neg (by omega)]
      omega
    rw [h3, Rd.take_append]
  · have hne : ¬ ((m : Nat) : Int) = 9 := by omega
    simp only [if_neg hne]
    have e : numI (n : Int) (m : Int) = numB n m := by
      unfold numI
      rw [if_neg (by omega)]
      simp
    rw [e, Rd.num_append n m h1 h8 rest]
    simp
theorem Rd.flds_back (fs : List Fld) (h0 : ∀ f ∈ fs, 0 ≤ f.n) (hk : allKinds fs = true) (hl : fs.any tooLong = false) (rest : List Int) :
    Rd.flds ⟨fldsB fs ++ rest, false⟩ (fs.map Fld.k) = (fs.map Fld.norm, ⟨rest, false⟩) := by
  induction fs with
  | nil => rfl
  | cons f fs ih =>
    simp only [allKinds, List.all_cons, Bool.and_eq_true] at hk
    simp only [List.any_cons, Bool.or_eq_false_iff] at hl
    have e : fldsB (f :: fs) ++ rest = fldB f ++ (fldsB fs ++ rest) := by simp [fldsB]
    have ih := ih (fun x hx => h0 x (List.mem_cons_of_mem _ hx)) hk.2 hl.2
    simp only [List.map_cons, Rd.flds]
    rw [e, Rd.fld_back f (h0 f List.mem_cons_self) hk.1 hl.1, ih]

theorem Rd.take_good {r : Rd} {n : Nat} (h : (r.take n).2.s = false) : r.s = false ∧ r.xs = (r.take n).1 ++ (r.take n).2.xs ∧ (r.take n).1.length = n := by
  unfold Rd.take at h ⊢
  split at h
  · cases h
  · rename_i hc
    rw [if_neg hc]
    have h1 : r.s = false := by
      cases hs : r.s with
      | false => rfl
      | true => exact absurd (.inl hs) hc
    refine ⟨h1, (List.take_append_drop n r.xs).symm, ?_⟩
    have : ¬ r.xs.length < n := fun hh => hc (.inr hh)
    show (r.xs.take n).length = n
    rw [List.length_take]
    omega
theorem Rd.num_good {r : Rd} {m : Nat} (hb : Bytes r.xs) (h1 : 1 ≤ m) (h8 : m ≤ 8) (h : (r.num (m : Int)).2.s = false) : r.s = false ∧ r.xs = numB (r.num (m : Int)).1 m ++ (r.num (m : Int)).2.xs ∧ 0 ≤ (r.num (m : Int)).1 := by
  have e : Rd.size r (m : Int) = m := by
    unfold Rd.size
    rw [if_neg (by omega)]
    omega
  unfold Rd.num at h ⊢
  simp only [e] at h ⊢
  obtain ⟨g1, g2, g3⟩ := Rd.take_good h
  have hbt := (r.take_xs m hb).1
  have := numB_ofB hbt
  rw [g3] at this
  exact ⟨g1, by rw [this]; exact g2, (ofB_range hbt).1⟩
/-- a field that was read -/
theorem Rd.fld_good {r : Rd} {k : Int} (hb : Bytes r.xs) (hk : isKind k = true) (h : (r.fld k).2.s = false) :
    r.s = false ∧ r.xs = fldB (r.fld k).1 ++ (r.fld k).2.xs ∧ (r.fld k).1.k = k ∧ tooLong (r.fld k).1 = false ∧ 0 ≤ (r.fld k).1.n := by
  unfold Rd.fld at h ⊢
  rcases isKind_cases hk with rfl | ⟨m, rfl, h1, h8⟩
  · simp only [if_pos] at h ⊢
    unfold Rd.byt at h ⊢
    obtain ⟨g1, g2, g3⟩ := Rd.take_good h
    have h2 := Rd.num_good (m := 2) hb (by omega) (by omega) g1
    rw [show ((2 : Nat) : Int) = 2 from rfl] at h2
    obtain ⟨q1, q2, q3⟩ := h2
    have hn := r.num_2 hb
    generalize (r.num 2).1 = n at *
    generalize (r.num 2).2 = r1 at *
    have hsmall : ¬ 1000 < n := by
      intro hbig
      have e : Rd.count n r1 = r1.xs.length + 1 := by unfold Rd.count; rw [if_pos hbig]
      rw [e] at h
      unfold Rd.take at h
      rw [if_pos (.inr (Nat.lt_succ_self _))] at h
      cases h
    have e : Rd.count n r1 = n.toNat := by unfold Rd.count; rw [if_neg hsmall]
    rw [e] at g2 g3 ⊢
    generalize (r1.take n.toNat).1 = b at *
    generalize (r1.take n.toNat).2.xs = zs at *
    refine ⟨q1, ?_, trivial, ?_, Int.le_refl 0⟩
    · unfold fldB bytB
      rw [if_pos rfl]
      simp only
      rw [List.take_of_length_le (by omega), g3, q2, g2, List.append_assoc, show ((n.toNat : Nat) : Int) = n by omega]
    · unfold tooLong
      simp
      omega
  · have hne : ¬ ((m : Nat) : Int) = 9 := by omega
    simp only [if_neg hne] at h ⊢
    obtain ⟨g1, g2, g3⟩ := Rd.num_good hb h1 h8 h
    refine ⟨g1, ?_, trivial, ?_, g3⟩
    · unfold fldB numI
      simp only
      rw [if_neg hne, if_neg (by omega)]
      simpa using g2
    · unfold tooLong
      simp
theorem Rd.flds_good (ks : List Int) : ∀ (r : Rd), Bytes r.xs → okShape ks = true → (r.flds ks).2.s = false →
    r.s = false ∧ r.xs = fldsB (r.flds ks).1 ++ (r.flds ks).2.xs ∧ (r.flds ks).1.map Fld.k = ks ∧ (r.flds ks).1.any tooLong = false ∧ (∀ f ∈ (r.flds ks).1, 0 ≤ f.n) := by
  induction ks with
  | nil => intro r _ _ h; exact ⟨h, rfl, rfl, rfl, fun f hf => absurd hf (List.not_mem_nil)⟩
  | cons k ks ih =>
    intro r hb hk h
    simp only [okShape, List.all_cons, Bool.and_eq_true] at hk
    simp only [Rd.flds] at h ⊢
    have hb2 : Bytes (r.fld k).2.xs := by
      unfold Rd.fld
      split
      · exact (Rd.take_xs _ _ (Rd.take_xs _ _ hb).2).2
      · exact (Rd.take_xs _ _ hb).2
    obtain ⟨g1, g2, g3, g4, g5⟩ := ih (r.fld k).2 hb2 hk.2 h
    obtain ⟨q1, q2, q3, q4, q5⟩ := Rd.fld_good hb hk.1 g1
    generalize (r.fld k).1 = f at *
    generalize (r.fld k).2 = r1 at *
    refine ⟨q1, ?_, ?_, ?_, ?_⟩
    · rw [q2, g2]; simp [fldsB]
    · rw [List.map_cons, q3, g3]
    · rw [List.any_cons, q4, g4]; rfl
    · intro x hx
      rcases List.mem_cons.1 hx with rfl | hx
      · exact q5
      · exact g5 x hx
theorem allKinds_map (fs : List Fld) : okShape (fs.map Fld.k) = allKinds fs := by
  unfold okShape allKinds
  rw [List.all_map]
  rfl

/-- what is encoded is decoded -/
theorem dec_enc (fs : List Fld) (h0 : ∀ f ∈ fs, 0 ≤ f.n) (h : encE fs = 0) : decE (fs.map Fld.k) (encB fs) = 0 ∧ decL (fs.map Fld.k) (encB fs) = fs.map Fld.norm := by
  have hk : allKinds fs = true := by
    cases hc : allKinds fs with
    | true => rfl
    | false => unfold encE at h; rw [hc] at h; simp at h
  have hl : fs.any tooLong = false := by
    cases hc : fs.any tooLong with
    | false => rfl
    | true => unfold encE at h; rw [hk, hc] at h; simp at h
  have hb : encB fs = fldsB fs := by unfold encB; rw [if_pos h]
  have hf := Rd.flds_back fs h0 hk hl []
  rw [List.append_nil] at hf
  have e : decE (fs.map Fld.k) (fldsB fs) = 0 := by
    unfold decE
    rw [allKinds_map, hk, hf]
    rfl
  rw [hb]
  refine ⟨e, ?_⟩
  unfold decL
  rw [if_pos e, hf]
/-- what is decoded is encoded; with one byte more, and with some less, it is not decoded -/
theorem enc_dec (ks bs : List Int) (hb : Bytes bs) (h : decE ks bs = 0) : encE (decL ks bs) = 0 ∧ encB (decL ks bs) = bs ∧ decE ks (bs ++ [0]) = 11 ∧ ∀ n, n < bs.length → decE ks (bs.take n) = 10 := by
  have hk : okShape ks = true := by
    cases hc : okShape ks with
    | true => rfl
    | false => unfold decE at h; rw [hc] at h; simp at h
  have hL : decL ks bs = (Rd.flds ⟨bs, false⟩ ks).1 := by unfold decL; rw [if_pos h]
  have he : (Rd.flds ⟨bs, false⟩ ks).2.endE = 0 := by unfold decE at h; rw [hk] at h; exact h
  have hs : (Rd.flds ⟨bs, false⟩ ks).2.s = false ∧ (Rd.flds ⟨bs, false⟩ ks).2.xs = [] := by
    unfold Rd.endE at he
    split at he
    · cases he
    · rename_i h1
      split at he
      · cases he
      · rename_i h2
        exact ⟨by simpa using h1, List.eq_nil_of_length_eq_zero (by omega)⟩
  obtain ⟨g1, g2, g3, g4, g5⟩ := Rd.flds_good ks ⟨bs, false⟩ hb hk hs.1
  rw [hs.2, List.append_nil] at g2
  simp only at g2
  rw [hL]
  generalize (Rd.flds ⟨bs, false⟩ ks).1 = fs at *
  have hak : allKinds fs = true := by rw [← allKinds_map, g3]; exact hk
  have e0 : encE fs = 0 := by unfold encE; rw [hak, g4]; rfl
  refine ⟨e0, by unfold encB; rw [if_pos e0]; exact g2.symm, ?_, fun n hn => ?_⟩
  · have := Rd.flds_back fs g5 hak g4 [0]
    rw [g3, ← g2] at this
    unfold decE
    rw [hk, this]
    rfl
  · unfold decE
    rw [hk]
    show (Rd.flds ⟨bs.take n, false⟩ ks).2.endE = 10
    cases hc : (Rd.flds ⟨bs.take n, false⟩ ks).2.s with
    | true => unfold Rd.endE; rw [if_pos hc]
    | false =>
      exfalso
      obtain ⟨q1, q2, q3, q4, q5⟩ := Rd.flds_good ks ⟨bs.take n, false⟩ (hb.take n) hk hc
      simp only at q2
      have hak2 : allKinds (Rd.flds ⟨bs.take n, false⟩ ks).1 = true := by rw [← allKinds_map, q3]; exact hk
      have := Rd.flds_back _ q5 hak2 q4 ((Rd.flds ⟨bs.take n, false⟩ ks).2.xs ++ bs.drop n)
      rw [q3, ← List.append_assoc, ← q2, List.take_append_drop] at this
      have hx := hs.2
      rw [this] at hx
      simp at hx
      omega

end Go.Proofs.Ytdhkklcjhbnnlaa
