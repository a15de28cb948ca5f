/- A sector that was torn: what it tells (plain). -/
import Derived.Test.YtpaelngpmbeedaaGreatDoorCkGZ
namespace Go.Proofs.YtpaelngpmbeedaaGreatDoor

/-! ### numbers of bytes -/
theorem ofB_append (xs ys : List Int) : ofB (xs ++ ys) = ofB xs + 256 ^ xs.length * ofB ys := by
  induction xs with
  | nil => simp [ofB]
  | cons x r ih =>
    rw [List.cons_append, ofB, ofB, ih, List.length_cons, Int.pow_succ, Int.mul_add, Int.mul_comm (256 ^ r.length) 256, Int.mul_assoc]
    omega
theorem ofB_inj {xs ys : List Int} (hx : Bytes xs) (hy : Bytes ys) (hl : xs.length = ys.length) (h : ofB xs = ofB ys) : xs = ys := by
  rw [← numB_ofB hx, ← numB_ofB hy, h, hl]

/-- the first p bytes of a sector on top of another -/
def torn (x s : List Int) (p : Nat) : List Int := x.take p ++ s.drop p
theorem torn_length {x s : List Int} {p : Nat} (hx : x.length = 64) (hs : s.length = 64) : (torn x s p).length = 64 := by
  unfold torn
  rw [List.length_append, List.length_take, List.length_drop]
  omega
theorem torn_bytes {x s : List Int} {p : Nat} (hx : Bytes x) (hs : Bytes s) : Bytes (torn x s p) := (hx.take p).append (hs.drop p)
theorem torn_lo {x s : List Int} {p o n : Nat} (h : o + n ≤ p) (hx : p ≤ x.length) : ((torn x s p).drop o).take n = (x.drop o).take n := by
  unfold torn
  rw [List.drop_append_of_le_length (by rw [List.length_take]; omega), List.take_append_of_le_length (by rw [List.length_drop, List.length_take]; omega), List.drop_take, List.take_take, Nat.min_eq_left (by omega)]
theorem torn_hi {x s : List Int} {p o : Nat} (h : p ≤ o) (hx : p ≤ x.length) : (torn x s p).drop o = s.drop o := by
  unfold torn
  rw [List.drop_append, List.drop_eq_nil_of_le (by rw [List.length_take]; omega), List.nil_append, List.length_take, List.drop_drop]
  congr 1
  omega
theorem torn_eq {x s : List Int} {p : Nat} (h : s.drop p = x.drop p) : torn x s p = x := by
  unfold torn
  rw [h, List.take_append_drop]
theorem torn_eq' {x s : List Int} {p : Nat} (h : s.take p = x.take p) : torn x s p = s := by
  unfold torn
  rw [← h, List.take_append_drop]
/-- a field of four bytes through which the tear goes -/
theorem torn_mid {x s : List Int} {o m : Nat} (hm : m ≤ 4) (hx : o + 4 ≤ x.length) (_hs : o + 4 ≤ s.length) : ((torn x s (o + m)).drop o).take 4 = ((x.drop o).take 4).take m ++ ((s.drop o).take 4).drop m := by
  unfold torn
  rw [List.drop_append_of_le_length (by rw [List.length_take]; omega), List.drop_take, List.take_append, List.length_take, List.length_drop, List.take_take, List.take_take, List.drop_take, List.drop_drop]
  congr 1
  · congr 1; omega
  · congr 1; omega
theorem fld_drop (s : List Int) (o m : Nat) (hs : o + 4 ≤ s.length) (hm : m ≤ 4) : s.drop (o + m) = ((s.drop o).take 4).drop m ++ s.drop (o + 4) := by
  have h := List.take_append_drop 4 (s.drop o)
  rw [List.drop_drop] at h
  have h2 := congrArg (List.drop m) h
  rw [List.drop_append_of_le_length (by rw [List.length_take, List.length_drop]; omega), List.drop_drop] at h2
  exact h2.symm
theorem pow256 {m : Nat} (h1 : 1 ≤ m) (h3 : m ≤ 3) : (256 : Int) ^ m = 256 ∨ (256 : Int) ^ m = 65536 ∨ (256 : Int) ^ m = 16777216 := by
  have : m = 1 ∨ m = 2 ∨ m = 3 := by omega
  rcases this with rfl | rfl | rfl
  · exact .inl (by decide)
  · exact .inr (.inl (by decide))
  · exact .inr (.inr (by decide))
theorem at4_split {s : List Int} {o m : Nat} (h : Bytes s) (hs : o + 4 ≤ s.length) (hm : m ≤ 4) : at4 s o = ofB (((s.drop o).take 4).take m) + 256 ^ m * ofB (((s.drop o).take 4).drop m) ∧ 0 ≤ ofB (((s.drop o).take 4).take m) ∧ ofB (((s.drop o).take 4).take m) < 256 ^ m ∧ 0 ≤ ofB (((s.drop o).take 4).drop m) := by
  have hb : Bytes ((s.drop o).take 4) := (h.drop o).take 4
  have hl : (((s.drop o).take 4).take m).length = m := by rw [List.length_take, List.length_take, List.length_drop]; omega
  have e := ofB_append (((s.drop o).take 4).take m) (((s.drop o).take 4).drop m)
  rw [List.take_append_drop, hl] at e
  have r1 := ofB_range (hb.take m)
  rw [hl] at r1
  exact ⟨e, r1.1, r1.2, (ofB_range (hb.drop m)).1⟩
theorem fld_inj {x s : List Int} {o m : Nat} (hx : Bytes x) (hs : Bytes s) (lx : o + 4 ≤ x.length) (ls : o + 4 ≤ s.length) (h : ofB (((x.drop o).take 4).drop m) = ofB (((s.drop o).take 4).drop m)) : ((x.drop o).take 4).drop m = ((s.drop o).take 4).drop m :=
  ofB_inj (((hx.drop o).take 4).drop m) (((hs.drop o).take 4).drop m) (by rw [List.length_drop, List.length_drop, List.length_take, List.length_take, List.length_drop, List.length_drop]; omega) h
theorem fld_eq {x s : List Int} {o : Nat} (hx : Bytes x) (hs : Bytes s) (lx : o + 4 ≤ x.length) (ls : o + 4 ≤ s.length) (h : at4 x o = at4 s o) : (x.drop o).take 4 = (s.drop o).take 4 :=
  ofB_inj ((hx.drop o).take 4) ((hs.drop o).take 4) (by rw [List.length_take, List.length_take, List.length_drop, List.length_drop]; omega) h

/-! ### the fields of a stamped sector -/
theorem stamp_flds {q e : Int} {b : List Int} (hq : 0 < q ∧ q < 4294967296) (he : 0 ≤ e ∧ e < 4294967296) (hb : b.length ≤ 43) : fineM (stampM q e b) = true ∧ seqM (stampM q e b) = q ∧ epoM (stampM q e b) = e ∧ agaM (stampM q e b) = q ∧ alsM (stampM q e b) = e := by
  have h := parse_stamp hq he hb
  have hf : fineM (stampM q e b) = true := by
    cases hf : fineM (stampM q e b) with
    | true => rfl
    | false => rw [parseM_no hf] at h; cases h
  rw [parseM_yes hf] at h
  have h1 : seqM (stampM q e b) = q := congrArg PM.q h
  have h2 : epoM (stampM q e b) = e := congrArg PM.e h
  have hf2 := hf
  unfold fineM at hf2
  simp only [Bool.and_eq_true, Bool.not_eq_true', Bool.or_eq_false_iff, bne_eq_false_iff_eq] at hf2
  obtain ⟨_, ⟨⟨⟨_, h3⟩, h4⟩, _⟩, _⟩ := hf2
  exact ⟨hf, h1, h2, h3 ▸ h1, h4 ▸ h2⟩
theorem fine_same {s : List Int} (h : fineM s = true) : seqM s = agaM s ∧ epoM s = alsM s ∧ seqM s ≠ 0 := by
  unfold fineM at h
  simp only [Bool.and_eq_true, Bool.not_eq_true', Bool.or_eq_false_iff, bne_eq_false_iff_eq, beq_eq_false_iff_ne] at h
  obtain ⟨_, ⟨⟨⟨h0, h3⟩, h4⟩, _⟩, _⟩ := h
  exact ⟨h3, h4, h0⟩

/-! ### a slot's sector -/
/-- a sector of a slot whose last record is number l -/
def TailOk (l : Int) (s : List Int) : Prop := s.length = 64 ∧ Bytes s ∧ alsM s = 0 ∧ (agaM s < l ∨ agaM s = 0)
theorem torn_slot {l : Int} {b s : List Int} {p : Nat} (hl : 0 ≤ l ∧ l < 4294967295) (hb : b.length ≤ 43) (hbb : Bytes b) (hp : p ≤ 64) (h : TailOk l s) :
    torn (stampM (l + 1) 0 b) s p = stampM (l + 1) 0 b ∨ TailOk l (torn (stampM (l + 1) 0 b) s p) := by
  obtain ⟨hs, hsb, h0, ha⟩ := h
  have hx := stampM_length (l + 1) 0 hb
  have hxb := stampM_bytes (l + 1) 0 hbb
  obtain ⟨_, _, _, f3, f4⟩ := stamp_flds (q := l + 1) (e := 0) (by omega) (by omega) hb
  generalize stampM (l + 1) 0 b = x at *
  have ht := torn_length (p := p) hx hs
  have htb := torn_bytes (p := p) hxb hsb
  have a0 : 0 ≤ agaM s := (at4_range hsb 56).1
  have e60 : s.drop 60 = x.drop 60 := by
    have := fld_eq (o := 60) hsb hxb (by omega) (by omega) (h0.trans f4.symm)
    rw [List.take_of_length_le (by rw [List.length_drop]; omega), List.take_of_length_le (by rw [List.length_drop]; omega)] at this
    exact this
  by_cases h1 : p ≤ 56
  · refine .inr ⟨ht, htb, ?_, ?_⟩
    · unfold alsM at4 at h0 ⊢
      rw [torn_hi (by omega) (by omega)]
      exact h0
    · unfold agaM at4 at ha ⊢
      rw [torn_hi (by omega) (by omega)]
      exact ha
  · by_cases h2 : p < 60
    · obtain ⟨m, rfl⟩ : ∃ m, p = 56 + m := ⟨p - 56, by omega⟩
      have hal : alsM (torn x s (56 + m)) = 0 := by
        unfold alsM at4 at h0 ⊢
        rw [torn_hi (by omega) (by omega)]
        exact h0
      obtain ⟨s1, s2, s3, s4⟩ := at4_split (o := 56) (m := m) hsb (by omega) (by omega)
      obtain ⟨x1, x2, x3, x4⟩ := at4_split (o := 56) (m := m) hxb (by omega) (by omega)
      have x1 : agaM x = _ := x1
      have s1 : agaM s = _ := s1
      have hag : agaM (torn x s (56 + m)) = ofB (((x.drop 56).take 4).take m) + 256 ^ m * ofB (((s.drop 56).take 4).drop m) := by
        show ofB (((torn x s (56 + m)).drop 56).take 4) = _
        rw [torn_mid (by omega) (by omega) (by omega), ofB_append]
        congr 2
        rw [List.length_take, List.length_take, List.length_drop]
        congr 1
        omega
      by_cases he : ofB (((s.drop 56).take 4).drop m) = ofB (((x.drop 56).take 4).drop m)
      · refine .inl (torn_eq ?_)
        rw [fld_drop s 56 m (by omega) (by omega), fld_drop x 56 m (by omega) (by omega), fld_inj hsb hxb (by omega) (by omega) he, e60]
      · refine .inr ⟨ht, htb, hal, .inl ?_⟩
        rw [hag]
        rw [f3] at x1
        generalize ofB (((x.drop 56).take 4).take m) = u at *
        generalize ofB (((s.drop 56).take 4).take m) = v at *
        generalize ofB (((x.drop 56).take 4).drop m) = y at *
        generalize ofB (((s.drop 56).take 4).drop m) = z at *
        (have hpw := pow256 (m := m) (by omega) (by omega); generalize (256 : Int) ^ m = B at *; rcases hpw with rfl | rfl | rfl <;> omega)
    · refine .inl (torn_eq ?_)
      obtain ⟨m, rfl⟩ : ∃ m, p = 60 + m := ⟨p - 60, by omega⟩
      rw [← List.drop_drop, ← List.drop_drop, e60]
/-- such a sector has no record as late as the last one -/
theorem TailOk.rec_ {l : Int} {s : List Int} (h : TailOk l s) (h2 : (parseM s).ok = true) : (parseM s).q < l := by
  cases hf : fineM s with
  | false => rw [parseM_no hf] at h2; cases h2
  | true =>
    rw [parseM_yes hf]
    obtain ⟨h3, _, h5⟩ := fine_same hf
    show seqM s < l
    rcases h.2.2.2 with h4 | h4 <;> omega

/-! ### a journal's sector -/
/-- the sector in which number q is written next, by epoch e -/
structure NextOk (q e : Int) (s : List Int) : Prop where
  l : s.length = 64
  b : Bytes s
  a : alsM s ≤ e
  p : epoM s ≤ e
  w : agaM s = q → alsM s < e ∧ seqM s = q
  n : ¬ (fineM s = true ∧ seqM s = q)
theorem NextOk.mono {q e e' : Int} {s : List Int} (h : NextOk q e s) (he : e ≤ e') : NextOk q e' s :=
  ⟨h.l, h.b, Int.le_trans h.a he, Int.le_trans h.p he, fun x => ⟨Int.lt_of_lt_of_le (h.w x).1 he, (h.w x).2⟩, h.n⟩
theorem torn_ring {q e : Int} {b s : List Int} {p : Nat} (hq : 0 < q ∧ q < 4294967296) (he : 0 ≤ e ∧ e < 256) (hb : b.length ≤ 43) (hbb : Bytes b) (hp : p ≤ 64) (h : NextOk q e s) :
    torn (stampM q e b) s p = stampM q e b ∨ NextOk q (e + 1) (torn (stampM q e b) s p) := by
  obtain ⟨hs, hsb, ha, hpp, hw, hn⟩ := h
  have hx := stampM_length q e hb
  have hxb := stampM_bytes q e hbb
  obtain ⟨f0, f1, f2, f3, f4⟩ := stamp_flds (q := q) (e := e) hq (by omega) hb
  generalize stampM q e b = x at *
  have ht := torn_length (p := p) hx hs
  have htb := torn_bytes (p := p) hxb hsb
  have a0 : 0 ≤ alsM s := (at4_range hsb 60).1
  have p0 : 0 ≤ epoM s := (at4_range hsb 4).1
  by_cases hT : torn x s p = x
  · exact .inl hT
  refine .inr ?_
  by_cases h1 : p ≤ 4
  · have g1 : epoM (torn x s p) = epoM s := by unfold epoM at4; rw [torn_hi (by omega) (by omega)]
    have g2 : agaM (torn x s p) = agaM s := by unfold agaM at4; rw [torn_hi (by omega) (by omega)]
    have g3 : alsM (torn x s p) = alsM s := by unfold alsM at4; rw [torn_hi (by omega) (by omega)]
    have hq' : agaM s = q → torn x s p = s := by
      intro hg
      obtain ⟨_, hsq⟩ := hw hg
      have e4 := fld_eq (o := 0) hsb hxb (by omega) (by omega) (hsq.trans f1.symm)
      rw [List.drop_zero, List.drop_zero] at e4
      refine torn_eq' ?_
      have := congrArg (List.take p) e4
      rw [List.take_take, List.take_take, Nat.min_eq_left h1] at this
      exact this
    refine ⟨ht, htb, by rw [g3]; omega, by rw [g1]; omega, fun hg => ?_, fun ⟨k1, k2⟩ => ?_⟩
    · rw [g2] at hg
      have hE := hq' hg
      rw [hE]
      exact ⟨by have := (hw hg).1; omega, (hw hg).2⟩
    · obtain ⟨k3, _, _⟩ := fine_same k1
      rw [g2, k2] at k3
      have hE := hq' k3.symm
      rw [hE] at k1 k2
      exact hn ⟨k1, k2⟩
  · have g0 : seqM (torn x s p) = q := by
      rw [← f1]; unfold seqM at4; rw [torn_lo (by omega) (by omega)]
    have g1 : epoM (torn x s p) = e := by
      by_cases h8 : 8 ≤ p
      · rw [← f2]; unfold epoM at4; rw [torn_lo (by omega) (by omega)]
      · obtain ⟨m, rfl⟩ : ∃ m, p = 4 + m := ⟨p - 4, by omega⟩
        obtain ⟨s1, s2, s3, s4⟩ := at4_split (o := 4) (m := m) hsb (by omega) (by omega)
        obtain ⟨x1, x2, x3, x4⟩ := at4_split (o := 4) (m := m) hxb (by omega) (by omega)
        have x1 : epoM x = _ := x1
        have s1 : epoM s = _ := s1
        show ofB (((torn x s (4 + m)).drop 4).take 4) = _
        rw [torn_mid (by omega) (by omega) (by omega), ofB_append, List.length_take, List.length_take, List.length_drop, show min m (min 4 (x.length - 4)) = m by omega]
        generalize ofB (((x.drop 4).take 4).take m) = u at *
        generalize ofB (((s.drop 4).take 4).take m) = v at *
        generalize ofB (((x.drop 4).take 4).drop m) = y at *
        generalize ofB (((s.drop 4).take 4).drop m) = z at *
        (have hpw := pow256 (m := m) (by omega) (by omega); generalize (256 : Int) ^ m = B at *; rcases hpw with rfl | rfl | rfl <;> omega)
    by_cases h2 : p ≤ 60
    · have g3 : alsM (torn x s p) = alsM s := by unfold alsM at4; rw [torn_hi (by omega) (by omega)]
      refine ⟨ht, htb, by rw [g3]; omega, by rw [g1]; omega, fun _ => ⟨by rw [g3]; omega, g0⟩, fun ⟨k1, _⟩ => ?_⟩
      obtain ⟨k3, k4, _⟩ := fine_same k1
      rw [g0] at k3
      rw [g1, g3] at k4
      by_cases h5 : p ≤ 56
      · have g2 : agaM (torn x s p) = agaM s := by unfold agaM at4; rw [torn_hi (by omega) (by omega)]
        rw [g2] at k3
        have := (hw k3.symm).1
        omega
      · refine hT (torn_eq ?_)
        have e60 : s.drop 60 = x.drop 60 := by
          have := fld_eq (o := 60) hsb hxb (by omega) (by omega) (k4.symm.trans f4.symm)
          rw [List.take_of_length_le (by rw [List.length_drop]; omega), List.take_of_length_le (by rw [List.length_drop]; omega)] at this
          exact this
        obtain ⟨m, rfl⟩ : ∃ m, p = 56 + m := ⟨p - 56, by omega⟩
        obtain ⟨x1, x2, x3, x4⟩ := at4_split (o := 56) (m := m) hxb (by omega) (by omega)
        have x1 : agaM x = _ := x1
        have hag : agaM (torn x s (56 + m)) = ofB (((x.drop 56).take 4).take m) + 256 ^ m * ofB (((s.drop 56).take 4).drop m) := by
          show ofB (((torn x s (56 + m)).drop 56).take 4) = _
          rw [torn_mid (by omega) (by omega) (by omega), ofB_append]
          congr 2
          rw [List.length_take, List.length_take, List.length_drop]
          congr 1
          omega
        have he : ofB (((s.drop 56).take 4).drop m) = ofB (((x.drop 56).take 4).drop m) := by
          rw [f3] at x1
          rw [hag] at k3
          have hpos : (256 : Int) ^ m ≠ 0 := by
            have : m = 0 ∨ m = 4 ∨ (1 ≤ m ∧ m ≤ 3) := by omega
            rcases this with rfl | rfl | hm
            · decide
            · decide
            · rcases pow256 hm.1 hm.2 with hp | hp | hp <;> rw [hp] <;> decide
          have h6 : 256 ^ m * ofB (((s.drop 56).take 4).drop m) = 256 ^ m * ofB (((x.drop 56).take 4).drop m) := by omega
          exact Int.eq_of_mul_eq_mul_left hpos h6
        rw [fld_drop s 56 m (by omega) (by omega), fld_drop x 56 m (by omega) (by omega), fld_inj hsb hxb (by omega) (by omega) he, e60]
    · refine absurd (torn_eq ?_) hT
      obtain ⟨m, rfl⟩ : ∃ m, p = 60 + m := ⟨p - 60, by omega⟩
      have hz : ofB (((s.drop 60).take 4).drop m) = ofB (((x.drop 60).take 4).drop m) := by
        by_cases h4 : m = 4
        · subst h4
          rw [List.drop_eq_nil_of_le (by rw [List.length_take]; omega), List.drop_eq_nil_of_le (by rw [List.length_take]; omega)]
        · obtain ⟨s1, s2, s3, s4⟩ := at4_split (o := 60) (m := m) hsb (by omega) (by omega)
          obtain ⟨x1, x2, x3, x4⟩ := at4_split (o := 60) (m := m) hxb (by omega) (by omega)
          have x1 : alsM x = _ := x1
          have s1 : alsM s = _ := s1
          generalize ofB (((x.drop 60).take 4).take m) = u at *
          generalize ofB (((s.drop 60).take 4).take m) = v at *
          generalize ofB (((x.drop 60).take 4).drop m) = y at *
          generalize ofB (((s.drop 60).take 4).drop m) = z at *
          (have hpw := pow256 (m := m) (by omega) (by omega); generalize (256 : Int) ^ m = B at *; rcases hpw with rfl | rfl | rfl <;> omega)
      rw [fld_drop s 60 m (by omega) (by omega), fld_drop x 60 m (by omega) (by omega), fld_inj hsb hxb (by omega) (by omega) hz, List.drop_eq_nil_of_le (show s.length ≤ 60 + 4 by omega), List.drop_eq_nil_of_le (show x.length ≤ 60 + 4 by omega)]
end Go.Proofs.YtpaelngpmbeedaaGreatDoor
