/- The document's disk (plain), and how it stands to the program's. -/
import Derived.Test.YthddgnnbgldfmaaDiskFold
namespace Go.Proofs.Ythddgnnbgldfmaa

structure RD where
  sure : List Int
  pend : List (Nat × List Int)
  fused : Bool
  left : Int
  down : Bool
def RD.new (n : Nat) : RD := ⟨zeros (64 * n), [], false, 0, false⟩
def RD.len (E : RD) : Nat := E.sure.length / 64
def RD.goes (E : RD) : Bool := !(E.down || (E.fused && E.left == 0))
def RD.after (E : RD) : RD := if E.down then E else if E.fused && E.left == 0 then { E with down := true } else if E.fused then { E with left := E.left - 1 } else E
def RD.fuse (E : RD) (n : Int) : RD := { E with fused := decide (0 ≤ n), left := n }
def RD.writeE (E : RD) (i : Int) (b : List Int) : Int := if i < 0 ∨ (E.len : Int) ≤ i then 40 else if 64 < b.length then 2 else if E.goes then 0 else 43
def RD.write (E : RD) (i : Int) (b : List Int) : RD :=
  if i < 0 ∨ (E.len : Int) ≤ i then E else if 64 < b.length then E else if E.goes then { E.after with pend := E.pend ++ [(i.toNat, full b)] } else E.after
def RD.crash (E : RD) (picks : List Int) : RD := { E with sure := tear picks E.sure 0 E.pend, pend := [], fused := false, down := false }
def RD.sync (E : RD) : RD := if E.goes then { (E.after.crash (List.replicate E.pend.length 64)) with fused := E.fused } else E.after
/-- the last write of a sector -/
def lastW (i : Nat) : List (Nat × List Int) → Option (List Int)
  | [] => none
  | p :: r => match lastW i r with
    | some b => some b
    | none => if p.1 = i then some p.2 else none
def RD.at_ (E : RD) (i : Nat) : List Int := match lastW i E.pend with
  | some b => b
  | none => (E.sure.drop (64 * i)).take 64
def RD.read (E : RD) (i : Int) : List Int := if i < 0 ∨ (E.len : Int) ≤ i then [] else E.at_ i.toNat
def RD.readE (E : RD) (i : Int) : Int := if i < 0 ∨ (E.len : Int) ≤ i then 40 else 0

/-- what is left of a fuse that was set -/
def RD.lo (E : RD) : Prop := E.fused = true → 0 ≤ E.left ∧ E.left ≤ 9223372036854775807
theorem RD.lo.after {E : RD} (h : E.lo) : E.after.lo := by
  unfold RD.after
  split
  · exact h
  split
  · exact h
  split
  · rename_i h1 h2 h3
    intro _
    obtain ⟨h4, h5⟩ := h h3
    have h6 : E.left ≠ 0 := by
      intro h7
      rw [h3, h7] at h2
      simp at h2
    show 0 ≤ E.left - 1 ∧ E.left - 1 ≤ 9223372036854775807
    omega
  · exact h
structure RD.ok (E : RD) (n : Nat) : Prop where
  n2 : n ≤ 512
  hs : E.sure.length = n * 64
  hp : ∀ p ∈ E.pend, p.1 < n ∧ p.2.length = 64
theorem RD.ok.len {E : RD} {n : Nat} (h : E.ok n) : E.len = n := by
  unfold RD.len
  rw [h.hs]
  omega

/-- they stand for one disk -/
structure Same4 (D : DS) (E : RD) : Prop where
  sure : E.sure = D.sure
  pend : E.pend = D.pend
  down : E.down = D.down
  fuse : D.down = false → E.fused = decide (0 ≤ D.fuse) ∧ (0 ≤ D.fuse → E.left = D.fuse)
  seen : D.seen = onto D.sure D.pend

theorem onto_snoc (s : List Int) (l : List (Nat × List Int)) (p : Nat × List Int) : onto s (l ++ [p]) = splice (onto s l) (p.1 * 64) p.2 := by
  induction l generalizing s with
  | nil => rfl
  | cons q r ih => exact ih _
theorem sec_splice {s b : List Int} {n i j : Nat} (hs : s.length = n * 64) (hi : i < n) (hj : j < n) (hb : b.length = 64) : ((splice s (i * 64) b).drop (j * 64)).take 64 = if i = j then b else (s.drop (j * 64)).take 64 := by
  unfold splice
  have h1 : (i + 1) * 64 ≤ n * 64 := Nat.mul_le_mul_right _ hi
  have h2 : (j + 1) * 64 ≤ n * 64 := Nat.mul_le_mul_right _ hj
  split
  · rename_i h
    subst h
    rw [List.append_assoc, List.drop_append_of_le_length (by rw [List.length_take]; omega), List.drop_eq_nil_of_le (by rw [List.length_take]; omega), List.nil_append, ← hb, List.take_left]
  · rename_i h
    rcases Nat.lt_or_gt_of_ne h with h | h
    · have h3 : (i + 1) * 64 ≤ j * 64 := Nat.mul_le_mul_right _ h
      rw [List.append_assoc, List.drop_append, List.drop_eq_nil_of_le (by rw [List.length_take]; omega), List.nil_append, List.drop_append, List.drop_eq_nil_of_le (by rw [List.length_take]; omega), List.nil_append, List.drop_drop, List.length_take]
      congr 2
      omega
    · have h3 : (j + 1) * 64 ≤ i * 64 := Nat.mul_le_mul_right _ h
      rw [List.append_assoc, List.drop_append_of_le_length (by rw [List.length_take]; omega), List.take_append_of_le_length (by rw [List.length_drop, List.length_take]; omega), List.drop_take, List.take_take, Nat.min_eq_left (by omega)]
theorem lastW_snoc (i : Nat) (l : List (Nat × List Int)) (p : Nat × List Int) : lastW i (l ++ [p]) = if p.1 = i then some p.2 else lastW i l := by
  induction l with
  | nil => simp [lastW]
  | cons q r ih =>
    simp only [List.cons_append, lastW, ih]
    by_cases h : p.1 = i
    · simp [h]
    · simp only [if_neg h]
theorem at_onto (s : List Int) (n : Nat) (hs : s.length = n * 64) (i : Nat) (hi : i < n) (l : List (Nat × List Int)) (hp : ∀ p ∈ l, p.1 < n ∧ p.2.length = 64) :
    ((onto s l).drop (i * 64)).take 64 = match lastW i l with | some b => b | none => (s.drop (i * 64)).take 64 := by
  induction l generalizing s with
  | nil => rfl
  | cons p r ih =>
    have h1 := hp p List.mem_cons_self
    have hle : (p.1 + 1) * 64 ≤ n * 64 := Nat.mul_le_mul_right _ h1.1
    have := ih (splice s (p.1 * 64) p.2) (by rw [splice_length _ _ _ (by omega)]; exact hs) (fun q hq => hp q (List.mem_cons_of_mem _ hq))
    simp only [onto, lastW]
    rw [this]
    cases lastW i r with
    | some b => rfl
    | none =>
      simp only
      rw [sec_splice hs h1.1 hi h1.2]
      split <;> rfl

theorem Same4.goes {D : DS} {E : RD} (h : Same4 D E) : E.goes = D.goes := by
  unfold RD.goes DS.goes
  rw [h.down]
  cases hd : D.down with
  | true => rfl
  | false =>
    obtain ⟨h1, h2⟩ := h.fuse hd
    rw [h1]
    by_cases h0 : 0 ≤ D.fuse
    · rw [decide_eq_true h0, h2 h0]; rfl
    · rw [decide_eq_false h0]
      have : (D.fuse == 0) = false := by simp; omega
      rw [this]; rfl
theorem Same4.after {D : DS} {E : RD} (h : Same4 D E) : Same4 D.after E.after := by
  unfold RD.after
  cases hd : D.down with
  | true =>
    rw [if_pos (h.down.trans hd)]
    refine ⟨h.sure, h.pend, ?_, ?_, h.seen⟩
    · show E.down = (D.down || D.fuse == 0)
      rw [h.down, hd]; rfl
    · intro hx
      have hx : (D.down || D.fuse == 0) = false := hx
      rw [hd] at hx; cases hx
  | false =>
    obtain ⟨h1, h2⟩ := h.fuse hd
    rw [if_neg (by rw [h.down, hd]; simp)]
    by_cases h0 : D.fuse = 0
    · have e1 : (E.fused && E.left == 0) = true := by rw [h1, h2 (by omega), h0]; rfl
      rw [if_pos e1]
      refine ⟨h.sure, h.pend, ?_, ?_, h.seen⟩
      · show true = (D.down || D.fuse == 0)
        rw [h0]; simp
      · intro hx
        have hx : (D.down || D.fuse == 0) = false := hx
        rw [h0] at hx; simp at hx
    · have e1 : ¬ (E.fused && E.left == 0) = true := by
        rw [h1]
        by_cases h3 : 0 ≤ D.fuse
        · rw [decide_eq_true h3, h2 h3]; simp; exact h0
        · rw [decide_eq_false h3]; simp
      rw [if_neg e1]
      have e2 : (D.fuse == 0) = false := by simp; exact h0
      by_cases h3 : 0 ≤ D.fuse
      · rw [if_pos (by rw [h1]; exact decide_eq_true h3)]
        refine ⟨h.sure, h.pend, ?_, ?_, h.seen⟩
        · show E.down = (D.down || D.fuse == 0)
          rw [h.down, e2]; simp
        · intro _
          show E.fused = decide (0 ≤ (if 0 < D.fuse then D.fuse - 1 else D.fuse)) ∧ (0 ≤ (if 0 < D.fuse then D.fuse - 1 else D.fuse) → E.left - 1 = if 0 < D.fuse then D.fuse - 1 else D.fuse)
          rw [if_pos (by omega), h1, h2 h3]
          exact ⟨by rw [decide_eq_true h3, decide_eq_true (by omega)], fun _ => rfl⟩
      · rw [if_neg (by rw [h1]; simp; omega)]
        refine ⟨h.sure, h.pend, ?_, ?_, h.seen⟩
        · show E.down = (D.down || D.fuse == 0)
          rw [h.down, e2]; simp
        · intro _
          show E.fused = decide (0 ≤ (if 0 < D.fuse then D.fuse - 1 else D.fuse)) ∧ (0 ≤ (if 0 < D.fuse then D.fuse - 1 else D.fuse) → E.left = if 0 < D.fuse then D.fuse - 1 else D.fuse)
          rw [if_neg (by omega)]
          exact ⟨h1, h2⟩
theorem RD.after_keep (E : RD) : E.after.sure = E.sure ∧ E.after.pend = E.pend := by
  unfold RD.after
  split
  · exact ⟨rfl, rfl⟩
  split
  · exact ⟨rfl, rfl⟩
  split <;> exact ⟨rfl, rfl⟩
theorem Same4.put {D : DS} {E : RD} (h : Same4 D E) (i : Nat) (b : List Int) : Same4 (D.put i b) { E with pend := E.pend ++ [(i, full b)] } := by
  refine ⟨h.sure, ?_, h.down, h.fuse, ?_⟩
  · show E.pend ++ _ = D.pend ++ _
    rw [h.pend]
  · show splice D.seen (i * 64) (full b) = onto D.sure (D.pend ++ [(i, full b)])
    rw [onto_snoc, h.seen]
theorem Same4.len {D : DS} {E : RD} (h : Same4 D E) (ho : D.ok) : E.len = D.n := by
  unfold RD.len
  rw [h.sure, ho.hu]
  omega
theorem Same4.write {D : DS} {E : RD} (h : Same4 D E) (ho : D.ok) (i : Int) (b : List Int) : E.writeE i b = D.writeE i b ∧ Same4 (D.write i b) (E.write i b) := by
  unfold RD.writeE RD.write DS.writeE DS.write
  rw [h.len ho, h.goes]
  refine ⟨rfl, ?_⟩
  split
  · exact h
  split
  · exact h
  split
  · have := (h.after).put i.toNat b
    have e : E.after.pend = E.pend := E.after_keep.2
    rw [e] at this
    exact this
  · exact h.after
theorem Same4.crash {D : DS} {E : RD} (h : Same4 D E) (p : List Int) : Same4 (D.crash p) (E.crash p) := by
  refine ⟨?_, rfl, rfl, fun _ => ⟨rfl, fun h => by cases h⟩, rfl⟩
  show tear p E.sure 0 E.pend = tear p D.sure 0 D.pend
  rw [h.sure, h.pend]
theorem Same4.fuse_ {D : DS} {E : RD} (h : Same4 D E) (n : Int) : Same4 { D with fuse := n } (E.fuse n) := ⟨h.sure, h.pend, h.down, fun _ => ⟨rfl, fun _ => rfl⟩, h.seen⟩
theorem Same4.sync {D : DS} {E : RD} (h : Same4 D E) (ho : D.ok) : Same4 D.sync E.sync := by
  unfold RD.sync DS.sync
  rw [h.goes]
  split
  · rename_i hg
    have hd : (D.down || D.fuse == 0) = false := by
      unfold DS.goes at hg
      cases hx : (D.down || D.fuse == 0) with
      | false => rfl
      | true => rw [hx] at hg; cases hg
    have ha := h.after
    have hd1 : D.down = false := by cases hx : D.down with | false => rfl | true => rw [hx] at hd; simp at hd
    obtain ⟨f1, f2⟩ := h.fuse hd1
    have e0 : E.after.sure = E.sure ∧ E.after.pend = E.pend := E.after_keep
    refine ⟨?_, rfl, ?_, ?_, ?_⟩
    · show tear _ E.after.sure 0 E.after.pend = onto D.sure D.pend
      rw [e0.1, e0.2, h.sure, h.pend]
      exact tear_all _ _ _ _ (fun k hk => by
        unfold keeps
        rw [Nat.zero_add, if_pos (by simpa using hk), List.getD_eq_getElem?_getD, List.getElem?_replicate, if_pos hk]
        rfl) (fun p hp => (ho.hp p hp).2)
    · exact hd.symm
    · intro _
      obtain ⟨g1, g2⟩ := ha.fuse hd
      show E.fused = decide (0 ≤ D.after.fuse) ∧ (0 ≤ D.after.fuse → E.after.left = D.after.fuse)
      refine ⟨?_, g2⟩
      rw [f1]
      have hf0 : D.fuse ≠ 0 := by intro hx; rw [hx] at hd; simp at hd
      show decide (0 ≤ D.fuse) = decide (0 ≤ (if 0 < D.fuse then D.fuse - 1 else D.fuse))
      split
      · rw [decide_eq_true (by omega), decide_eq_true (by omega)]
      · rfl
    · exact h.seen
  · exact h.after
theorem Same4.read {D : DS} {E : RD} (h : Same4 D E) (ho : D.ok) (i : Int) : E.read i = D.read i ∧ E.readE i = D.readE i := by
  unfold RD.read DS.read RD.readE DS.readE
  rw [h.len ho]
  refine ⟨?_, rfl⟩
  split
  · rfl
  · rename_i hi
    unfold RD.at_ DS.at_
    rw [h.seen, at_onto D.sure D.n ho.hu i.toNat (by omega) D.pend ho.hp, h.pend, h.sure, Nat.mul_comm 64]
theorem Same4.ok {D : DS} {E : RD} (h : Same4 D E) (ho : D.ok) : E.ok D.n := ⟨ho.n2, by rw [h.sure]; exact ho.hu, by rw [h.pend]; exact ho.hp⟩
theorem RD.after_fused (E : RD) : E.after.fused = E.fused := by
  unfold RD.after
  split
  · rfl
  split
  · rfl
  split <;> rfl
theorem RD.lo.write {E : RD} (h : E.lo) (i : Int) (b : List Int) : (E.write i b).lo := by
  unfold RD.write
  split
  · exact h
  split
  · exact h
  split
  · exact h.after
  · exact h.after
theorem RD.lo.sync {E : RD} (h : E.lo) : E.sync.lo := by
  unfold RD.sync
  split
  · intro hf
    exact h.after (E.after_fused.trans hf)
  · exact h.after
theorem RD.lo.crash (E : RD) (p : List Int) : (E.crash p).lo := fun h => by cases h
theorem RD.lo.fuse (E : RD) (n : Int) (hn : n ≤ 9223372036854775807) : (E.fuse n).lo := fun h => ⟨of_decide_eq_true h, hn⟩
theorem RD.lo.new (n : Nat) : (RD.new n).lo := fun h => by cases h
theorem Same4.new (n : Nat) : Same4 (DS.new n) (RD.new n) := ⟨by show zeros (64 * n) = zeros (n * 64); rw [Nat.mul_comm], rfl, rfl, fun _ => ⟨rfl, fun h => by cases h⟩, rfl⟩

end Go.Proofs.Ythddgnnbgldfmaa
