/- Fenced blocks (plain). -/
import Derived.Test.YtbgknfdaaffeaaaBv
namespace Go.Proofs.Ytbgknfdaaffeaaa

structure RQ where
  op : Int
  region : Int
  index : Int
  token : Int
  seq : Int
  data : List Int
structure Rg where
  high : Int
  seq : Int
  b : Nat → List Int
  log : List (List Int)
def RQ.wrong (r : RQ) : Int := if r.op < 1 ∨ 5 < r.op ∨ r.region < 0 ∨ 255 < r.region ∨ r.index < 0 ∨ 255 < r.index then 1 else if 24 < r.data.length then 2 else 0
def RQ.changes (r : RQ) : Bool := r.op == 2 || r.op == 4 || r.op == 5
def Rg.next2 (n : Nat) (r : RQ) : Bool × Int := if r.op = 4 ∧ 4 ≤ n then (false, 42) else if r.op = 5 ∧ (n : Int) < r.index then (false, 1) else (true, 0)
def Rg.nextA (high seq : Int) (n : Nat) (r : RQ) : Bool × Int :=
  if high < r.token then (if r.seq ≠ 1 then (false, 60) else Rg.next2 n r)
  else if r.seq = seq then (false, 0) else if r.seq ≤ seq then (false, 80) else if r.seq ≠ seq + 1 then (false, 60) else Rg.next2 n r
def Rg.next (x : Rg) (r : RQ) : Bool × Int := Rg.nextA x.high x.seq x.log.length r
def checkI (m : Nat → Rg) (r : RQ) : Bool × Int :=
  if r.wrong ≠ 0 then (false, r.wrong) else if 4 ≤ r.region then (false, 93) else if r.op ≤ 2 ∧ 4 ≤ r.index then (false, 101)
  else if r.token < (m r.region.toNat).high ∨ (r.token = 0 ∧ r.changes = true) then (false, 100)
  else if r.changes = true then (m r.region.toNat).next r else (false, 0)
def upd {α : Type} (m : Nat → α) (k : Nat) (x : α) : Nat → α := fun i => if i = k then x else m i
theorem upd_at {α : Type} (m : Nat → α) (k : Nat) (x : α) : upd m k x k = x := if_pos rfl
theorem upd_ne {α : Type} (m : Nat → α) (k i : Nat) (x : α) (h : i ≠ k) : upd m k x i = m i := if_neg h
theorem upd_upd {α : Type} (m : Nat → α) (k : Nat) (x y : α) : upd (upd m k x) k y = upd m k y := by
  funext i
  unfold upd
  split <;> rfl
def Rg.act (x : Rg) (r : RQ) : Rg :=
  { high := r.token, seq := r.seq, b := if r.op = 2 then upd x.b r.index.toNat r.data else x.b, log := if r.op = 4 then x.log ++ [r.data] else if r.op = 5 then x.log.drop r.index.toNat else x.log }
def Rg.out (x : Rg) (r : RQ) : List (List Int) := if r.op = 1 then [x.b r.index.toNat] else if r.op = 3 then x.log else []
def doM (m : Nat → Rg) (r : RQ) : Nat → Rg := if (checkI m r).2 = 0 ∧ (checkI m r).1 = true then upd m r.region.toNat ((m r.region.toNat).act r) else m
def doO (m : Nat → Rg) (r : RQ) : List (List Int) := if (checkI m r).2 = 0 then (doM m r r.region.toNat).out r else []
structure Rg.ok (x : Rg) : Prop where
  h0 : 0 ≤ x.high
  h1 : x.high < 18446744073709551616
  s0 : 0 ≤ x.seq
  s1 : x.seq < 4294967296
  ll : x.log.length ≤ 4
  lb : ∀ l ∈ x.log, l.length ≤ 24
  bb : ∀ j, (x.b j).length ≤ 24
theorem RQ.wrong_zero {r : RQ} (h : r.wrong = 0) : 1 ≤ r.op ∧ r.op ≤ 5 ∧ 0 ≤ r.region ∧ r.region ≤ 255 ∧ 0 ≤ r.index ∧ r.index ≤ 255 ∧ r.data.length ≤ 24 := by
  unfold RQ.wrong at h
  split at h
  · cases h
  · split at h
    · cases h
    · omega
theorem Rg.next2_fresh {n : Nat} {r : RQ} (h : (Rg.next2 n r).1 = true) : (r.op = 4 → n < 4) ∧ (r.op = 5 → r.index ≤ n) := by
  unfold Rg.next2 at h
  split at h
  · cases h
  · split at h
    · cases h
    · constructor <;> intro h4 <;> omega
theorem Rg.next_fresh {x : Rg} {r : RQ} (h : (x.next r).1 = true) : (r.op = 4 → x.log.length < 4) ∧ (r.op = 5 → r.index ≤ x.log.length) := by
  unfold Rg.next Rg.nextA at h
  split at h
  · split at h
    · cases h
    · exact Rg.next2_fresh h
  · split at h
    · cases h
    · split at h
      · cases h
      · split at h
        · cases h
        · exact Rg.next2_fresh h
structure Good (m : Nat → Rg) (r : RQ) : Prop where
  w : r.wrong = 0
  k : r.region < 4
  i : r.op ≤ 2 → r.index < 4
  t : (m r.region.toNat).high ≤ r.token
theorem check_ok {m : Nat → Rg} {r : RQ} (h : (checkI m r).2 = 0) : Good m r := by
  unfold checkI at h
  split at h
  · rename_i h1; exact absurd h h1
  · split at h
    · cases h
    · split at h
      · cases h
      · split at h
        · cases h
        · rename_i h1 h2 h3 h4
          exact ⟨Decidable.not_not.1 h1, by omega, fun ho => by have := mt (fun hi => (⟨ho, hi⟩ : r.op ≤ 2 ∧ 4 ≤ r.index)) h3; omega, by have := mt (fun hi => (Or.inl hi : r.token < (m r.region.toNat).high ∨ (r.token = 0 ∧ r.changes = true))) h4; omega⟩
theorem check_fresh {m : Nat → Rg} {r : RQ} (h : (checkI m r).1 = true) : r.changes = true ∧ r.token ≠ 0 ∧ (r.op = 4 → (m r.region.toNat).log.length < 4) ∧ (r.op = 5 → r.index ≤ (m r.region.toNat).log.length) := by
  unfold checkI at h
  split at h
  · cases h
  · split at h
    · cases h
    · split at h
      · cases h
      · split at h
        · cases h
        · rename_i h4
          split at h
          · rename_i h5
            exact ⟨h5, fun h0 => h4 (.inr ⟨h0, h5⟩), Rg.next_fresh h⟩
          · cases h
theorem RQ.changes_op {r : RQ} (h : r.changes = true) : r.op = 2 ∨ r.op = 4 ∨ r.op = 5 := by
  unfold RQ.changes at h
  simp only [Bool.or_eq_true, beq_iff_eq] at h
  rcases h with (h | h) | h
  · exact .inl h
  · exact .inr (.inl h)
  · exact .inr (.inr h)
structure RQ.ok (r : RQ) : Prop where
  t0 : 0 ≤ r.token
  t1 : r.token < 18446744073709551616
  s0 : 0 ≤ r.seq
  s1 : r.seq < 4294967296
theorem Rg.act_ok {x : Rg} {r : RQ} (hx : x.ok) (hr : r.ok) (hw : r.data.length ≤ 24) (hl : r.op = 4 → x.log.length < 4) : (x.act r).ok := by
  refine ⟨hr.t0, hr.t1, hr.s0, hr.s1, ?_, ?_, ?_⟩
  · show (if r.op = 4 then x.log ++ [r.data] else if r.op = 5 then x.log.drop r.index.toNat else x.log).length ≤ 4
    split
    · rename_i h; have := hl h; simp; omega
    · split
      · have := hx.ll; rw [List.length_drop]; omega
      · exact hx.ll
  · show ∀ l ∈ (if r.op = 4 then x.log ++ [r.data] else if r.op = 5 then x.log.drop r.index.toNat else x.log), l.length ≤ 24
    split
    · intro l h
      rcases List.mem_append.1 h with h | h
      · exact hx.lb l h
      · obtain rfl := List.mem_singleton.1 h
        exact hw
    · split
      · exact fun l h => hx.lb l (List.mem_of_mem_drop h)
      · exact hx.lb
  · show ∀ j, ((if r.op = 2 then upd x.b r.index.toNat r.data else x.b) j).length ≤ 24
    split
    · intro j
      unfold upd
      split
      · exact hw
      · exact hx.bb j
    · exact hx.bb
theorem doM_ok {m : Nat → Rg} {r : RQ} (hm : ∀ k, (m k).ok) (hr : r.ok) : ∀ k, (doM m r k).ok := by
  intro k
  unfold doM
  split
  · rename_i h
    have hg := check_ok h.1
    unfold upd
    split
    · exact Rg.act_ok (hm _) hr (RQ.wrong_zero hg.w).2.2.2.2.2.2 (check_fresh h.2).2.2.1
    · exact hm k
  · exact hm k
def Rg.zero : Rg := ⟨0, 0, fun _ => [], []⟩
theorem Rg.zero_ok : Rg.zero.ok := ⟨by decide, by decide, by decide, by decide, by decide, (fun l h => by cases h), fun _ => by show ([] : List Int).length ≤ 24; decide⟩

end Go.Proofs.Ytbgknfdaaffeaaa
