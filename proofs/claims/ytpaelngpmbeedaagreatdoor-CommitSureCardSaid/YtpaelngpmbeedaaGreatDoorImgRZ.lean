/- Fenced blocks (plain). -/
import Derived.Test.YtpaelngpmbeedaaGreatDoorBaseZ
import Derived.Test.YtpaelngpmbeedaaGreatDoorStZ
import Derived.Test.YtpaelngpmbeedaaGreatDoorRows
import Derived.IntWalk
namespace Go.Proofs.YtpaelngpmbeedaaGreatDoor

structure RQ where
  op : Int
  region : Int
  index : Int
  token : Int
  seq : Int
  data : List Int
structure Rg where
  high : Int
  seq : Int
  b : Nat → List Int
  log : List (List Int)
def RQ.wrong (r : RQ) : Int := if r.op < 1 ∨ 5 < r.op ∨ r.region < 0 ∨ 255 < r.region ∨ r.index < 0 ∨ 255 < r.index then 1 else if 24 < r.data.length then 2 else 0
def RQ.changes (r : RQ) : Bool := r.op == 2 || r.op == 4 || r.op == 5
def Rg.next2 (n : Nat) (r : RQ) : Bool × Int := if r.op = 4 ∧ 4 ≤ n then (false, 42) else if r.op = 5 ∧ (n : Int) < r.index then (false, 1) else (true, 0)
def Rg.nextA (high seq : Int) (n : Nat) (r : RQ) : Bool × Int :=
  if high < r.token then (if r.seq ≠ 1 then (false, 60) else Rg.next2 n r)
  else if r.seq = seq then (false, 0) else if r.seq ≤ seq then (false, 80) else if r.seq ≠ seq + 1 then (false, 60) else Rg.next2 n r
def Rg.next (x : Rg) (r : RQ) : Bool × Int := Rg.nextA x.high x.seq x.log.length r
def checkI (m : Nat → Rg) (r : RQ) : Bool × Int :=
  if r.wrong ≠ 0 then (false, r.wrong) else if 4 ≤ r.region then (false, 93) else if r.op ≤ 2 ∧ 4 ≤ r.index then (false, 101)
  else if r.token < (m r.region.toNat).high ∨ (r.token = 0 ∧ r.changes = true) then (false, 100)
  else if r.changes = true then (m r.region.toNat).next r else (false, 0)
def upd {α : Type} (m : Nat → α) (k : Nat) (x : α) : Nat → α := fun i => if i = k then x else m i
theorem upd_at {α : Type} (m : Nat → α) (k : Nat) (x : α) : upd m k x k = x := if_pos rfl
theorem upd_ne {α : Type} (m : Nat → α) (k i : Nat) (x : α) (h : i ≠ k) : upd m k x i = m i := if_neg h
theorem upd_upd {α : Type} (m : Nat → α) (k : Nat) (x y : α) : upd (upd m k x) k y = upd m k y := by
  funext i
  unfold upd
  split <;> rfl
def Rg.act (x : Rg) (r : RQ) : Rg :=
  { high := r.token, seq := r.seq, b := if r.op = 2 then upd x.b r.index.toNat r.data else x.b, log := if r.op = 4 then x.log ++ [r.data] else if r.op = 5 then x.log.drop r.index.toNat else x.log }
def Rg.out (x : Rg) (r : RQ) : List (List Int) := if r.op = 1 then [x.b r.index.toNat] else if r.op = 3 then x.log else []
def doM (m : Nat → Rg) (r : RQ) : Nat → Rg := if (checkI m r).2 = 0 ∧ (checkI m r).1 = true then upd m r.region.toNat ((m r.region.toNat).act r) else m
def doO (m : Nat → Rg) (r : RQ) : List (List Int) := if (checkI m r).2 = 0 then (doM m r r.region.toNat).out r else []
structure Rg.ok (x : Rg) : Prop where
  h0 : 0 ≤ x.high
  h1 : x.high < 18446744073709551616
  s0 : 0 ≤ x.seq
  s1 : x.seq < 4294967296
  ll : x.log.length ≤ 4
  lb : ∀ l ∈ x.log, l.length ≤ 24
  bb : ∀ j, (x.b j).length ≤ 24
theorem RQ.wrong_zero {r : RQ} (h : r.wrong = 0) : 1 ≤ r.op ∧ r.op ≤ 5 ∧ 0 ≤ r.region ∧ r.region ≤ 255 ∧ 0 ≤ r.index ∧ r.index ≤ 255 ∧ r.data.length ≤ 24 := by
  unfold RQ.wrong at h
  split at h
  · cases h
  · split at h
    · cases h
    · omega
theorem Rg.next2_fresh {n : Nat} {r : RQ} (h : (Rg.next2 n r).1 = true) : (r.op = 4 → n < 4) ∧ (r.op = 5 → r.index ≤ n) := by
  unfold Rg.next2 at h
  split at h
  · cases h
  · split at h
    · cases h
    · constructor <;> intro h4 <;> omega
theorem Rg.next_fresh {x : Rg} {r : RQ} (h : (x.next r).1 = true) : (r.op = 4 → x.log.length < 4) ∧ (r.op = 5 → r.index ≤ x.log.length) := by
  unfold Rg.next Rg.nextA at h
  split at h
  · split at h
    · cases h
    · exact Rg.next2_fresh h
  · split at h
    · cases h
    · split at h
      · cases h
      · split at h
        · cases h
        · exact Rg.next2_fresh h
structure Good (m : Nat → Rg) (r : RQ) : Prop where
  w : r.wrong = 0
  k : r.region < 4
  i : r.op ≤ 2 → r.index < 4
  t : (m r.region.toNat).high ≤ r.token
theorem check_ok {m : Nat → Rg} {r : RQ} (h : (checkI m r).2 = 0) : Good m r := by
  unfold checkI at h
  split at h
  · rename_i h1; exact absurd h h1
  · split at h
    · cases h
    · split at h
      · cases h
      · split at h
        · cases h
        · rename_i h1 h2 h3 h4
          exact ⟨Decidable.not_not.1 h1, by omega, fun ho => by have := mt (fun hi => (⟨ho, hi⟩ : r.op ≤ 2 ∧ 4 ≤ r.index)) h3; omega, by have := mt (fun hi => (Or.inl hi : r.token < (m r.region.toNat).high ∨ (r.token = 0 ∧ r.changes = true))) h4; omega⟩
theorem check_fresh {m : Nat → Rg} {r : RQ} (h : (checkI m r).1 = true) : r.changes = true ∧ r.token ≠ 0 ∧ (r.op = 4 → (m r.region.toNat).log.length < 4) ∧ (r.op = 5 → r.index ≤ (m r.region.toNat).log.length) := by
  unfold checkI at h
  split at h
  · cases h
  · split at h
    · cases h
    · split at h
      · cases h
      · split at h
        · cases h
        · rename_i h4
          split at h
          · rename_i h5
            exact ⟨h5, fun h0 => h4 (.inr ⟨h0, h5⟩), Rg.next_fresh h⟩
          · cases h
theorem RQ.changes_op {r : RQ} (h : r.changes = true) : r.op = 2 ∨ r.op = 4 ∨ r.op = 5 := by
  unfold RQ.changes at h
  simp only [Bool.or_eq_true, beq_iff_eq] at h
  rcases h with (h | h) | h
  · exact .inl h
  · exact .inr (.inl h)
  · exact .inr (.inr h)
structure RQ.ok (r : RQ) : Prop where
  t0 : 0 ≤ r.token
  t1 : r.token < 18446744073709551616
  s0 : 0 ≤ r.seq
  s1 : r.seq < 4294967296
theorem Rg.act_ok {x : Rg} {r : RQ} (hx : x.ok) (hr : r.ok) (hw : r.data.length ≤ 24) (hl : r.op = 4 → x.log.length < 4) : (x.act r).ok := by
  refine ⟨hr.t0, hr.t1, hr.s0, hr.s1, ?_, ?_, ?_⟩
  · show (if r.op = 4 then x.log ++ [r.data] else if r.op = 5 then x.log.drop r.index.toNat else x.log).length ≤ 4
    split
    · rename_i h; have := hl h; simp; omega
    · split
      · have := hx.ll; rw [List.length_drop]; omega
      · exact hx.ll
  · show ∀ l ∈ (if r.op = 4 then x.log ++ [r.data] else if r.op = 5 then x.log.drop r.index.toNat else x.log), l.length ≤ 24
    split
    · intro l h
      rcases List.mem_append.1 h with h | h
      · exact hx.lb l h
      · obtain rfl := List.mem_singleton.1 h
        exact hw
    · split
      · exact fun l h => hx.lb l (List.mem_of_mem_drop h)
      · exact hx.lb
  · show ∀ j, ((if r.op = 2 then upd x.b r.index.toNat r.data else x.b) j).length ≤ 24
    split
    · intro j
      unfold upd
      split
      · exact hw
      · exact hx.bb j
    · exact hx.bb
theorem doM_ok {m : Nat → Rg} {r : RQ} (hm : ∀ k, (m k).ok) (hr : r.ok) : ∀ k, (doM m r k).ok := by
  intro k
  unfold doM
  split
  · rename_i h
    have hg := check_ok h.1
    unfold upd
    split
    · exact Rg.act_ok (hm _) hr (RQ.wrong_zero hg.w).2.2.2.2.2.2 (check_fresh h.2).2.2.1
    · exact hm k
  · exact hm k
def Rg.zero : Rg := ⟨0, 0, fun _ => [], []⟩
theorem Rg.zero_ok : Rg.zero.ok := ⟨by decide, by decide, by decide, by decide, by decide, (fun l h => by cases h), fun _ => by show ([] : List Int).length ≤ 24; decide⟩

end Go.Proofs.YtpaelngpmbeedaaGreatDoor
/- Requests: wrong, Changes (the program's, the document's). Printed by gen_imgc.py. -/
namespace Go.Proofs.YtpaelngpmbeedaaGreatDoor
open Go.RowKit

/-- a request as a value, its bytes in a slice -/
abbrev reqV (r : RQ) (v : Value) : Value := .agg #[.int .i64 r.op, .int .i64 r.region, .int .i64 r.index, .int .u64 r.token, .int .u32 r.seq, v]

set_option maxHeartbeats 400000 in
theorem wrong_any (r : RQ) (A : Option Addr) (n c : Nat) (w : World) (hn : n = r.data.length) : Calls Tryz.prog 55 #[reqV r (.slice A n c)] w fun e w' => e = .returned (.int .i64 r.wrong) ∧ Fr Non w w' := by
  obtain ⟨op, region, index, token, seq, data⟩ := r
  simp only at hn
  have HN := hide hn
  clear hn
  have key : ∀ x, RQ.wrong ⟨op, region, index, token, seq, data⟩ = x → Hid (RQ.wrong ⟨op, region, index, token, seq, data⟩ = x) := fun _ h => h
  by_cases h1 : op < 1
  · have E := key 1 (by unfold RQ.wrong; rw [if_pos (.inl h1)])
    clear key
    go_enter Tryz.func55, Tryz.ntmps55
    go_wp2
    go_ret
    exact ⟨by rw [E.out]; rfl, (Fr.refl _ _).alloc _⟩
  by_cases h2 : 5 < op
  · have E := key 1 (by unfold RQ.wrong; rw [if_pos (.inr (.inl h2))])
    clear key
    go_enter Tryz.func55, Tryz.ntmps55
    go_wp2
    go_ret
    exact ⟨by rw [E.out]; rfl, (Fr.refl _ _).alloc _⟩
  by_cases h3 : region < 0
  · have E := key 1 (by unfold RQ.wrong; rw [if_pos (.inr (.inr (.inl h3)))])
    clear key
    go_enter Tryz.func55, Tryz.ntmps55
    go_wp2
    go_ret
    exact ⟨by rw [E.out]; rfl, (Fr.refl _ _).alloc _⟩
  by_cases h4 : 255 < region
  · have E := key 1 (by unfold RQ.wrong; rw [if_pos (.inr (.inr (.inr (.inl h4))))])
    clear key
    go_enter Tryz.func55, Tryz.ntmps55
    go_wp2
    go_ret
    exact ⟨by rw [E.out]; rfl, (Fr.refl _ _).alloc _⟩
  by_cases h5 : index < 0
  · have E := key 1 (by unfold RQ.wrong; rw [if_pos (.inr (.inr (.inr (.inr (.inl h5)))))])
    clear key
    go_enter Tryz.func55, Tryz.ntmps55
    go_wp2
    go_ret
    exact ⟨by rw [E.out]; rfl, (Fr.refl _ _).alloc _⟩
  by_cases h6 : 255 < index
  · have E := key 1 (by unfold RQ.wrong; rw [if_pos (.inr (.inr (.inr (.inr (.inr h6)))))])
    clear key
    go_enter Tryz.func55, Tryz.ntmps55
    go_wp2
    go_ret
    exact ⟨by rw [E.out]; rfl, (Fr.refl _ _).alloc _⟩
  have hno : ¬ (op < 1 ∨ 5 < op ∨ region < 0 ∨ 255 < region ∨ index < 0 ∨ 255 < index) := by omega
  by_cases h7 : 24 < n
  · have E := key 2 (by unfold RQ.wrong; rw [if_neg hno, if_pos (by show 24 < data.length; rw [← HN.out]; exact h7)])
    clear key hno
    go_enter Tryz.func55, Tryz.ntmps55
    go_wp2
    go_ret
    exact ⟨by rw [E.out]; rfl, (Fr.refl _ _).alloc _⟩
  · have E := key 0 (by unfold RQ.wrong; rw [if_neg hno, if_neg (by show ¬ 24 < data.length; rw [← HN.out]; exact h7)])
    clear key hno
    go_enter Tryz.func55, Tryz.ntmps55
    go_wp2
    go_ret
    exact ⟨by rw [E.out]; rfl, (Fr.refl _ _).alloc _⟩

set_option maxHeartbeats 400000 in
theorem rwrong_any (r : RQ) (A : Option Addr) (n c : Nat) (w : World) (hn : n = r.data.length) : Calls Tryz.prog 96 #[reqV r (.slice A n c)] w fun e w' => e = .returned (.int .i64 r.wrong) ∧ Fr Non w w' := by
  obtain ⟨op, region, index, token, seq, data⟩ := r
  simp only at hn
  have HN := hide hn
  clear hn
  have key : ∀ x, RQ.wrong ⟨op, region, index, token, seq, data⟩ = x → Hid (RQ.wrong ⟨op, region, index, token, seq, data⟩ = x) := fun _ h => h
  by_cases h1 : op < 1
  · have E := key 1 (by unfold RQ.wrong; rw [if_pos (.inl h1)])
    clear key
    go_enter Tryz.func96, Tryz.ntmps96
    go_wp2
    go_ret
    exact ⟨by rw [E.out]; rfl, (Fr.refl _ _).alloc _⟩
  by_cases h2 : 5 < op
  · have E := key 1 (by unfold RQ.wrong; rw [if_pos (.inr (.inl h2))])
    clear key
    go_enter Tryz.func96, Tryz.ntmps96
    go_wp2
    go_ret
    exact ⟨by rw [E.out]; rfl, (Fr.refl _ _).alloc _⟩
  by_cases h3 : region < 0
  · have E := key 1 (by unfold RQ.wrong; rw [if_pos (.inr (.inr (.inl h3)))])
    clear key
    go_enter Tryz.func96, Tryz.ntmps96
    go_wp2
    go_ret
    exact ⟨by rw [E.out]; rfl, (Fr.refl _ _).alloc _⟩
  by_cases h4 : 255 < region
  · have E := key 1 (by unfold RQ.wrong; rw [if_pos (.inr (.inr (.inr (.inl h4))))])
    clear key
    go_enter Tryz.func96, Tryz.ntmps96
    go_wp2
    go_ret
    exact ⟨by rw [E.out]; rfl, (Fr.refl _ _).alloc _⟩
  by_cases h5 : index < 0
  · have E := key 1 (by unfold RQ.wrong; rw [if_pos (.inr (.inr (.inr (.inr (.inl h5)))))])
    clear key
    go_enter Tryz.func96, Tryz.ntmps96
    go_wp2
    go_ret
    exact ⟨by rw [E.out]; rfl, (Fr.refl _ _).alloc _⟩
  by_cases h6 : 255 < index
  · have E := key 1 (by unfold RQ.wrong; rw [if_pos (.inr (.inr (.inr (.inr (.inr h6)))))])
    clear key
    go_enter Tryz.func96, Tryz.ntmps96
    go_wp2
    go_ret
    exact ⟨by rw [E.out]; rfl, (Fr.refl _ _).alloc _⟩
  have hno : ¬ (op < 1 ∨ 5 < op ∨ region < 0 ∨ 255 < region ∨ index < 0 ∨ 255 < index) := by omega
  by_cases h7 : 24 < n
  · have E := key 2 (by unfold RQ.wrong; rw [if_neg hno, if_pos (by show 24 < data.length; rw [← HN.out]; exact h7)])
    clear key hno
    go_enter Tryz.func96, Tryz.ntmps96
    go_wp2
    go_ret
    exact ⟨by rw [E.out]; rfl, (Fr.refl _ _).alloc _⟩
  · have E := key 0 (by unfold RQ.wrong; rw [if_neg hno, if_neg (by show ¬ 24 < data.length; rw [← HN.out]; exact h7)])
    clear key hno
    go_enter Tryz.func96, Tryz.ntmps96
    go_wp2
    go_ret
    exact ⟨by rw [E.out]; rfl, (Fr.refl _ _).alloc _⟩

theorem changes_any (r : RQ) (v : Value) (w : World) : Calls Tryz.prog 56 #[reqV r v] w fun e w' => e = .returned (.bool r.changes) ∧ Fr Non w w' := by
  obtain ⟨op, region, index, token, seq, data⟩ := r
  have key : ∀ x, RQ.changes ⟨op, region, index, token, seq, data⟩ = x → Hid (RQ.changes ⟨op, region, index, token, seq, data⟩ = x) := fun _ h => h
  by_cases h0 : op = 2
  · have E := key true (by unfold RQ.changes; simp [h0])
    have hb := isT h0
    clear key
    go_enter Tryz.func56, Tryz.ntmps56
    go_wp2
    go_ret
    exact ⟨by rw [E.out]; rfl, (Fr.refl _ _).alloc _⟩
  have b0 := isF h0
  by_cases h1 : op = 4
  · have E := key true (by unfold RQ.changes; simp [h1])
    have hb := isT h1
    clear key
    go_enter Tryz.func56, Tryz.ntmps56
    go_wp2
    go_ret
    exact ⟨by rw [E.out]; rfl, (Fr.refl _ _).alloc _⟩
  have b1 := isF h1
  by_cases h2 : op = 5
  · have E := key true (by unfold RQ.changes; simp [h2])
    have hb := isT h2
    clear key
    go_enter Tryz.func56, Tryz.ntmps56
    go_wp2
    go_ret
    exact ⟨by rw [E.out]; rfl, (Fr.refl _ _).alloc _⟩
  have b2 := isF h2
  have E := key false (by unfold RQ.changes; simp [h0, h1, h2])
  clear key
  go_enter Tryz.func56, Tryz.ntmps56
  go_wp2
  go_ret
  exact ⟨by rw [E.out]; rfl, (Fr.refl _ _).alloc _⟩

theorem rchanges_any (r : RQ) (v : Value) (w : World) : Calls Tryz.prog 97 #[reqV r v] w fun e w' => e = .returned (.bool r.changes) ∧ Fr Non w w' := by
  obtain ⟨op, region, index, token, seq, data⟩ := r
  have key : ∀ x, RQ.changes ⟨op, region, index, token, seq, data⟩ = x → Hid (RQ.changes ⟨op, region, index, token, seq, data⟩ = x) := fun _ h => h
  by_cases h0 : op = 2
  · have E := key true (by unfold RQ.changes; simp [h0])
    have hb := isT h0
    clear key
    go_enter Tryz.func97, Tryz.ntmps97
    go_wp2
    go_ret
    exact ⟨by rw [E.out]; rfl, (Fr.refl _ _).alloc _⟩
  have b0 := isF h0
  by_cases h1 : op = 4
  · have E := key true (by unfold RQ.changes; simp [h1])
    have hb := isT h1
    clear key
    go_enter Tryz.func97, Tryz.ntmps97
    go_wp2
    go_ret
    exact ⟨by rw [E.out]; rfl, (Fr.refl _ _).alloc _⟩
  have b1 := isF h1
  by_cases h2 : op = 5
  · have E := key true (by unfold RQ.changes; simp [h2])
    have hb := isT h2
    clear key
    go_enter Tryz.func97, Tryz.ntmps97
    go_wp2
    go_ret
    exact ⟨by rw [E.out]; rfl, (Fr.refl _ _).alloc _⟩
  have b2 := isF h2
  have E := key false (by unfold RQ.changes; simp [h0, h1, h2])
  clear key
  go_enter Tryz.func97, Tryz.ntmps97
  go_wp2
  go_ret
  exact ⟨by rw [E.out]; rfl, (Fr.refl _ _).alloc _⟩

end Go.Proofs.YtpaelngpmbeedaaGreatDoor
/- A region's next. Printed by gen_imgn.py. -/
namespace Go.Proofs.YtpaelngpmbeedaaGreatDoor
open Go.RowKit

set_option maxRecDepth 100000 in
set_option maxHeartbeats 1000000 in
theorem next_any (g off : Nat) (r : RQ) (v : Value) (high seq : Int) (A : Option Addr) (n c : Nat) (w : World) (hr : 0 ≤ r.seq ∧ r.seq < 4294967296) (hs : 0 ≤ seq ∧ seq < 4294967296) (hg : g < w.heap.size)
    (c0 : w.cell? ⟨g, off, none⟩ = some (.int .u64 high)) (c1 : w.cell? ⟨g, off + 1, none⟩ = some (.int .u32 seq)) (c6 : w.cell? ⟨g, off + 6, none⟩ = some (.slice A n c)) :
    Calls Tryz.prog 57 #[.pointer (some ⟨g, off, none⟩), reqV r v] w fun e w' => e = .returned (.tuple #[.bool (Rg.nextA high seq n r).1, .int .i64 (Rg.nextA high seq n r).2]) ∧ Fr Non w w' := by
  have c0 := (World.cell?_alloc_lt w (.cells #[.int .i64 r.op, .int .i64 r.region, .int .i64 r.index, .int .u64 r.token, .int .u32 r.seq, v] 42) ⟨g, off, none⟩ hg).trans c0
  have c1 := (World.cell?_alloc_lt w (.cells #[.int .i64 r.op, .int .i64 r.region, .int .i64 r.index, .int .u64 r.token, .int .u32 r.seq, v] 42) ⟨g, off + 1, none⟩ hg).trans c1
  have c6 := (World.cell?_alloc_lt w (.cells #[.int .i64 r.op, .int .i64 r.region, .int .i64 r.index, .int .u64 r.token, .int .u32 r.seq, v] 42) ⟨g, off + 6, none⟩ hg).trans c6
  obtain ⟨op, region, index, token, rs, data⟩ := r
  simp only at c0 c1 c6 hr
  obtain ⟨r0, r1⟩ := hr
  obtain ⟨s0, s1⟩ := hs
  have key : ∀ x, Rg.nextA high seq n ⟨op, region, index, token, rs, data⟩ = x → Hid (Rg.nextA high seq n ⟨op, region, index, token, rs, data⟩ = x) := fun _ h => h
  by_cases ht : high < token
  · have dt : decide (high < token) = true := decide_eq_true ht
    by_cases h1 : rs = 1
    · have e1 := isT h1
      have e1' : (rs != 1) = false := by rw [h1]; rfl
      by_cases o4 : op = 4
      · have b4 := isT o4
        by_cases n4 : 4 ≤ n
        · have d4 : decide ((4 : Int) ≤ (n : Int)) = true := decide_eq_true (by omega)
          have E := key (false, 42) (by show (if high < token then (if rs ≠ 1 then (false, 60) else Rg.next2 n _) else _) = _; rw [if_pos ht, if_neg (fun h => h h1)]; unfold Rg.next2; rw [if_pos ⟨o4, n4⟩])
          clear key
          try clear o4
          try clear o5
          try clear h3
          try clear h1
          go_enter Tryz.func57, Tryz.ntmps57
          go_wp2_with go_quiet (fail)
          go_ret2
          refine ⟨by rw [E.out]; rfl, ?_⟩
          repeat (with_reducible refine Fr.drewN ?_ _)
          exact (Fr.refl _ _).alloc _
        have d4 : decide ((4 : Int) ≤ (n : Int)) = false := decide_eq_false (by omega)
        have o5 : ¬ op = 5 := by omega
        have b5 := isF o5
        have E := key (true, 0) (by show (if high < token then (if rs ≠ 1 then (false, 60) else Rg.next2 n _) else _) = _; rw [if_pos ht, if_neg (fun h => h h1)]; unfold Rg.next2; rw [if_neg (fun h => n4 h.2), if_neg (fun h => o5 h.1)])
        clear key
        try clear o4
        try clear o5
        try clear h3
        try clear h1
        go_enter Tryz.func57, Tryz.ntmps57
        go_wp2_with go_quiet (fail)
        go_ret2
        refine ⟨by rw [E.out]; rfl, ?_⟩
        repeat (with_reducible refine Fr.drewN ?_ _)
        exact (Fr.refl _ _).alloc _
      have b4 := isF o4
      by_cases o5 : op = 5
      · have b5 := isT o5
        by_cases n5 : (n : Int) < index
        · have d5 : decide ((n : Int) < index) = true := decide_eq_true n5
          have E := key (false, 1) (by show (if high < token then (if rs ≠ 1 then (false, 60) else Rg.next2 n _) else _) = _; rw [if_pos ht, if_neg (fun h => h h1)]; unfold Rg.next2; rw [if_neg (fun h => o4 h.1), if_pos ⟨o5, n5⟩])
          clear key
          try clear o4
          try clear o5
          try clear h3
          try clear h1
          go_enter Tryz.func57, Tryz.ntmps57
          go_wp2_with go_quiet (fail)
          go_ret2
          refine ⟨by rw [E.out]; rfl, ?_⟩
          repeat (with_reducible refine Fr.drewN ?_ _)
          exact (Fr.refl _ _).alloc _
        have d5 : decide ((n : Int) < index) = false := decide_eq_false n5
        have E := key (true, 0) (by show (if high < token then (if rs ≠ 1 then (false, 60) else Rg.next2 n _) else _) = _; rw [if_pos ht, if_neg (fun h => h h1)]; unfold Rg.next2; rw [if_neg (fun h => o4 h.1), if_neg (fun h => n5 h.2)])
        clear key
        try clear o4
        try clear o5
        try clear h3
        try clear h1
        go_enter Tryz.func57, Tryz.ntmps57
        go_wp2_with go_quiet (fail)
        go_ret2
        refine ⟨by rw [E.out]; rfl, ?_⟩
        repeat (with_reducible refine Fr.drewN ?_ _)
        exact (Fr.refl _ _).alloc _
      have b5 := isF o5
      have E := key (true, 0) (by show (if high < token then (if rs ≠ 1 then (false, 60) else Rg.next2 n _) else _) = _; rw [if_pos ht, if_neg (fun h => h h1)]; unfold Rg.next2; rw [if_neg (fun h => o4 h.1), if_neg (fun h => o5 h.1)])
      clear key
      try clear o4
      try clear o5
      try clear h3
      try clear h1
      go_enter Tryz.func57, Tryz.ntmps57
      go_wp2_with go_quiet (fail)
      go_ret2
      refine ⟨by rw [E.out]; rfl, ?_⟩
      repeat (with_reducible refine Fr.drewN ?_ _)
      exact (Fr.refl _ _).alloc _
    have e1' : (rs != 1) = true := by simp [h1]
    have E := key (false, 60) (by show (if high < token then (if rs ≠ 1 then (false, 60) else Rg.next2 n _) else _) = _; rw [if_pos ht, if_pos h1])
    clear key
    try clear o4
    try clear o5
    try clear h3
    try clear h1
    go_enter Tryz.func57, Tryz.ntmps57
    go_wp2_with go_quiet (fail)
    go_ret2
    refine ⟨by rw [E.out]; rfl, ?_⟩
    repeat (with_reducible refine Fr.drewN ?_ _)
    exact (Fr.refl _ _).alloc _
  have dt : decide (high < token) = false := decide_eq_false ht
  by_cases h1 : rs = seq
  · have e1 := isT h1
    have E := key (false, 0) (by show (if high < token then _ else if rs = seq then (false, 0) else if rs ≤ seq then (false, 80) else if rs ≠ seq + 1 then (false, 60) else Rg.next2 n _) = _; rw [if_neg ht, if_pos h1])
    clear key
    try clear o4
    try clear o5
    try clear h3
    try clear h1
    go_enter Tryz.func57, Tryz.ntmps57
    go_wp2_with go_quiet (fail)
    go_ret2
    refine ⟨by rw [E.out]; rfl, ?_⟩
    repeat (with_reducible refine Fr.drewN ?_ _)
    exact (Fr.refl _ _).alloc _
  have e1 := isF h1
  by_cases h2 : rs ≤ seq
  · have e2 : decide (rs ≤ seq) = true := decide_eq_true h2
    have E := key (false, 80) (by show (if high < token then _ else if rs = seq then (false, 0) else if rs ≤ seq then (false, 80) else if rs ≠ seq + 1 then (false, 60) else Rg.next2 n _) = _; rw [if_neg ht, if_neg h1, if_pos h2])
    clear key
    try clear o4
    try clear o5
    try clear h3
    try clear h1
    go_enter Tryz.func57, Tryz.ntmps57
    go_wp2_with go_quiet (fail)
    go_ret2
    refine ⟨by rw [E.out]; rfl, ?_⟩
    repeat (with_reducible refine Fr.drewN ?_ _)
    exact (Fr.refl _ _).alloc _
  have e2 : decide (rs ≤ seq) = false := decide_eq_false h2
  by_cases h3 : rs = seq + 1
  · have e3 : (rs != seq + 1) = false := by rw [h3]; simp
    by_cases o4 : op = 4
    · have b4 := isT o4
      by_cases n4 : 4 ≤ n
      · have d4 : decide ((4 : Int) ≤ (n : Int)) = true := decide_eq_true (by omega)
        have E := key (false, 42) (by show (if high < token then _ else if rs = seq then (false, 0) else if rs ≤ seq then (false, 80) else if rs ≠ seq + 1 then (false, 60) else Rg.next2 n _) = _; rw [if_neg ht, if_neg h1, if_neg h2, if_neg (fun h => h h3)]; unfold Rg.next2; rw [if_pos ⟨o4, n4⟩])
        clear key
        try clear o4
        try clear o5
        try clear h3
        try clear h1
        go_enter Tryz.func57, Tryz.ntmps57
        go_wp2_with go_quiet (fail)
        go_ret2
        refine ⟨by rw [E.out]; rfl, ?_⟩
        repeat (with_reducible refine Fr.drewN ?_ _)
        exact (Fr.refl _ _).alloc _
      have d4 : decide ((4 : Int) ≤ (n : Int)) = false := decide_eq_false (by omega)
      have o5 : ¬ op = 5 := by omega
      have b5 := isF o5
      have E := key (true, 0) (by show (if high < token then _ else if rs = seq then (false, 0) else if rs ≤ seq then (false, 80) else if rs ≠ seq + 1 then (false, 60) else Rg.next2 n _) = _; rw [if_neg ht, if_neg h1, if_neg h2, if_neg (fun h => h h3)]; unfold Rg.next2; rw [if_neg (fun h => n4 h.2), if_neg (fun h => o5 h.1)])
      clear key
      try clear o4
      try clear o5
      try clear h3
      try clear h1
      go_enter Tryz.func57, Tryz.ntmps57
      go_wp2_with go_quiet (fail)
      go_ret2
      refine ⟨by rw [E.out]; rfl, ?_⟩
      repeat (with_reducible refine Fr.drewN ?_ _)
      exact (Fr.refl _ _).alloc _
    have b4 := isF o4
    by_cases o5 : op = 5
    · have b5 := isT o5
      by_cases n5 : (n : Int) < index
      · have d5 : decide ((n : Int) < index) = true := decide_eq_true n5
        have E := key (false, 1) (by show (if high < token then _ else if rs = seq then (false, 0) else if rs ≤ seq then (false, 80) else if rs ≠ seq + 1 then (false, 60) else Rg.next2 n _) = _; rw [if_neg ht, if_neg h1, if_neg h2, if_neg (fun h => h h3)]; unfold Rg.next2; rw [if_neg (fun h => o4 h.1), if_pos ⟨o5, n5⟩])
        clear key
        try clear o4
        try clear o5
        try clear h3
        try clear h1
        go_enter Tryz.func57, Tryz.ntmps57
        go_wp2_with go_quiet (fail)
        go_ret2
        refine ⟨by rw [E.out]; rfl, ?_⟩
        repeat (with_reducible refine Fr.drewN ?_ _)
        exact (Fr.refl _ _).alloc _
      have d5 : decide ((n : Int) < index) = false := decide_eq_false n5
      have E := key (true, 0) (by show (if high < token then _ else if rs = seq then (false, 0) else if rs ≤ seq then (false, 80) else if rs ≠ seq + 1 then (false, 60) else Rg.next2 n _) = _; rw [if_neg ht, if_neg h1, if_neg h2, if_neg (fun h => h h3)]; unfold Rg.next2; rw [if_neg (fun h => o4 h.1), if_neg (fun h => n5 h.2)])
      clear key
      try clear o4
      try clear o5
      try clear h3
      try clear h1
      go_enter Tryz.func57, Tryz.ntmps57
      go_wp2_with go_quiet (fail)
      go_ret2
      refine ⟨by rw [E.out]; rfl, ?_⟩
      repeat (with_reducible refine Fr.drewN ?_ _)
      exact (Fr.refl _ _).alloc _
    have b5 := isF o5
    have E := key (true, 0) (by show (if high < token then _ else if rs = seq then (false, 0) else if rs ≤ seq then (false, 80) else if rs ≠ seq + 1 then (false, 60) else Rg.next2 n _) = _; rw [if_neg ht, if_neg h1, if_neg h2, if_neg (fun h => h h3)]; unfold Rg.next2; rw [if_neg (fun h => o4 h.1), if_neg (fun h => o5 h.1)])
    clear key
    try clear o4
    try clear o5
    try clear h3
    try clear h1
    go_enter Tryz.func57, Tryz.ntmps57
    go_wp2_with go_quiet (fail)
    go_ret2
    refine ⟨by rw [E.out]; rfl, ?_⟩
    repeat (with_reducible refine Fr.drewN ?_ _)
    exact (Fr.refl _ _).alloc _
  have e3 : (rs != seq + 1) = true := by simp [h3]
  have E := key (false, 60) (by show (if high < token then _ else if rs = seq then (false, 0) else if rs ≤ seq then (false, 80) else if rs ≠ seq + 1 then (false, 60) else Rg.next2 n _) = _; rw [if_neg ht, if_neg h1, if_neg h2, if_pos h3])
  clear key
  try clear o4
  try clear o5
  try clear h3
  try clear h1
  go_enter Tryz.func57, Tryz.ntmps57
  go_wp2_with go_quiet (fail)
  go_ret2
  refine ⟨by rw [E.out]; rfl, ?_⟩
  repeat (with_reducible refine Fr.drewN ?_ _)
  exact (Fr.refl _ _).alloc _

end Go.Proofs.YtpaelngpmbeedaaGreatDoor
/- The document's form of a request. -/
namespace Go.Proofs.YtpaelngpmbeedaaGreatDoor
open Go.RowKit

theorem results_cell1 {fn : Func} {t : Nat} {ty : TypeId} {P : Program} {w : World} {v : Value} {a : Addr} (h : fn.results = #[.cell t ty]) (tmps : Array Value) (ha : tmps.getD t undef = .pointer (some a)) (hl : (loadVar ty a).run P w = .ok v w) :
    (results fn tmps).run P w = .ok v w := by
  have ha' : tmps[t]?.getD undef = .pointer (some a) := by simpa using ha
  simp [results, h, ha', asAddr, hl]

end Go.Proofs.YtpaelngpmbeedaaGreatDoor
/- The program's image: what it holds. -/
namespace Go.Proofs.YtpaelngpmbeedaaGreatDoor
open Go.RowKit

/-- the slices of a region: its blocks, its log, what the log's elements are -/
structure RV where
  b : Nat → Value
  log : Value
  cs : Nat → List Value
def rgC (x : Rg) (p : RV) : List Value := [.int .u64 x.high, .int .u32 x.seq, p.b 0, p.b 1, p.b 2, p.b 3, p.log]
def imgC (m : Nat → Rg) (vs : Nat → RV) : Array Value := (rgC (m 0) (vs 0) ++ (rgC (m 1) (vs 1) ++ (rgC (m 2) (vs 2) ++ rgC (m 3) (vs 3)))).toArray
theorem below4 {k : Nat} (h : k < 4) : k = 0 ∨ k = 1 ∨ k = 2 ∨ k = 3 := by omega
theorem below7 {k : Nat} (h : k < 7) : k = 0 ∨ k = 1 ∨ k = 2 ∨ k = 3 ∨ k = 4 ∨ k = 5 ∨ k = 6 := by omega
theorem imgC_at (m : Nat → Rg) (vs : Nat → RV) {k j : Nat} (hk : k < 4) (hj : j < 7) : (imgC m vs)[k * 7 + j]? = (rgC (m k) (vs k))[j]? := by
  rcases below4 hk with rfl | rfl | rfl | rfl <;> rcases below7 hj with rfl | rfl | rfl | rfl | rfl | rfl | rfl <;> rfl
theorem imgC_set (m : Nat → Rg) (vs : Nat → RV) {k j : Nat} (hk : k < 4) (hj : j < 7) {x : Rg} {p : RV} {u : Value} (h : rgC x p = (rgC (m k) (vs k)).set j u) :
    (imgC m vs).setIfInBounds (k * 7 + j) u = imgC (upd m k x) (upd vs k p) := by
  have e : ∀ i, i ≠ k → rgC (upd m k x i) (upd vs k p i) = rgC (m i) (vs i) := fun i hi => by rw [upd_ne _ _ _ _ hi, upd_ne _ _ _ _ hi]
  have e2 : rgC (upd m k x k) (upd vs k p k) = (rgC (m k) (vs k)).set j u := by rw [upd_at, upd_at, h]
  unfold imgC
  rcases below4 hk with rfl | rfl | rfl | rfl
  · rw [e2, e 1 (by omega), e 2 (by omega), e 3 (by omega)]
    rcases below7 hj with rfl | rfl | rfl | rfl | rfl | rfl | rfl <;> rfl
  · rw [e2, e 0 (by omega), e 2 (by omega), e 3 (by omega)]
    rcases below7 hj with rfl | rfl | rfl | rfl | rfl | rfl | rfl <;> rfl
  · rw [e2, e 0 (by omega), e 1 (by omega), e 3 (by omega)]
    rcases below7 hj with rfl | rfl | rfl | rfl | rfl | rfl | rfl <;> rfl
  · rw [e2, e 0 (by omega), e 1 (by omega), e 2 (by omega)]
    rcases below7 hj with rfl | rfl | rfl | rfl | rfl | rfl | rfl <;> rfl

def LogR (w : World) (cs : List Value) (b : List Int) : Prop := ∃ v, cs = [v] ∧ Ints w .u8 v b
structure RegR (w : World) (p : RV) (x : Rg) : Prop where
  b : ∀ j, j < 4 → Ints w .u8 (p.b j) (x.b j)
  log : RowsC w 1 LogR p.log p.cs x.log
abbrev regsR (vs : Nat → RV) (m : Nat → Rg) : Res := persR (fun w => ∀ k, k < 4 → RegR w (vs k) (m k))
abbrev imgB (g : Nat) (vs : Nat → RV) (m : Nat → Rg) : Res := blkR g 102 (imgC m vs)
def imgR (g : Nat) (m : Nat → Rg) : Res := exR fun vs : Nat → RV => starR (imgB g vs m) (regsR vs m)
section
variable {M0 : Imm} {w : World} {L : List Res} {g : Nat} {m : Nat → Rg}
theorem St.img (h : St M0 w (imgR g m :: L)) : ∃ vs, St M0 w (imgB g vs m :: regsR vs m :: L) := by
  obtain ⟨vs, h⟩ := h.ex
  exact ⟨vs, h.star⟩
theorem St.addImg {vs : Nat → RV} (h : St M0 w (imgB g vs m :: regsR vs m :: L)) : St M0 w (imgR g m :: L) :=
  St.addEx (f := fun vs : Nat → RV => starR (imgB g vs m) (regsR vs m)) vs h.addStar
theorem upd_reg {w : World} {vs : Nat → RV} {k : Nat} {x : Rg} {p : RV} (h : ∀ i, i < 4 → RegR w (vs i) (m i)) (hx : RegR w p x) : ∀ i, i < 4 → RegR w (upd vs k p i) (upd m k x i) := by
  intro i hi
  by_cases he : i = k
  · subst he
    rw [upd_at, upd_at]
    exact hx
  · rw [upd_ne _ _ _ _ he, upd_ne _ _ _ _ he]
    exact h i hi
/-- a store into a region's cell -/
theorem St.setImg {vs : Nat → RV} {R : World → Prop} {k j : Nat} {x : Rg} {p : RV} {u : Value} (h : St M0 w (imgB g vs m :: regsR vs m :: persR R :: L)) (hk : k < 4) (hj : j < 7)
    (hu : rgC x p = (rgC (m k) (vs k)).set j u) (hx : ∀ w', RegR w' (vs k) (m k) → R w' → RegR w' p x) : St M0 (w.setCell ⟨g, k * 7 + j, none⟩ u) (imgR g (upd m k x) :: L) := by
  have h1 := h.set_ (k * 7 + j) u
  rw [imgC_set m vs hk hj hu] at h1
  refine St.addImg (vs := upd vs k p) ?_
  have h2 := (h1.swap.dn2.swap.swap)
  exact (h1.swap.up2.swap.pers2 (fun w' h3 h4 => upd_reg h3 (hx w' (h3 k hk) h4))).swap
theorem img_there {vs : Nat → RV} (h : Blk w g 102 (imgC m vs)) {k j : Nat} (hk : k < 4) (hj : j < 7) : (∃ u, w.cell? ⟨g, k * 7 + j, none⟩ = some u) ∧ w.frozen? ⟨g, k * 7 + j, none⟩ = false := by
  refine ⟨⟨(rgC (m k) (vs k))[j]'hj, ?_⟩, h.frozen _⟩
  rw [h.cell, imgC_at m vs hk hj]
  exact List.getElem?_eq_getElem _
/-- a region's cells -/
theorem img_cell {vs : Nat → RV} (h : Blk w g 102 (imgC m vs)) {k j : Nat} (hk : k < 4) (hj : j < 7) {u : Value} (hu : (rgC (m k) (vs k))[j]? = some u) : w.cell? ⟨g, k * 7 + j, none⟩ = some u :=
  ((h.cell (k * 7 + j)).trans (imgC_at m vs hk hj)).trans hu
end

end Go.Proofs.YtpaelngpmbeedaaGreatDoor
/- Regions that draw: operations that have a guard and are wanted. -/
namespace Go.Proofs.YtpaelngpmbeedaaGreatDoor
open Go.RowKit
section
variable {P : Program} {l : List Oper} {Q : Exit → Act → World → Prop} {S : World → Prop} {L : Nat}
theorem take_on {K : Act → Prop} {i : Nat} {r : List Nat} {a : Act} {o : Oper} {v : Value} (ho : l[i]? = some o) (hw : Region.wanted o (yielded l.toArray a.tmps) = true)
    (hrun : ∀ W, S W → (execOp a.eval o).run P W = .ok (.value v) W) (h : wpTake P l.toArray S K r (a.put o.dst v)) : wpTake P l.toArray S K (i :: r) a :=
  ⟨o, v, by simpa using ho, .inl ⟨hw, hrun⟩, h⟩
theorem seq_on {i : Nat} {r : List Nat} {a : Act} {w : World} {o : Oper} (ho : l[i]? = some o) (hw : Region.wanted o (yielded l.toArray a.tmps) = true)
    (h : o.wp P a w (fun a' w' => (i < L → S w') ∧ wpSeq P l.toArray Q S L r a' w') Q) : wpSeq P l.toArray Q S L (i :: r) a w :=
  ⟨o, by simpa using ho, by rw [if_pos hw]; exact h⟩
theorem seq_call_on {i : Nat} {r : List Nat} {a : Act} {w : World} {o : Oper} {f : FuncId} {args : Array Value} (ho : l[i]? = some o) (hw : Region.wanted o (yielded l.toArray a.tmps) = true)
    (hrun : (execOp a.eval o).run P w = .ok (.enter f args) w)
    (h : Calls P f args w fun e w' => ∃ v, e = .returned v ∧ (i < L → S w') ∧ wpSeq P l.toArray Q S L r (a.put o.dst v) w') : wpSeq P l.toArray Q S L (i :: r) a w :=
  seq_on ho hw (by
    unfold Oper.wp
    rw [hrun, Oper.upon_enter]
    refine h.mono fun e w' ⟨v, he, hS, h⟩ => ?_
    subst he
    exact ⟨hS, h⟩)
theorem seq_read_on {i : Nat} {r : List Nat} {a : Act} {w : World} {o : Oper} {v : Value} (ho : l[i]? = some o) (hw : Region.wanted o (yielded l.toArray a.tmps) = true)
    (hrun : (execOp a.eval o).run P w = .ok (.value v) w) (hS : i < L → S w) (h : wpSeq P l.toArray Q S L r (a.put o.dst v) w) : wpSeq P l.toArray Q S L (i :: r) a w :=
  seq_on ho hw (by
    unfold Oper.wp
    rw [hrun, Oper.upon_value]
    exact ⟨hS, h⟩)
end

end Go.Proofs.YtpaelngpmbeedaaGreatDoor
