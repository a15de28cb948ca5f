/- Requests: wrong, Changes (the program's, the document's). Printed by gen_imgc.py. -/
import Derived.Test.YtdhkklcjhbnnlaaImgM
import Derived.Test.YtdhkklcjhbnnlaaStRows
import Derived.Test.YtdhkklcjhbnnlaaRows
import Derived.IntWalk
namespace Go.Proofs.Ytdhkklcjhbnnlaa
open Go.RowKit

/-- a request as a value, its bytes in a slice -/
abbrev reqV (r : RQ) (v : Value) : Value := .agg #[.int .i64 r.op, .int .i64 r.region, .int .i64 r.index, .int .u64 r.token, .int .u32 r.seq, v]

set_option maxHeartbeats 400000 in
theorem wrong_any (r : RQ) (A : Option Addr) (n c : Nat) (w : World) (hn : n = r.data.length) : Calls Try.prog 66 #[reqV r (.slice A n c)] w fun e w' => e = .returned (.int .i64 r.wrong) ∧ Fr Non w w' := by
  obtain ⟨op, region, index, token, seq, data⟩ := r
  simp only at hn
  have HN := hide hn
  clear hn
  have key : ∀ x, RQ.wrong ⟨op, region, index, token, seq, data⟩ = x → Hid (RQ.wrong ⟨op, region, index, token, seq, data⟩ = x) := fun _ h => h
  by_cases h1 : op < 1
  · have E := key 1 (by unfold RQ.wrong; rw [if_pos (.inl h1)])
    clear key
    go_enter Try.func66, Try.ntmps66
    go_wp2
    go_ret
    exact ⟨by rw [E.out]; rfl, (Fr.refl _ _).alloc _⟩
  by_cases h2 : 5 < op
  · have E := key 1 (by unfold RQ.wrong; rw [if_pos (.inr (.inl h2))])
    clear key
    go_enter Try.func66, Try.ntmps66
    go_wp2
    go_ret
    exact ⟨by rw [E.out]; rfl, (Fr.refl _ _).alloc _⟩
  by_cases h3 : region < 0
  · have E := key 1 (by unfold RQ.wrong; rw [if_pos (.inr (.inr (.inl h3)))])
    clear key
    go_enter Try.func66, Try.ntmps66
    go_wp2
    go_ret
    exact ⟨by rw [E.out]; rfl, (Fr.refl _ _).alloc _⟩
  by_cases h4 : 255 < region
  · have E := key 1 (by unfold RQ.wrong; rw [if_pos (.inr (.inr (.inr (.inl h4))))])
    clear key
    go_enter Try.func66, Try.ntmps66
    go_wp2
    go_ret
    exact ⟨by rw [E.out]; rfl, (Fr.refl _ _).alloc _⟩
  by_cases h5 : index < 0
  · have E := key 1 (by unfold RQ.wrong; rw [if_pos (.inr (.inr (.inr (.inr (.inl h5)))))])
    clear key
    go_enter Try.func66, Try.ntmps66
    go_wp2
    go_ret
    exact ⟨by rw [E.out]; rfl, (Fr.refl _ _).alloc _⟩
  by_cases h6 : 255 < index
  · have E := key 1 (by unfold RQ.wrong; rw [if_pos (.inr (.inr (.inr (.inr (.inr h6)))))])
    clear key
    go_enter Try.func66, Try.ntmps66
    go_wp2
    go_ret
    exact ⟨by rw [E.out]; rfl, (Fr.refl _ _).alloc _⟩
  have hno : ¬ (op < 1 ∨ 5 < op ∨ region < 0 ∨ 255 < region ∨ index < 0 ∨ 255 < index) := by omega
  by_cases h7 : 24 < n
  · have E := key 2 (by unfold RQ.wrong; rw [if_neg hno, if_pos (by show 24 < data.length; rw [← HN.out]; exact h7)])
    clear key hno
    go_enter Try.func66, Try.ntmps66
    go_wp2
    go_ret
    exact ⟨by rw [E.out]; rfl, (Fr.refl _ _).alloc _⟩
  · have E := key 0 (by unfold RQ.wrong; rw [if_neg hno, if_neg (by show ¬ 24 < data.length; rw [← HN.out]; exact h7)])
    clear key hno
    go_enter Try.func66, Try.ntmps66
    go_wp2
    go_ret
    exact ⟨by rw [E.out]; rfl, (Fr.refl _ _).alloc _⟩

set_option maxHeartbeats 400000 in
theorem rwrong_any (r : RQ) (A : Option Addr) (n c : Nat) (w : World) (hn : n = r.data.length) : Calls Try.prog 72 #[reqV r (.slice A n c)] w fun e w' => e = .returned (.int .i64 r.wrong) ∧ Fr Non w w' := by
  obtain ⟨op, region, index, token, seq, data⟩ := r
  simp only at hn
  have HN := hide hn
  clear hn
  have key : ∀ x, RQ.wrong ⟨op, region, index, token, seq, data⟩ = x → Hid (RQ.wrong ⟨op, region, index, token, seq, data⟩ = x) := fun _ h => h
  by_cases h1 : op < 1
  · have E := key 1 (by unfold RQ.wrong; rw [if_pos (.inl h1)])
    clear key
    go_enter Try.func72, Try.ntmps72
    go_wp2
    go_ret
    exact ⟨by rw [E.out]; rfl, (Fr.refl _ _).alloc _⟩
  by_cases h2 : 5 < op
  · have E := key 1 (by unfold RQ.wrong; rw [if_pos (.inr (.inl h2))])
    clear key
    go_enter Try.func72, Try.ntmps72
    go_wp2
    go_ret
    exact ⟨by rw [E.out]; rfl, (Fr.refl _ _).alloc _⟩
  by_cases h3 : region < 0
  · have E := key 1 (by unfold RQ.wrong; rw [if_pos (.inr (.inr (.inl h3)))])
    clear key
    go_enter Try.func72, Try.ntmps72
    go_wp2
    go_ret
    exact ⟨by rw [E.out]; rfl, (Fr.refl _ _).alloc _⟩
  by_cases h4 : 255 < region
  · have E := key 1 (by unfold RQ.wrong; rw [if_pos (.inr (.inr (.inr (.inl h4))))])
    clear key
    go_enter Try.func72, Try.ntmps72
    go_wp2
    go_ret
    exact ⟨by rw [E.out]; rfl, (Fr.refl _ _).alloc _⟩
  by_cases h5 : index < 0
  · have E := key 1 (by unfold RQ.wrong; rw [if_pos (.inr (.inr (.inr (.inr (.inl h5)))))])
    clear key
    go_enter Try.func72, Try.ntmps72
    go_wp2
    go_ret
    exact ⟨by rw [E.out]; rfl, (Fr.refl _ _).alloc _⟩
  by_cases h6 : 255 < index
  · have E := key 1 (by unfold RQ.wrong; rw [if_pos (.inr (.inr (.inr (.inr (.inr h6)))))])
    clear key
    go_enter Try.func72, Try.ntmps72
    go_wp2
    go_ret
    exact ⟨by rw [E.out]; rfl, (Fr.refl _ _).alloc _⟩
  have hno : ¬ (op < 1 ∨ 5 < op ∨ region < 0 ∨ 255 < region ∨ index < 0 ∨ 255 < index) := by omega
  by_cases h7 : 24 < n
  · have E := key 2 (by unfold RQ.wrong; rw [if_neg hno, if_pos (by show 24 < data.length; rw [← HN.out]; exact h7)])
    clear key hno
    go_enter Try.func72, Try.ntmps72
    go_wp2
    go_ret
    exact ⟨by rw [E.out]; rfl, (Fr.refl _ _).alloc _⟩
  · have E := key 0 (by unfold RQ.wrong; rw [if_neg hno, if_neg (by show ¬ 24 < data.length; rw [← HN.out]; exact h7)])
    clear key hno
    go_enter Try.func72, Try.ntmps72
    go_wp2
    go_ret
    exact ⟨by rw [E.out]; rfl, (Fr.refl _ _).alloc _⟩

theorem changes_any (r : RQ) (v : Value) (w : World) : Calls Try.prog 52 #[reqV r v] w fun e w' => e = .returned (.bool r.changes) ∧ Fr Non w w' := by
  obtain ⟨op, region, index, token, seq, data⟩ := r
  have key : ∀ x, RQ.changes ⟨op, region, index, token, seq, data⟩ = x → Hid (RQ.changes ⟨op, region, index, token, seq, data⟩ = x) := fun _ h => h
  by_cases h0 : op = 2
  · have E := key true (by unfold RQ.changes; simp [h0])
    have hb := isT h0
    clear key
    go_enter Try.func52, Try.ntmps52
    go_wp2
    go_ret
    exact ⟨by rw [E.out]; rfl, (Fr.refl _ _).alloc _⟩
  have b0 := isF h0
  by_cases h1 : op = 4
  · have E := key true (by unfold RQ.changes; simp [h1])
    have hb := isT h1
    clear key
    go_enter Try.func52, Try.ntmps52
    go_wp2
    go_ret
    exact ⟨by rw [E.out]; rfl, (Fr.refl _ _).alloc _⟩
  have b1 := isF h1
  by_cases h2 : op = 5
  · have E := key true (by unfold RQ.changes; simp [h2])
    have hb := isT h2
    clear key
    go_enter Try.func52, Try.ntmps52
    go_wp2
    go_ret
    exact ⟨by rw [E.out]; rfl, (Fr.refl _ _).alloc _⟩
  have b2 := isF h2
  have E := key false (by unfold RQ.changes; simp [h0, h1, h2])
  clear key
  go_enter Try.func52, Try.ntmps52
  go_wp2
  go_ret
  exact ⟨by rw [E.out]; rfl, (Fr.refl _ _).alloc _⟩

theorem rchanges_any (r : RQ) (v : Value) (w : World) : Calls Try.prog 54 #[reqV r v] w fun e w' => e = .returned (.bool r.changes) ∧ Fr Non w w' := by
  obtain ⟨op, region, index, token, seq, data⟩ := r
  have key : ∀ x, RQ.changes ⟨op, region, index, token, seq, data⟩ = x → Hid (RQ.changes ⟨op, region, index, token, seq, data⟩ = x) := fun _ h => h
  by_cases h0 : op = 2
  · have E := key true (by unfold RQ.changes; simp [h0])
    have hb := isT h0
    clear key
    go_enter Try.func54, Try.ntmps54
    go_wp2
    go_ret
    exact ⟨by rw [E.out]; rfl, (Fr.refl _ _).alloc _⟩
  have b0 := isF h0
  by_cases h1 : op = 4
  · have E := key true (by unfold RQ.changes; simp [h1])
    have hb := isT h1
    clear key
    go_enter Try.func54, Try.ntmps54
    go_wp2
    go_ret
    exact ⟨by rw [E.out]; rfl, (Fr.refl _ _).alloc _⟩
  have b1 := isF h1
  by_cases h2 : op = 5
  · have E := key true (by unfold RQ.changes; simp [h2])
    have hb := isT h2
    clear key
    go_enter Try.func54, Try.ntmps54
    go_wp2
    go_ret
    exact ⟨by rw [E.out]; rfl, (Fr.refl _ _).alloc _⟩
  have b2 := isF h2
  have E := key false (by unfold RQ.changes; simp [h0, h1, h2])
  clear key
  go_enter Try.func54, Try.ntmps54
  go_wp2
  go_ret
  exact ⟨by rw [E.out]; rfl, (Fr.refl _ _).alloc _⟩

end Go.Proofs.Ytdhkklcjhbnnlaa
