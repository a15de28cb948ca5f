/- The document's Image: words, without the program's. Printed by gen_rima.py. -/
import Derived.Test.YtbnjeekhoaapiaaImgM
import Derived.Test.YtbnjeekhoaapiaaStFlat
import Derived.Test.YtbnjeekhoaapiaaStFull
import Derived.Test.YtbnjeekhoaapiaaMixG
import Derived.Test.YtbnjeekhoaapiaaCloneSt
import Derived.Test.YtbnjeekhoaapiaaRows
import Derived.IntWalk
namespace Go.Proofs.Ytbnjeekhoaapiaa
open Go.RowKit

/-- a request as a value, its bytes in a slice -/
abbrev reqV (r : RQ) (v : Value) : Value := .agg #[.int .i64 r.op, .int .i64 r.region, .int .i64 r.index, .int .u64 r.token, .int .u32 r.seq, v]
set_option maxHeartbeats 400000 in
theorem rwrong_any (r : RQ) (A : Option Addr) (n c : Nat) (w : World) (hn : n = r.data.length) : Calls Try.prog 96 #[reqV r (.slice A n c)] w fun e w' => e = .returned (.int .i64 r.wrong) ∧ Fr Non w w' := by
  obtain ⟨op, region, index, token, seq, data⟩ := r
  simp only at hn
  have HN := hide hn
  clear hn
  have key : ∀ x, RQ.wrong ⟨op, region, index, token, seq, data⟩ = x → Hid (RQ.wrong ⟨op, region, index, token, seq, data⟩ = x) := fun _ h => h
  by_cases h1 : op < 1
  · have E := key 1 (by unfold RQ.wrong; rw [if_pos (.inl h1)])
    clear key
    go_enter Try.func96, Try.ntmps96
    go_wp2
    go_ret
    exact ⟨by rw [E.out]; rfl, (Fr.refl _ _).alloc _⟩
  by_cases h2 : 5 < op
  · have E := key 1 (by unfold RQ.wrong; rw [if_pos (.inr (.inl h2))])
    clear key
    go_enter Try.func96, Try.ntmps96
    go_wp2
    go_ret
    exact ⟨by rw [E.out]; rfl, (Fr.refl _ _).alloc _⟩
  by_cases h3 : region < 0
  · have E := key 1 (by unfold RQ.wrong; rw [if_pos (.inr (.inr (.inl h3)))])
    clear key
    go_enter Try.func96, Try.ntmps96
    go_wp2
    go_ret
    exact ⟨by rw [E.out]; rfl, (Fr.refl _ _).alloc _⟩
  by_cases h4 : 255 < region
  · have E := key 1 (by unfold RQ.wrong; rw [if_pos (.inr (.inr (.inr (.inl h4))))])
    clear key
    go_enter Try.func96, Try.ntmps96
    go_wp2
    go_ret
    exact ⟨by rw [E.out]; rfl, (Fr.refl _ _).alloc _⟩
  by_cases h5 : index < 0
  · have E := key 1 (by unfold RQ.wrong; rw [if_pos (.inr (.inr (.inr (.inr (.inl h5)))))])
    clear key
    go_enter Try.func96, Try.ntmps96
    go_wp2
    go_ret
    exact ⟨by rw [E.out]; rfl, (Fr.refl _ _).alloc _⟩
  by_cases h6 : 255 < index
  · have E := key 1 (by unfold RQ.wrong; rw [if_pos (.inr (.inr (.inr (.inr (.inr h6)))))])
    clear key
    go_enter Try.func96, Try.ntmps96
    go_wp2
    go_ret
    exact ⟨by rw [E.out]; rfl, (Fr.refl _ _).alloc _⟩
  have hno : ¬ (op < 1 ∨ 5 < op ∨ region < 0 ∨ 255 < region ∨ index < 0 ∨ 255 < index) := by omega
  by_cases h7 : 24 < n
  · have E := key 2 (by unfold RQ.wrong; rw [if_neg hno, if_pos (by show 24 < data.length; rw [← HN.out]; exact h7)])
    clear key hno
    go_enter Try.func96, Try.ntmps96
    go_wp2
    go_ret
    exact ⟨by rw [E.out]; rfl, (Fr.refl _ _).alloc _⟩
  · have E := key 0 (by unfold RQ.wrong; rw [if_neg hno, if_neg (by show ¬ 24 < data.length; rw [← HN.out]; exact h7)])
    clear key hno
    go_enter Try.func96, Try.ntmps96
    go_wp2
    go_ret
    exact ⟨by rw [E.out]; rfl, (Fr.refl _ _).alloc _⟩
theorem rchanges_any (r : RQ) (v : Value) (w : World) : Calls Try.prog 97 #[reqV r v] w fun e w' => e = .returned (.bool r.changes) ∧ Fr Non w w' := by
  obtain ⟨op, region, index, token, seq, data⟩ := r
  have key : ∀ x, RQ.changes ⟨op, region, index, token, seq, data⟩ = x → Hid (RQ.changes ⟨op, region, index, token, seq, data⟩ = x) := fun _ h => h
  by_cases h0 : op = 2
  · have E := key true (by unfold RQ.changes; simp [h0])
    have hb := isT h0
    clear key
    go_enter Try.func97, Try.ntmps97
    go_wp2
    go_ret
    exact ⟨by rw [E.out]; rfl, (Fr.refl _ _).alloc _⟩
  have b0 := isF h0
  by_cases h1 : op = 4
  · have E := key true (by unfold RQ.changes; simp [h1])
    have hb := isT h1
    clear key
    go_enter Try.func97, Try.ntmps97
    go_wp2
    go_ret
    exact ⟨by rw [E.out]; rfl, (Fr.refl _ _).alloc _⟩
  have b1 := isF h1
  by_cases h2 : op = 5
  · have E := key true (by unfold RQ.changes; simp [h2])
    have hb := isT h2
    clear key
    go_enter Try.func97, Try.ntmps97
    go_wp2
    go_ret
    exact ⟨by rw [E.out]; rfl, (Fr.refl _ _).alloc _⟩
  have b2 := isF h2
  have E := key false (by unfold RQ.changes; simp [h0, h1, h2])
  clear key
  go_enter Try.func97, Try.ntmps97
  go_wp2
  go_ret
  exact ⟨by rw [E.out]; rfl, (Fr.refl _ _).alloc _⟩
/-- the slices of a region: its blocks, its log, what the log's elements are -/
structure RV where
  b : Nat → Value
  log : Value
  cs : Nat → List Value
theorem below4 {k : Nat} (h : k < 4) : k = 0 ∨ k = 1 ∨ k = 2 ∨ k = 3 := by omega
theorem below7 {k : Nat} (h : k < 7) : k = 0 ∨ k = 1 ∨ k = 2 ∨ k = 3 ∨ k = 4 ∨ k = 5 ∨ k = 6 := by omega
def LogR (w : World) (cs : List Value) (b : List Int) : Prop := ∃ v, cs = [v] ∧ Ints w .u8 v b
structure RegR (w : World) (p : RV) (x : Rg) : Prop where
  b : ∀ j, j < 4 → Ints w .u8 (p.b j) (x.b j)
  log : RowsC w 1 LogR p.log p.cs x.log
abbrev regsR (vs : Nat → RV) (m : Nat → Rg) : Res := persR (fun w => ∀ k, k < 4 → RegR w (vs k) (m k))
section
variable {M0 : Imm} {w : World} {L : List Res} {g : Nat} {m : Nat → Rg}
theorem upd_reg {w : World} {vs : Nat → RV} {k : Nat} {x : Rg} {p : RV} (h : ∀ i, i < 4 → RegR w (vs i) (m i)) (hx : RegR w p x) : ∀ i, i < 4 → RegR w (upd vs k p i) (upd m k x i) := by
  intro i hi
  by_cases he : i = k
  · subst he
    rw [upd_at, upd_at]
    exact hx
  · rw [upd_ne _ _ _ _ he, upd_ne _ _ _ _ he]
    exact h i hi
end
theorem Blk.six {w : World} {b : Nat} {t : TypeId} {v0 v1 v2 v3 v4 v5 : Value} (h : Blk w b t #[v0, v1, v2, v3, v4, v5]) : w.cell? ⟨b, 0, none⟩ = some v0 ∧ w.cell? ⟨b, 1, none⟩ = some v1 ∧ w.cell? ⟨b, 2, none⟩ = some v2 ∧ w.cell? ⟨b, 3, none⟩ = some v3 ∧ w.cell? ⟨b, 4, none⟩ = some v4 ∧ w.cell? ⟨b, 5, none⟩ = some v5 :=
  ⟨h.cell 0, h.cell 1, h.cell 2, h.cell 3, h.cell 4, h.cell 5⟩
def aw0 : Nat → Rg := fun _ => Rg.zero
theorem aw_ok0 : ∀ k, (aw0 k).ok := fun _ => Rg.zero_ok
theorem aq_ok (op region index token seq : Int) (data : List Int) (h : 0 ≤ token ∧ token < 18446744073709551616 ∧ 0 ≤ seq ∧ seq < 4294967296 := by decide) : (RQ.mk op region index token seq data).ok := ⟨h.1, h.2.1, h.2.2.1, h.2.2.2⟩
theorem LogR.ints1 {w : World} {v : Value} {b : List Int} (h : LogR w [v] b) : Ints w .u8 v b := by
  obtain ⟨v', e, hi⟩ := h
  injection e with e
  subst e
  exact hi
def nilRV : RV := ⟨fun _ => .slice none 0 0, .slice none 0 0, fun _ => []⟩
end Go.Proofs.Ytbnjeekhoaapiaa
