/- (*Disk).Read, Sync, Crash: what they answer, and how the disk lies behind them. -/
import Derived.Test.YthddgnnbgldfmaaDiskW
import Derived.Test.YthddgnnbgldfmaaCloneB
namespace Go.Proofs.Ythddgnnbgldfmaa
open Go.RowKit

theorem DS.at_length {D : DS} (ho : D.ok) {k : Nat} (hk : k < D.n) : (D.at_ k).length = 64 := by
  have := ho.hs
  have h2 : (k + 1) * 64 ≤ D.n * 64 := Nat.mul_le_mul_right _ hk
  unfold DS.at_
  rw [List.length_take, List.length_drop]
  omega

set_option maxHeartbeats 400000 in
theorem read_no (g : Nat) (i : Int) (D : DS) (F : Nat → Prop) (w : World) (hi : i < 0 ∨ (D.n : Int) ≤ i) (hb : DiskAt w g D F) :
    Calls Try.prog 47 #[.pointer (some ⟨g, 0, none⟩), .int .i64 i] w fun e w' => e = .returned (.tuple #[.slice none 0 0, .int .i64 40]) ∧ w = w' := by
  have H := hide (has_any g i D F w hb)
  rw [decide_eq_false (by omega)] at H
  go_enter Try.func47, Try.ntmps47
  go_wp2_with (go_at_call 48; refine H.out.mono ?_; rintro e w' ⟨rfl, rfl⟩)
  go_ret2
  exact ⟨rfl, rfl⟩

set_option maxHeartbeats 400000 in
theorem read_yes (g k : Nat) (D : DS) (F : Nat → Prop) (w : World) (ho : D.ok) (hk : k < D.n) (hb : DiskAt w g D F) :
    Calls Try.prog 47 #[.pointer (some ⟨g, 0, none⟩), .int .i64 k] w fun e w' => ∃ A c, e = .returned (.tuple #[.slice A 64 c, .int .i64 0]) ∧ 64 ≤ c ∧ Sl w' (fun b => w.heap.size ≤ b) 1 A 64 (bv (D.at_ k)) ∧ Fr Non w w' := by
  have H := hide (has_any g k D F w hb)
  rw [decide_eq_true (show 0 ≤ (k : Int) ∧ (k : Int) < (D.n : Int) by omega)] at H
  obtain ⟨b1, c1, b2, c2, A, c3, h⟩ := hb
  have h2 : w.cell? ⟨g, 0, none⟩ = some (.slice (some ⟨b1, 0, none⟩) D.n c1) := (h.blk.cell 0).trans rfl
  have hl := DS.at_length ho hk
  have hnk : (0 : Int) ≤ (k : Int) ∧ (k : Int) < (D.n : Int) := by omega
  have HC := hide (clone_byte ⟨b1, k * 64, none⟩ 64 64 (bv (D.at_ k)) w (by simp [hl]) (by
    intro j u hu
    have := own_range h.seen (k * 64) 64
    rw [show (⟨b1, k * 64, none⟩ : Addr).add j = ⟨b1, k * 64 + j, none⟩ by unfold Addr.add; split <;> simp_all]
    refine this j u ?_
    rw [← hu]
    simp [DS.at_, bv, List.map_take, List.map_drop]) (bv_one _) (by omega))
  have HL := hide hl
  clear h hl
  go_enter Try.func47, Try.ntmps47
  go_wp2_with (first | (go_at_call 48; refine H.out.mono ?_; rintro e w' ⟨rfl, rfl⟩) | (go_at_call 55; refine HC.out.mono ?_; rintro e w' ⟨v, g1, rfl, h1, h3, h4, h5, h6⟩))
  go_ret2
  rcases h1.2 with ⟨rfl, h0⟩ | ⟨g', cap, cur, rfl, _, hh, hc, _⟩
  · simp [Value.ownBlock] at h3
  · obtain rfl : g' = g1 := by simpa [Value.ownBlock] using h3
    exact ⟨_, _, rfl, hc, ⟨h1.1, fun _ => ⟨_, rfl, h4, h5, h1.cells (g := g') rfl⟩⟩, h6⟩

theorem read_any (g : Nat) (i : Int) (D : DS) (F : Nat → Prop) (w : World) (ho : D.ok) (hb : DiskAt w g D F) :
    Calls Try.prog 47 #[.pointer (some ⟨g, 0, none⟩), .int .i64 i] w fun e w' => ∃ A c, e = .returned (.tuple #[.slice A (D.read i).length c, .int .i64 (D.readE i)]) ∧ (D.read i).length ≤ c ∧ (D.read i).length ≤ 64 ∧
      Sl w' (fun b => w.heap.size ≤ b) 1 A (D.read i).length (bv (D.read i)) ∧ Fr Non w w' := by
  unfold DS.readE DS.read
  by_cases hi : i < 0 ∨ (D.n : Int) ≤ i
  · rw [if_pos hi, if_pos hi]
    refine (read_no g i D F w hi hb).mono ?_
    rintro e w' ⟨rfl, rfl⟩
    exact ⟨none, 0, rfl, Nat.le_refl _, by simp, Sl.nil_ _ _ _ _, Fr.refl _ _⟩
  · rw [if_neg hi, if_neg hi]
    obtain ⟨k, rfl⟩ := Int.eq_ofNat_of_zero_le (show 0 ≤ i by omega)
    have hl := DS.at_length ho (k := k) (by omega)
    refine (read_yes g k D F w ho (by omega) hb).mono ?_
    rintro e w' ⟨A, c, rfl, h1, h2, h3⟩
    have hk : D.at_ (Int.ofNat k).toNat = D.at_ k := rfl
    refine ⟨A, c, by rw [show ((k : Int).toNat) = k by omega, hl], ?_, ?_, ?_, h3⟩
    · rw [show ((k : Int).toNat) = k by omega, hl]; exact h1
    · rw [show ((k : Int).toNat) = k by omega, hl]; omega
    · rw [show ((k : Int).toNat) = k by omega, hl]; exact h2

end Go.Proofs.Ythddgnnbgldfmaa
