/- Image.High, Image.Seq. -/
import Derived.Test.YtdhkklcjhbnnlaaImgDo
namespace Go.Proofs.Ytdhkklcjhbnnlaa
open Go.RowKit

def highI (m : Nat → Rg) (i : Int) : Int := if 0 ≤ i ∧ i < 4 then (m i.toNat).high else 0
def seqI (m : Nat → Rg) (i : Int) : Int := if 0 ≤ i ∧ i < 4 then (m i.toNat).seq else 0
theorem highI_at (m : Nat → Rg) (k : Nat) (h : k < 4) : highI m k = (m k).high := if_pos ⟨by omega, by omega⟩
theorem seqI_at (m : Nat → Rg) (k : Nat) (h : k < 4) : seqI m k = (m k).seq := if_pos ⟨by omega, by omega⟩

set_option maxHeartbeats 400000 in
theorem high_st {M0 : Imm} {L : List Res} (g : Nat) (m : Nat → Rg) (i : Int) (w : World) (h : St M0 w (imgR g m :: L)) :
    Calls Try.prog 41 #[.pointer (some ⟨g, 0, none⟩), .int .i64 i] w fun e w' => e = .returned (.int .u64 (highI m i)) ∧ St M0 w' (imgR g m :: L) := by
  by_cases hi : 0 ≤ i ∧ i < 4
  · obtain ⟨k, rfl⟩ := Int.eq_ofNat_of_zero_le hi.1
    have hk : k < 4 := by omega
    have E := hide (highI_at m k hk)
    have k0 : (0 : Int) ≤ (k : Int) := by omega
    have k4 : (k : Int) < 4 := by omega
    have d0 : decide ((k : Int) < 0) = false := decide_eq_false (by omega)
    have d4 : decide ((4 : Int) ≤ (k : Int)) = false := decide_eq_false (by omega)
    obtain ⟨vs, h1⟩ := h.img
    have x0 := img_cell (h1.blk 0 rfl) (k := k) (j := 0) hk (by omega) rfl
    simp only [Nat.add_zero] at x0
    have H := hide h
    clear hi h h1
    go_enter Try.func41, Try.ntmps41
    go_wp2
    go_ret
    exact ⟨by rw [E.out]; rfl, H.out⟩
  · have E : Hid (highI m i = 0) := hide (if_neg hi)
    have H := hide h
    clear h
    by_cases h0 : i < 0
    · have d0 : decide (i < 0) = true := decide_eq_true h0
      clear hi h0
      go_enter Try.func41, Try.ntmps41
      go_wp2
      go_ret
      exact ⟨by rw [E.out]; rfl, H.out.junk _⟩
    · have d0 : decide (i < 0) = false := decide_eq_false h0
      have d4 : decide (4 ≤ i) = true := decide_eq_true (by omega)
      clear hi h0
      go_enter Try.func41, Try.ntmps41
      go_wp2
      go_ret
      exact ⟨by rw [E.out]; rfl, H.out.junk _⟩

set_option maxHeartbeats 400000 in
theorem seq_st {M0 : Imm} {L : List Res} (g : Nat) (m : Nat → Rg) (i : Int) (w : World) (h : St M0 w (imgR g m :: L)) :
    Calls Try.prog 42 #[.pointer (some ⟨g, 0, none⟩), .int .i64 i] w fun e w' => e = .returned (.int .u32 (seqI m i)) ∧ St M0 w' (imgR g m :: L) := by
  by_cases hi : 0 ≤ i ∧ i < 4
  · obtain ⟨k, rfl⟩ := Int.eq_ofNat_of_zero_le hi.1
    have hk : k < 4 := by omega
    have E := hide (seqI_at m k hk)
    have k0 : (0 : Int) ≤ (k : Int) := by omega
    have k4 : (k : Int) < 4 := by omega
    have d0 : decide ((k : Int) < 0) = false := decide_eq_false (by omega)
    have d4 : decide ((4 : Int) ≤ (k : Int)) = false := decide_eq_false (by omega)
    obtain ⟨vs, h1⟩ := h.img
    have x0 := img_cell (h1.blk 0 rfl) (k := k) (j := 1) hk (by omega) rfl
    have H := hide h
    clear hi h h1
    go_enter Try.func42, Try.ntmps42
    go_wp2
    go_ret
    exact ⟨by rw [E.out]; rfl, H.out⟩
  · have E : Hid (seqI m i = 0) := hide (if_neg hi)
    have H := hide h
    clear h
    by_cases h0 : i < 0
    · have d0 : decide (i < 0) = true := decide_eq_true h0
      clear hi h0
      go_enter Try.func42, Try.ntmps42
      go_wp2
      go_ret
      exact ⟨by rw [E.out]; rfl, H.out.junk _⟩
    · have d0 : decide (i < 0) = false := decide_eq_false h0
      have d4 : decide (4 ≤ i) = true := decide_eq_true (by omega)
      clear hi h0
      go_enter Try.func42, Try.ntmps42
      go_wp2
      go_ret
      exact ⟨by rw [E.out]; rfl, H.out.junk _⟩

end Go.Proofs.Ytdhkklcjhbnnlaa
