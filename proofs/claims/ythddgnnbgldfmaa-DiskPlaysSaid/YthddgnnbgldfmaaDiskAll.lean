/- The law's own helper all: all that is read of a disk of eight sectors. -/
import Derived.Test.YthddgnnbgldfmaaDiskL
namespace Go.Proofs.Ythddgnnbgldfmaa
open Go.RowKit

theorem DS.take_at {D : DS} (k : Nat) : D.seen.take (k * 64) ++ D.at_ k = D.seen.take ((k + 1) * 64) := by
  unfold DS.at_
  rw [show (k + 1) * 64 = k * 64 + 64 by omega, List.take_add]

set_option maxRecDepth 100000 in
set_option maxHeartbeats 1000000 in
theorem all_has {O : Nat → Prop} {g : Nat} {D : DS} {w : World} (ho : D.ok) (h8 : D.n = 8) (hb : Has O w g D) :
    Calls Try.prog 26 #[.pointer (some ⟨g, 0, none⟩)] w fun e w' => ∃ v, e = .returned v ∧ Nums w' (fun b => w.heap.size ≤ b) .u8 v D.seen ∧ D.seen.length = 512 ∧ Fr Non w w' := by
  have hs := ho.hs
  rw [h8] at hs
  have HS := hide hs
  have HO := hide ho
  have H8 := hide h8
  clear hs ho h8
  go_enter Try.func26, Try.ntmps26
  go_wp2_with fail
  go_loopg [3, 4] 8 (fun gh v i wr => ∃ k : Nat, gh = 8 - k ∧ k ≤ 8 ∧ i = .int .i64 k ∧ wr.ownsRow w.heap.size 5 1 v (k * 64) (bv (D.seen.take (k * 64))) ∧ Fr Non w wr)
  case atStart => exact ⟨0, rfl, by omega, rfl, World.ownsRow_nil _ _ _ _, Fr.refl _ _⟩
  case round =>
    obtain ⟨k, hgk, hk, rfl, hown, hF⟩ := hrel
    have HG := hide hgk
    have HW := hide hown
    have HF := hide hF
    have hsz := hide hF.size
    clear hgk hown hF
    by_cases hk8 : k < 8
    · go_wp2_with fail
      refine (read_has k HO.out (hb.non HF.out)).mono ?_
      rintro e w2 ⟨A, c, rfl, hlc, hl64, hsl, hf2⟩
      have hrd : D.read k = D.at_ k := by
        unfold DS.read
        rw [if_neg (by have := H8.out; omega)]
        rfl
      have hat : (D.at_ k).length = 64 := DS.at_length HO.out (by rw [H8.out]; exact hk8)
      rw [hrd, hat] at hsl
      rw [hrd, hat]
      rw [hrd] at hlc hl64
      obtain ⟨ad, rfl, hq, hbl, hc⟩ := hsl.2 (by omega)
      have hown2 := own_non HW.out hf2
      have hsz2 := hf2.size
      have HX := hide (And.intro hsl.1 (And.intro hc (And.intro hown2 (And.intro hsz2 hf2))))
      have HT := hide (DS.take_at (D := D) k)
      clear hsl hc hq hbl hown2 hrd hlc hl64 hsz2 hf2 hat
      generalize D.at_ k = xs at *
      go_wp2_with (at_builtin; refine append_at rfl _ _ 50 rfl w.heap.size 5 (.int .u8 0) 1 1 Try.underlying50 info_byte (by kernel_rfl) (by omega) _ (k * 64) _ rfl HX.out.2.2.1 ad 64 c rfl (bv xs) (by rw [HX.out.1]) HX.out.2.1 (bv_one _) (by omega) (by omega) (by have := hsz.out; have := HX.out.2.2.2.1; omega) ?_; intro v' w3 hown3 hf3 hb3)
      go_roundg (8 - (k + 1))
      case measure => have := HG.out; omega
      case rel =>
        refine ⟨k + 1, rfl, by omega, rfl, own_congr hown3 (by omega) ?_, ?_⟩
        · rw [← HT.out]; simp [bv]
        · exact (HF.out.trans HX.out.2.2.2.2).step hf3 (fun i hi hl => by have := (HW.out.lt i hi).1; omega)
    · obtain rfl : k = 8 := by omega
      go_wp2_with fail
      go_ret
      have hs := HS.out
      have ht : D.seen.take (8 * 64) = D.seen := List.take_of_length_le (by omega)
      have hown := HW.out
      rw [ht] at hown
      exact ⟨_, rfl, Nums.of_own (own_congr hown (by omega) rfl) (by omega), hs, HF.out⟩

end Go.Proofs.Ythddgnnbgldfmaa
