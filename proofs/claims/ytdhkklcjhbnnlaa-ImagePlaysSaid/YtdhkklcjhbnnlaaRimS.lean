/- The image and the document's: told alike. -/
import Derived.Test.YtdhkklcjhbnnlaaRimP
import Derived.Test.YtdhkklcjhbnnlaaImgH
import Derived.Test.YtdhkklcjhbnnlaaEqSt
namespace Go.Proofs.Ytdhkklcjhbnnlaa
open Go.RowKit

set_option maxRecDepth 100000 in
set_option maxHeartbeats 2000000 in
theorem sameI_st {M0 : Imm} {L : List Res} (g g' : Nat) (m : Nat → Rg) (w : World) (hm : ∀ k, (m k).ok) (h : St M0 w (imgR g m :: rimR g' m :: L)) :
    Calls Try.prog 47 #[.pointer (some ⟨g, 0, none⟩), .pointer (some ⟨g', 0, none⟩)] w fun e w' => e = .returned (.bool true) ∧ St M0 w' (imgR g m :: rimR g' m :: L) := by
  have HM := hide hm
  have H := hide h
  clear h hm
  go_enter Try.func47, Try.ntmps47
  go_wp2_with fail
  go_loopg [5] 4 (fun gh i wr => ∃ (k : Nat), gh = 4 - k ∧ k ≤ 4 ∧ i = .int .i64 (k : Nat) ∧ St M0 wr (imgR g m :: rimR g' m :: L))
  case atStart => exact ⟨0, rfl, by omega, rfl, H.out⟩
  case round =>
    clear H
    obtain ⟨k, hg, hk, rfl, h⟩ := hrel
    have HG := hide hg
    have H := hide h
    clear hg h
    by_cases hlt : k < 4
    · have kn : (0 : Int) ≤ (k : Int) := by omega
      have k4 : (k : Int) < 4 := by omega
      have HH := hide (highI_at m k hlt)
      have HS := hide (seqI_at m k hlt)
      go_wp2_with fail
      refine (high_st g m k _ H.out).mono ?_
      rintro e w2 ⟨rfl, h⟩
      rw [HH.out]
      have H2 := hide h
      clear H h
      go_wp2_with fail
      refine (seq_st g m k _ H2.out).mono ?_
      rintro e w3 ⟨rfl, h⟩
      rw [HS.out]
      obtain ⟨vs, h2⟩ := h.swap.rim
      have xh := ((h2.blk 0 rfl).cell k).trans (rimC_high m vs hlt)
      have xs := ((h2.blk 0 rfl).cell (4 + k)).trans (rimC_seq m vs hlt)
      have H3 := hide h
      clear H2 h h2 HH HS
      generalize (m k).high = a at xh ⊢
      generalize (m k).seq = b at xs ⊢
      have ha : (a != a) = false := by simp
      have hb : (b != b) = false := by simp
      go_wp2_with fail
      go_roundg (4 - (k + 1))
      case measure => have := HG.out; omega
      case rel => exact ⟨k + 1, rfl, by omega, by go_num, H3.out⟩
    · obtain rfl : k = 4 := by omega
      have h4 : highI m 4 = 0 := if_neg (by omega)
      have h1 : seqI m (-1) = 0 := if_neg (by omega)
      have H4 := hide h4
      have H1 := hide h1
      clear h4 h1
      go_wp2_with fail
      refine (high_st g m 4 _ H.out).mono ?_
      rintro e w2 ⟨rfl, h⟩
      rw [H4.out]
      have H2 := hide h
      clear H h
      go_wp2_with fail
      refine (seq_st g m (-1) _ H2.out).mono ?_
      rintro e w3 ⟨rfl, h⟩
      rw [H1.out]
      have H3 := hide h
      clear H2 h
      go_wp2_with fail
      refine (pack_st g m _ HM.out H3.out).mono ?_
      rintro e w4 ⟨p, rfl, h⟩
      have h2 := h.ints
      obtain ⟨A2, c2, rfl, _, _, _⟩ := h2.get 0 rfl
      have H5 := hide h2.up2
      clear H3 h h2
      go_wp2_with fail
      refine (rpack_st g' m _ HM.out H5.out).mono ?_
      rintro e w5 ⟨q, rfl, h⟩
      have h2 := h.ints
      obtain ⟨A3, c3, rfl, _, _, _⟩ := h2.get 0 rfl
      have H6 := hide h2
      clear H5 h h2
      go_wp2_with fail
      refine (same_true _ _ (packI m) _ (H6.out.get 2 rfl) (H6.out.get 0 rfl) H6.out).mono ?_
      rintro e w6 ⟨rfl, h⟩
      have H7 := hide (h.pick (L' := imgR g m :: rimR g' m :: L) 4 [3, 1])
      clear H6 h
      go_wp2_with fail
      go_ret
      exact ⟨rfl, H7.out⟩

end Go.Proofs.Ytdhkklcjhbnnlaa
