/- The statements' own examples. -/
import Derived.Test.YtdhkklcjhbnnlaaAlike
import Derived.Test.YtdhkklcjhbnnlaaPackDe
namespace Go.Proofs.Ytdhkklcjhbnnlaa
open Go.RowKit

def awF : List Fld := [⟨2, 258, []⟩, ⟨9, 0, [7, 8]⟩]
theorem awEe : encE awF = 0 := by decide
theorem awEb : encB awF = [2, 1, 2, 0, 7, 8] := by decide
def awB : List Int := [2, 1, 2, 0, 7, 8]
theorem awD1 : decE [2, 9] awB = 0 := by decide
theorem awD1l : decL [2, 9] awB = [⟨2, 258, []⟩, ⟨9, 0, [7, 8]⟩] := by unfold decL; rw [awD1]; rfl
theorem awD2 : decE [2] awB = 11 := by decide
theorem awD3 : decE [2, 9, 1] awB = 10 := by decide
theorem awD4 : decE [3] [] = 1 := by decide
theorem awBb : Bytes awB := by unfold Bytes isByte awB; decide

theorem FldR.bytes {w : World} {a b v : Value} {f : Fld} (h : FldR w [a, b, v] f) : Ints w .u8 v f.b := by
  obtain ⟨v', e, hi, _⟩ := h
  simp at e
  rw [e.2.2]
  exact hi
def awC (g : Nat) : List Value := [.int .i64 2, .int .u64 258, .slice none 0 0, .int .i64 9, .int .u64 0, .slice (some ⟨g, 0, none⟩) 2 2]
theorem awRows {w : World} {g : Nat} (hi : Ints w .u8 (.slice (some ⟨g, 0, none⟩) 2 2) [7, 8]) : ∀ (i : Nat) (x : Fld), awF[i]? = some x → FldR w (((awC g).drop (i * 3)).take 3) x := by
  intro i x hx
  match i, hx with
  | 0, hx =>
    obtain rfl : (⟨2, 258, []⟩ : Fld) = x := by simpa [awF] using hx
    exact ⟨_, rfl, Ints.none_ w _, by decide, by decide⟩
  | 1, hx =>
    obtain rfl : (⟨9, 0, [7, 8]⟩ : Fld) = x := by simpa [awF] using hx
    exact ⟨_, rfl, hi, by decide, by decide⟩
  | i + 2, hx => simp [awF] at hx

set_option maxRecDepth 100000 in
set_option maxHeartbeats 1000000 in
theorem awake_st {M0 : Imm} {L : List Res} (w : World) (h : St M0 w L) : Calls Try.prog 16 #[] w fun e w' => e = .returned (.bool true) ∧ St M0 w' L := by
  have h1 := ((h.litInts 5 .u8 [7, 8] (by decide) w.heap.size rfl).pers1 (fun w' hi => awRows hi)).litRow 41 3 2 (awC w.heap.size) rfl (by omega) (w.heap.size + 1)
  have H := hide (h1.rows rfl)
  clear h h1
  go_enter Try.func16, Try.ntmps16
  go_wp2_with fail
  refine (enc_st _ awF _ (by decide) H.out).mono ?_
  rintro e w1 ⟨u, rfl, h⟩
  rw [awEe]
  rw [awEb] at h
  have h2 := (((h.ints.del1).litInts 3 .i64 [2, 9] (by decide) w1.heap.size rfl).litInts 5 .u8 awB (by decide) (w1.heap.size + 1)).swap
  obtain ⟨A1, c1, rfl, _, _, _⟩ := h.ints.get 0 rfl
  have H2 := hide h2
  clear H h h2
  go_wp2_with fail
  refine (dec_st _ _ [2, 9] awB _ (by decide) awBb (by decide) H2.out).mono ?_
  rintro e w2 ⟨x, rfl, h⟩
  rw [awD1]
  rw [awD1l] at h
  obtain ⟨A2, c2, rfl, _, _⟩ := (h.getRows 0 rfl).slice
  have h := h.del1.del1
  have h2 := ((h.litInts 3 .i64 [2] (by decide) w2.heap.size rfl).litInts 5 .u8 awB (by decide) (w2.heap.size + 1)).swap
  have H := hide h2
  clear H2 h h2
  go_wp2_with fail
  refine (dec_st _ _ [2] awB _ (by decide) awBb (by decide) H.out).mono ?_
  rintro e w3 ⟨x3, rfl, h⟩
  rw [awD2]
  obtain ⟨A3, c3, rfl, _, _⟩ := (h.getRows 0 rfl).slice
  have h2 := ((h.tail.tail.tail.litInts 3 .i64 [2, 9, 1] (by decide) w3.heap.size rfl).litInts 5 .u8 awB (by decide) (w3.heap.size + 1)).swap
  have H2 := hide h2
  clear H h h2
  go_wp2_with fail
  refine (dec_st _ _ [2, 9, 1] awB _ (by decide) awBb (by decide) H2.out).mono ?_
  rintro e w4 ⟨x4, rfl, h⟩
  rw [awD3]
  obtain ⟨A4, c4, rfl, _, _⟩ := (h.getRows 0 rfl).slice
  have h2 := (((h.tail.tail.tail.litInts 3 .i64 [3] (by decide) w4.heap.size rfl).pers0 (R := fun w' => Ints w' .u8 (.slice none 0 0) []) (fun w' _ => Ints.none_ w' _))).swap
  have H := hide h2
  clear H2 h h2
  go_wp2_with fail
  refine (dec_st _ _ [3] [] _ (by decide) Bytes.nil (by decide) H.out).mono ?_
  rintro e w5 ⟨x5, rfl, h⟩
  rw [awD4]
  obtain ⟨A5, c5, rfl, _, _⟩ := (h.getRows 0 rfl).slice
  have h := h.tail.tail.tail
  obtain ⟨ad, cs', rfl, _, _, hcv, h6⟩ := h.elem 0 rfl (k := 1) (x := ⟨9, 0, [7, 8]⟩) rfl
  obtain ⟨v1, rfl, hv1, _, _⟩ := hcv
  obtain ⟨A6, c6, rfl, _, _, _⟩ := hv1
  have h7 := h6.litInts 5 .u8 awB (by decide) w5.heap.size rfl
  have H2 := hide h7
  clear H h h6 h7
  go_wp2_with fail
  refine (same_true _ _ awB _ (H2.out.get 3 rfl) (H2.out.get 0 rfl) H2.out.tail).mono ?_
  rintro e w6 ⟨rfl, h⟩
  obtain ⟨ad', cs, e', _, hcs, v0, rfl, _, _, _⟩ := (h.getRows 1 rfl).at_ (i := 0) (x := ⟨2, 258, []⟩) rfl
  injection e' with e'
  subst e'
  obtain ⟨k0, k1, k2⟩ := cells3 hcs
  obtain ⟨j0, j1, j2⟩ := cells3 (h.get 0 rfl).1
  have k1' : w6.cell? ⟨ad.block, ad.off + 1, none⟩ = some (.int .u64 258) := by simpa [Addr.add] using k1
  have j2' : w6.cell? ⟨(ad.add 3).block, (ad.add 3).off + 2, none⟩ = some (.slice A6 2 c6) := j2
  have j3' : w6.cell? ⟨ad.block, ad.off + 3 + 2, none⟩ = some (.slice A6 2 c6) := by simpa [Addr.add] using j2
  have j4' : w6.cell? ⟨ad.block, ad.off + 5, none⟩ = some (.slice A6 2 c6) := by simpa [Addr.add] using j2
  clear k0 k1 k2 j0 j1 j2
  have h7 := h.litInts 5 .u8 [7, 8] (by decide) w6.heap.size rfl
  have H := hide h7
  clear H2 h hcs h7
  go_wp2_with fail
  refine (same_true _ _ [7, 8] _ (H.out.get 1 rfl).2.bytes (H.out.get 0 rfl) H.out.tail.tail.tail.tail).mono ?_
  rintro e w7 ⟨rfl, h⟩
  clear H
  go_wp2_with fail
  go_ret
  exact ⟨rfl, h⟩

end Go.Proofs.Ytdhkklcjhbnnlaa
