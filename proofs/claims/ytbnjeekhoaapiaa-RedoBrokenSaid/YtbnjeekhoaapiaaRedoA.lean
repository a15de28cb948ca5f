/- Redo: Record, of the program and of the document. -/
import Derived.Test.YtbnjeekhoaapiaaRedoM
import Derived.Test.YtbnjeekhoaapiaaCloneSt
namespace Go.Proofs.Ytbnjeekhoaapiaa
open Go.RowKit

set_option maxHeartbeats 1000000 in
theorem rec_st {M0 : Imm} {L : List Res} (p : PU) (A : Option Addr) (n c : Nat) (w : World) (h : St M0 w (intsR .u8 (.slice A n c) p.data :: L)) :
    Calls Try.prog 32 #[putV p (.slice A n c)] w fun e w' => ∃ v, e = .returned (.tuple #[v, .int .i64 (recE p)]) ∧ St M0 w' (intsR .u8 v (recB p) :: L) := by
  obtain ⟨region, index, data⟩ := p
  obtain ⟨hn, _, _, hsl⟩ := (h.get 0 rfl).sl
  have H := hide (h.alloc 62 #[.int .i64 region, .int .i64 index, .slice A n c])
  have key : ∀ x, recE ⟨region, index, data⟩ = x → Hid (recE ⟨region, index, data⟩ = x) := fun _ h => h
  have HB := hide (show recB ⟨region, index, data⟩ = if recE ⟨region, index, data⟩ = 0 then index :: data else [] from rfl)
  simp only at hn
  have HN := hide hn
  clear h hsl hn
  by_cases h0 : index < 0
  · have E := key 101 (if_pos (.inl h0))
    have d0 : decide (index < 0) = true := decide_eq_true h0
    clear key h0
    go_enter Try.func32, Try.ntmps32
    go_wp2_with fail
    go_ret2
    exact ⟨.slice none 0 0, by rw [E.out]; try rfl, by rw [HB.out, E.out]; exact H.out.tail.tail.pers0 (fun w' _ => Ints.none_ w' _)⟩
  have d0 : decide (index < 0) = false := decide_eq_false h0
  by_cases h4 : 4 ≤ index
  · have E := key 101 (if_pos (.inr h4))
    have d4 : decide (4 ≤ index) = true := decide_eq_true h4
    clear key h0
    go_enter Try.func32, Try.ntmps32
    go_wp2_with fail
    go_ret2
    exact ⟨.slice none 0 0, by rw [E.out]; try rfl, by rw [HB.out, E.out]; exact H.out.tail.tail.pers0 (fun w' _ => Ints.none_ w' _)⟩
  have d4 : decide (4 ≤ index) = false := decide_eq_false h4
  have hno : ¬ (index < 0 ∨ 4 ≤ index) := by omega
  by_cases hl : 23 < n
  · have E := key 2 (by unfold recE; rw [if_neg hno, if_pos (by rw [← HN.out]; exact hl)])
    have dl : decide ((23 : Int) < (n : Int)) = true := decide_eq_true (by omega)
    clear key h0 h4 hno hl
    go_enter Try.func32, Try.ntmps32
    go_wp2_with fail
    go_ret2
    exact ⟨.slice none 0 0, by rw [E.out]; try rfl, by rw [HB.out, E.out]; exact H.out.tail.tail.pers0 (fun w' _ => Ints.none_ w' _)⟩
  · have E := key 0 (by unfold recE; rw [if_neg hno, if_neg (by rw [← HN.out]; exact hl)])
    have dl : decide ((23 : Int) < (n : Int)) = false := decide_eq_false (by omega)
    have i0 : 0 ≤ index := by omega
    have i1 : index < 4 := by omega
    clear key hno
    go_enter Try.func32, Try.ntmps32
    go_wp2_with (at_builtin; refine St.app_step u8_row (H.out.litRow 5 1 1 (bv [index]) rfl (by omega) (w.heap.size + 1) (by simp)) rfl _ _ rfl rfl A n c rfl (bv data) ((H.out.litRow 5 1 1 (bv [index]) rfl (by omega) (w.heap.size + 1) (by simp)).get 2 rfl).sl.2.2.2 (bv_one _) (by omega) (by omega) ?_; intro A4 c4 w4 hx)
    go_ret2
    rw [show bv [index] ++ bv data = bv (index :: data) from rfl] at hx
    have h5 := hx.ints
    exact ⟨.slice A4 (1 + n) c4, by rw [E.out]; try rfl, by rw [HB.out, E.out]; exact h5.pick 3 [0]⟩
set_option maxHeartbeats 1000000 in
theorem rrec_st {M0 : Imm} {L : List Res} (p : PU) (A : Option Addr) (n c : Nat) (w : World) (h : St M0 w (intsR .u8 (.slice A n c) p.data :: L)) :
    Calls Try.prog 33 #[putV p (.slice A n c)] w fun e w' => ∃ v, e = .returned (.tuple #[v, .int .i64 (recE p)]) ∧ St M0 w' (intsR .u8 v (recB p) :: L) := by
  obtain ⟨region, index, data⟩ := p
  obtain ⟨hn, _, _, hsl⟩ := (h.get 0 rfl).sl
  have H := hide (h.alloc 65 #[.int .i64 region, .int .i64 index, .slice A n c])
  have key : ∀ x, recE ⟨region, index, data⟩ = x → Hid (recE ⟨region, index, data⟩ = x) := fun _ h => h
  have HB := hide (show recB ⟨region, index, data⟩ = if recE ⟨region, index, data⟩ = 0 then index :: data else [] from rfl)
  simp only at hn
  have HN := hide hn
  clear h hsl hn
  by_cases h0 : index < 0
  · have E := key 101 (if_pos (.inl h0))
    have d0 : decide (index < 0) = true := decide_eq_true h0
    clear key h0
    go_enter Try.func33, Try.ntmps33
    go_wp2_with fail
    go_ret2
    exact ⟨.slice none 0 0, by rw [E.out]; try rfl, by rw [HB.out, E.out]; exact H.out.tail.tail.pers0 (fun w' _ => Ints.none_ w' _)⟩
  have d0 : decide (index < 0) = false := decide_eq_false h0
  by_cases h4 : 4 ≤ index
  · have E := key 101 (if_pos (.inr h4))
    have d4 : decide (3 < index) = true := decide_eq_true (by omega)
    clear key h0
    go_enter Try.func33, Try.ntmps33
    go_wp2_with fail
    go_ret2
    exact ⟨.slice none 0 0, by rw [E.out]; try rfl, by rw [HB.out, E.out]; exact H.out.tail.tail.pers0 (fun w' _ => Ints.none_ w' _)⟩
  have d4 : decide (3 < index) = false := decide_eq_false (by omega)
  have hno : ¬ (index < 0 ∨ 4 ≤ index) := by omega
  by_cases hl : 23 < n
  · have E := key 2 (by unfold recE; rw [if_neg hno, if_pos (by rw [← HN.out]; exact hl)])
    have dl : decide ((23 : Int) < (n : Int)) = true := decide_eq_true (by omega)
    clear key h0 h4 hno hl
    go_enter Try.func33, Try.ntmps33
    go_wp2_with fail
    go_ret2
    exact ⟨.slice none 0 0, by rw [E.out]; try rfl, by rw [HB.out, E.out]; exact H.out.tail.tail.pers0 (fun w' _ => Ints.none_ w' _)⟩
  · have E := key 0 (by unfold recE; rw [if_neg hno, if_neg (by rw [← HN.out]; exact hl)])
    have dl : decide ((23 : Int) < (n : Int)) = false := decide_eq_false (by omega)
    have i0 : 0 ≤ index := by omega
    have i1 : index < 4 := by omega
    clear key hno
    go_enter Try.func33, Try.ntmps33
    go_wp2_with (at_builtin; refine St.app_step u8_row (H.out.litRow 5 1 1 (bv [index]) rfl (by omega) (w.heap.size + 1) (by simp)) rfl _ _ rfl rfl A n c rfl (bv data) ((H.out.litRow 5 1 1 (bv [index]) rfl (by omega) (w.heap.size + 1) (by simp)).get 2 rfl).sl.2.2.2 (bv_one _) (by omega) (by omega) ?_; intro A4 c4 w4 hx)
    go_ret2
    rw [show bv [index] ++ bv data = bv (index :: data) from rfl] at hx
    have h5 := hx.ints
    exact ⟨.slice A4 (1 + n) c4, by rw [E.out]; try rfl, by rw [HB.out, E.out]; exact h5.pick 3 [0]⟩
end Go.Proofs.Ytbnjeekhoaapiaa
