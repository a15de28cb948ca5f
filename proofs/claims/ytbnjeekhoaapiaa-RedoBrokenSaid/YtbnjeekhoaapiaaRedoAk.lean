/- Redo: the statements' own examples. -/
import Derived.Test.YtbnjeekhoaapiaaRedoY
import Derived.Test.YtbnjeekhoaapiaaRedoMe
import Derived.Test.YtbnjeekhoaapiaaRedoPu
import Derived.Test.YtbnjeekhoaapiaaStLit
import Derived.Test.YtbnjeekhoaapiaaEqSt
namespace Go.Proofs.Ytbnjeekhoaapiaa
open Go.RowKit

abbrev kl : List PU := [⟨1, 0, [97]⟩, ⟨1, 2, [98]⟩]
abbrev kq : List RQ := [⟨4, 1, 0, 7, 3, [0, 97]⟩, ⟨4, 1, 0, 7, 4, [2, 98]⟩, ⟨2, 1, 0, 7, 5, [97]⟩, ⟨2, 1, 2, 7, 6, [98]⟩, ⟨5, 1, 2, 7, 7, []⟩]
abbrev kr : List RQ := [⟨2, 1, 0, 9, 1, [97]⟩, ⟨2, 1, 2, 9, 2, [98]⟩, ⟨5, 1, 2, 9, 3, []⟩]
abbrev km : List PU := [⟨0, 0, [97]⟩, ⟨0, 1, [98]⟩, ⟨0, 0, [99]⟩]
theorem ak_e : planE 1 kl = 0 := by decide
theorem ak_q : planQ 1 7 3 kl = kq := by rfl
theorem ak_re : repE [[0, 97], [2, 98]] = 0 := by decide
theorem ak_r : repQ 1 9 1 [[0, 97], [2, 98]] = kr := by rfl
theorem ak_m : mergeP km = [⟨0, 1, [98]⟩, ⟨0, 0, [99]⟩] := by rfl

theorem ak_b : ∀ b ∈ [[0, 97], [2, 98]], Bytes b ∧ b.length ≤ 140737488355328 := by
  intro b hb
  simp at hb
  rcases hb with rfl | rfl <;> exact ⟨by intro x hx; simp at hx; rcases hx with rfl | rfl <;> (unfold isByte; omega), by simp⟩
theorem St.two {M0 : Imm} {w : World} {L : List Res} {R R' : World → Prop} (h : St M0 w (persR R :: persR R' :: L)) : St M0 w (persR (fun w' => R w' ∧ R' w') :: L) := h.pers2 (fun _ a b => ⟨a, b⟩)

set_option maxRecDepth 100000 in
set_option maxHeartbeats 1000000 in
theorem rawake_st {M0 : Imm} {L : List Res} (w : World) (h : St M0 w L) : Calls Try.prog 21 #[] w fun e w' => e = .returned (.bool true) ∧ St M0 w' L := by
  have h1 := ((h.litInts 5 .u8 [97] (by decide) w.heap.size rfl).litInts 5 .u8 [98] (by decide) (w.heap.size + 1) (by simp)).two
  have h2 := (h1.pers1 (R' := fun w' => ∀ p ∈ [([.int .i64 1, .int .i64 0, .slice (some ⟨w.heap.size, 0, none⟩) 1 1], (⟨1, 0, [97]⟩ : PU)), ([.int .i64 1, .int .i64 2, .slice (some ⟨w.heap.size + 1, 0, none⟩) 1 1], (⟨1, 2, [98]⟩ : PU))], PutR w' p.1 p.2) (fun w' ha p hp => by simp at hp; rcases hp with rfl | rfl; exact ⟨_, rfl, ha.2⟩; exact ⟨_, rfl, ha.1⟩)).litFlat (size := 3) _ 69 (by simp) (by simp) (w.heap.size + 1 + 1) (by simp)
  have H := hide (show St M0 (((w.alloc (.cells #[.int .u8 97] 5)).alloc (.cells #[.int .u8 98] 5)).alloc (.cells #[.int .i64 1, .int .i64 0, .slice (some ⟨w.heap.size, 0, none⟩) 1 1, .int .i64 1, .int .i64 2, .slice (some ⟨w.heap.size + 1, 0, none⟩) 1 1] 69)) (rowsR 3 PutR (.slice (some ⟨w.heap.size + 1 + 1, 0, none⟩) 2 2) kl :: L) from h2)
  clear h h1 h2
  go_enter Try.func21, Try.ntmps21
  go_wp2_with fail
  refine (puts_st kl _ 2 2 _ (by decide) H.out).mono ?_
  rintro e w1 ⟨v1, rfl, h⟩
  have h1 := h.rowsGrow.pick (L' := rowsR 3 PutR v1 kl :: L) 2 [0]
  obtain ⟨A1, c1, rfl, _, _⟩ := (h1.getRows 0 rfl).slice
  have H1 := hide h1
  clear h h1 H
  go_wp2_with fail
  refine (plan_st 1 7 3 kl A1 2 c1 _ (by decide) (by decide) H1.out).mono ?_
  rintro e w2 ⟨v2, rfl, h⟩
  rw [ak_e]
  rw [ak_q] at h
  have h1 := h.rowsGrow
  obtain ⟨A2, c2, rfl, _, _⟩ := (h1.getRows 0 rfl).slice
  have h2 := ((h1.litInts 5 .u8 [0, 97] (by decide) w2.heap.size rfl).litInts 5 .u8 [2, 98] (by decide) (w2.heap.size + 1) (by simp)).two
  have h3 := (h2.pers1 (R' := fun w' => ∀ p ∈ [([.slice (some ⟨w2.heap.size, 0, none⟩) 2 2], [0, 97]), ([.slice (some ⟨w2.heap.size + 1, 0, none⟩) 2 2], [2, 98])], BytR w' p.1 p.2) (fun w' ha p hp => by simp at hp; rcases hp with rfl | rfl; exact ⟨_, rfl, ha.2⟩; exact ⟨_, rfl, ha.1⟩)).litFlat (size := 1) _ 60 (by simp) (by simp) (w2.heap.size + 1 + 1) (by simp)
  have H2 := hide (show St M0 (((w2.alloc (.cells #[.int .u8 0, .int .u8 97] 5)).alloc (.cells #[.int .u8 2, .int .u8 98] 5)).alloc (.cells #[.slice (some ⟨w2.heap.size, 0, none⟩) 2 2, .slice (some ⟨w2.heap.size + 1, 0, none⟩) 2 2] 60)) (rowsR 1 BytR (.slice (some ⟨w2.heap.size + 1 + 1, 0, none⟩) 2 2) [[0, 97], [2, 98]] :: rowsR 6 ReqP (.slice A2 5 c2) kq :: L) from h3)
  clear H1 h h1 h2 h3
  go_wp2_with fail
  refine (rep_st 1 9 1 [[0, 97], [2, 98]] _ 2 2 _ (by decide) (by decide) ak_b H2.out).mono ?_
  rintro e w3 ⟨v3, rfl, h⟩
  rw [ak_re]
  rw [ak_r] at h
  have h1 := h.rowsGrow
  obtain ⟨A3, c3, rfl, _, _⟩ := (h1.getRows 0 rfl).slice
  have h2 := (((h1.litInts 5 .u8 [97] (by decide) w3.heap.size rfl).litInts 5 .u8 [98] (by decide) (w3.heap.size + 1) (by simp)).litInts 5 .u8 [99] (by decide) (w3.heap.size + 1 + 1) (by simp)).two.two
  have h3 := (h2.pers1 (R' := fun w' => ∀ p ∈ [([.int .i64 0, .int .i64 0, .slice (some ⟨w3.heap.size, 0, none⟩) 1 1], (⟨0, 0, [97]⟩ : PU)), ([.int .i64 0, .int .i64 1, .slice (some ⟨w3.heap.size + 1, 0, none⟩) 1 1], (⟨0, 1, [98]⟩ : PU)), ([.int .i64 0, .int .i64 0, .slice (some ⟨w3.heap.size + 1 + 1, 0, none⟩) 1 1], (⟨0, 0, [99]⟩ : PU))], PutR w' p.1 p.2) (fun w' ha p hp => by simp at hp; rcases hp with rfl | rfl | rfl; exact ⟨_, rfl, ha.2⟩; exact ⟨_, rfl, ha.1.2⟩; exact ⟨_, rfl, ha.1.1⟩)).litFlat (size := 3) _ 69 (by simp) (by simp) (w3.heap.size + 1 + 1 + 1) (by simp)
  have H3 := hide (show St M0 ((((w3.alloc (.cells #[.int .u8 97] 5)).alloc (.cells #[.int .u8 98] 5)).alloc (.cells #[.int .u8 99] 5)).alloc (.cells #[.int .i64 0, .int .i64 0, .slice (some ⟨w3.heap.size, 0, none⟩) 1 1, .int .i64 0, .int .i64 1, .slice (some ⟨w3.heap.size + 1, 0, none⟩) 1 1, .int .i64 0, .int .i64 0, .slice (some ⟨w3.heap.size + 1 + 1, 0, none⟩) 1 1] 69)) (rowsR 3 PutR (.slice (some ⟨w3.heap.size + 1 + 1 + 1, 0, none⟩) 3 3) km :: rowsR 6 ReqP (.slice A3 3 c3) kr :: rowsR 6 ReqP (.slice A2 5 c2) kq :: L) from h3)
  clear H2 h h1 h2 h3
  go_wp2_with fail
  refine (puts_st km _ 3 3 _ (by decide) H3.out).mono ?_
  rintro e w4 ⟨v4, rfl, h⟩
  have h1 := h.rowsGrow.pick (L' := rowsR 3 PutR v4 km :: rowsR 6 ReqP (.slice A3 3 c3) kr :: rowsR 6 ReqP (.slice A2 5 c2) kq :: L) 2 [0]
  obtain ⟨A4, c4, rfl, _, _⟩ := (h1.getRows 0 rfl).slice
  have H4 := hide h1
  clear h h1 H3
  go_wp2_with fail
  refine (merge_st km A4 3 c4 _ (by decide) H4.out).mono ?_
  rintro e w5 ⟨v5, rfl, h⟩
  rw [ak_m] at h
  have h1 := h.rowsGrow
  obtain ⟨A5, c5, rfl, _, _⟩ := (h1.getRows 0 rfl).slice
  obtain ⟨q0, cs0, rfl, _, hq0, ⟨u0, rfl, _⟩, -⟩ := h1.elem 2 rfl (k := 0) (x := ⟨4, 1, 0, 7, 3, [0, 97]⟩) rfl
  obtain ⟨q0', cs1, e, _, hq1, ⟨u1, rfl, hu1⟩, h2⟩ := h1.elem 2 rfl (k := 1) (x := ⟨4, 1, 0, 7, 4, [2, 98]⟩) rfl
  injection e with e
  subst e
  obtain ⟨q0', cs2, e, _, hq2, ⟨u2, rfl, _⟩, -⟩ := h1.elem 2 rfl (k := 2) (x := ⟨2, 1, 0, 7, 5, [97]⟩) rfl
  injection e with e
  subst e
  obtain ⟨q0', cs4, e, _, hq4, ⟨u4, rfl, _⟩, -⟩ := h1.elem 2 rfl (k := 4) (x := ⟨5, 1, 2, 7, 7, []⟩) rfl
  injection e with e
  subst e
  have x00 : w5.cell? q0 = some (.int .i64 4) := by simpa [Addr.add] using hq0 0 _ rfl
  have x04 : w5.cell? ⟨q0.block, q0.off + 4, none⟩ = some (.int .u32 3) := by simpa [Addr.add] using hq0 4 _ rfl
  have x15 : w5.cell? ⟨q0.block, q0.off + 6 + 5, none⟩ = some u1 := by simpa [Addr.add] using hq1 5 _ rfl
  have x20 : w5.cell? ⟨q0.block, q0.off + 12, none⟩ = some (.int .i64 2) := by simpa [Addr.add] using hq2 0 _ rfl
  have x40 : w5.cell? ⟨q0.block, q0.off + 24, none⟩ = some (.int .i64 5) := by simpa [Addr.add] using hq4 0 _ rfl
  have x42 : w5.cell? ⟨q0.block, q0.off + 24 + 2, none⟩ = some (.int .i64 2) := by simpa [Addr.add] using hq4 2 _ rfl
  have x44 : w5.cell? ⟨q0.block, q0.off + 24 + 4, none⟩ = some (.int .u32 7) := by simpa [Addr.add] using hq4 4 _ rfl
  obtain ⟨Bd, cd, rfl, _, _, _⟩ := id hu1
  have H5 := hide (h2.litInts 5 .u8 [2, 98] (by decide) w5.heap.size rfl)
  clear h h1 h2 H4 hq0 hq1 hq2 hq4
  go_wp2_with fail
  refine (same_true _ _ [2, 98] _ (hu1.non ((Fr.refl _ _).alloc _)) (H5.out.get 0 rfl) H5.out.tail.tail).mono ?_
  rintro e w6 ⟨rfl, h⟩
  obtain ⟨r0, cs0, rfl, _, hr0, ⟨v0, rfl, _⟩, -⟩ := h.elem 1 rfl (k := 0) (x := ⟨2, 1, 0, 9, 1, [97]⟩) rfl
  obtain ⟨r0', cs1, e, _, hr1, ⟨v1, rfl, _⟩, -⟩ := h.elem 1 rfl (k := 1) (x := ⟨2, 1, 2, 9, 2, [98]⟩) rfl
  injection e with e
  subst e
  obtain ⟨r0', cs2, e, _, hr2, ⟨v2, rfl, _⟩, -⟩ := h.elem 1 rfl (k := 2) (x := ⟨5, 1, 2, 9, 3, []⟩) rfl
  injection e with e
  subst e
  obtain ⟨m0, cs3, rfl, _, hm0, ⟨y0, rfl, _⟩, -⟩ := h.elem 0 rfl (k := 0) (x := ⟨0, 1, [98]⟩) rfl
  obtain ⟨m0', cs4, e, _, hm1, ⟨y1, rfl, hy1⟩, h2⟩ := h.elem 0 rfl (k := 1) (x := ⟨0, 0, [99]⟩) rfl
  injection e with e
  subst e
  obtain ⟨Be, ce, rfl, _, _, _⟩ := id hy1
  have z00 : w6.cell? r0 = some (.int .i64 2) := by simpa [Addr.add] using hr0 0 _ rfl
  have z20 : w6.cell? ⟨r0.block, r0.off + 12, none⟩ = some (.int .i64 5) := by simpa [Addr.add] using hr2 0 _ rfl
  have z24 : w6.cell? ⟨r0.block, r0.off + 12 + 4, none⟩ = some (.int .u32 3) := by simpa [Addr.add] using hr2 4 _ rfl
  have z12 : w6.cell? ⟨r0.block, r0.off + 6 + 2, none⟩ = some (.int .i64 2) := by simpa [Addr.add] using hr1 2 _ rfl
  have y01 : w6.cell? ⟨m0.block, m0.off + 1, none⟩ = some (.int .i64 1) := by simpa [Addr.add] using hm0 1 _ rfl
  have y12 : w6.cell? ⟨m0.block, m0.off + 3 + 2, none⟩ = some (.slice Be 1 ce) := by simpa [Addr.add] using hm1 2 _ rfl
  have H6 := hide (h2.litInts 5 .u8 [99] (by decide) w6.heap.size rfl)
  clear h h2 H5 hr0 hr1 hr2 hm0 hm1 x00 x04 x15 x20 x40 x42 x44
  go_wp2_with fail
  refine (same_true _ _ [99] _ (hy1.non ((Fr.refl _ _).alloc _)) (H6.out.get 0 rfl) H6.out.tail.tail).mono ?_
  rintro e w7 ⟨rfl, h⟩
  have H7 := hide h.tail.tail.tail
  clear h H6 z00 z20 z24 z12 y01 y12
  go_wp2_with fail
  go_ret
  exact ⟨rfl, H7.out⟩
end Go.Proofs.Ytbnjeekhoaapiaa
