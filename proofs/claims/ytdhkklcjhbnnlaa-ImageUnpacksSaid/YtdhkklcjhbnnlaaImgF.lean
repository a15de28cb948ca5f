/- Requests encoded: the program's and the document's. -/
import Derived.Test.YtdhkklcjhbnnlaaImgE
import Derived.Test.YtdhkklcjhbnnlaaCloneSt
namespace Go.Proofs.Ytdhkklcjhbnnlaa
open Go.RowKit

theorem numI1 {n : Int} (h0 : 0 ≤ n) (h1 : n ≤ 255) : numI n 1 = [n] := by
  unfold numI
  rw [if_neg (by omega)]
  show [n / 256 ^ 0 % 256] = [n]
  rw [Int.pow_zero, Int.ediv_one, Int.emod_eq_of_lt h0 (by omega)]
theorem reqB_length (r : RQ) : (reqB r).length ≤ 1100 := by
  have := numI_length r.op 1
  have := numI_length r.region 1
  have := numI_length r.index 1
  have := numI_length r.token 8
  have := numI_length r.seq 4
  have := bytB_length r.data
  unfold reqB
  simp only [List.length_append]
  omega

set_option maxRecDepth 100000 in
set_option maxHeartbeats 2000000 in
theorem encode_st {M0 : Imm} {L : List Res} (r : RQ) (A : Option Addr) (n c : Nat) (w : World) (hr : r.ok) (h : St M0 w (intsR .u8 (.slice A n c) r.data :: L)) :
    Calls Try.prog 48 #[reqV r (.slice A n c)] w fun e w' => ∃ v, e = .returned (.tuple #[v, .int .i64 r.wrong]) ∧ St M0 w' (intsR .u8 v (encQ r) :: L) := by
  have hn : n = r.data.length := (h.get 0 rfl).sl.1
  have HW := hide (wrong_any r A n c)
  have HN := hide hn
  have HR := hide hr
  have H := hide h
  clear h hn hr
  by_cases hw : r.wrong = 0
  · obtain ⟨z0, z1, z2, z3, z4, z5, z6⟩ := RQ.wrong_zero hw
    have E : Hid (encQ r = reqB r) := hide (if_pos hw)
    have BL := hide (reqB_length r)
    unfold reqB at E BL
    rw [hw] at HW
    rw [hw]
    clear hw
    obtain ⟨op, region, index, token, seq, data⟩ := r
    simp only at z0 z1 z2 z3 z4 z5 z6
    obtain ⟨t0, t1, s0, s1⟩ := HR.out
    simp only at t0 t1 s0 s1
    go_enter Try.func48, Try.ntmps48
    go_wp2_with fail
    refine (HW.out _ HN.out).mono ?_
    rintro e w1 ⟨rfl, hf⟩
    have h1 := (H.out.alloc 69 #[.int .i64 op, .int .i64 region, .int .i64 index, .int .u64 token, .int .u32 seq, .slice A n c]).grow hf
    obtain ⟨e0, e1, e2, e3, e4, e5⟩ := (h1.blk 0 rfl).six
    have h15 := St.addWr (xs := []) ((h1.nilRow 5 1).alloc 37 #[.slice none 0 0]) rfl
    obtain ⟨e0, e1, e2, e3, e4, e5⟩ := (h15.blk 1 rfl).six
    have h2 := h15.alloc 3 #[.int .i64 op, .int .i64 region, .int .i64 index]
    have l0 := (h2.blk 0 rfl).cell 0
    have l1 := (h2.blk 0 rfl).cell 1
    have l2 := (h2.blk 0 rfl).cell 2
    simp only [World.size_alloc] at h2 l0 l1 l2
    have H2 := hide h2.swap
    clear H hf h1 h2 h15
    go_wp2_with fail
    refine wp_loop_rounds 4 ?_
    rw [rounds_succ]
    go_wp2_with fail
    refine (num_st w1.heap.size op 1 _ _ (by simp) H2.out).mono ?_
    rintro e w2 ⟨rfl, h⟩
    have l1 := (h.blk 1 rfl).cell 1
    have H3 := hide h
    clear H2 h l0 l2
    go_wp2_with fail
    rw [rounds_succ]
    go_wp2_with fail
    refine (num_st w1.heap.size region 1 _ _ (by have := BL.out; simp only [List.length_append] at this ⊢; simp; omega) H3.out).mono ?_
    rintro e w3 ⟨rfl, h⟩
    have l2 := (h.blk 1 rfl).cell 2
    have H4 := hide h
    clear H3 h l1
    go_wp2_with fail
    rw [rounds_succ]
    go_wp2_with fail
    refine (num_st w1.heap.size index 1 _ _ (by have := BL.out; simp only [List.length_append] at this ⊢; simp; omega) H4.out).mono ?_
    rintro e w4 ⟨rfl, h⟩
    obtain ⟨e0, e1, e2, e3, e4, e5⟩ := (h.blk 2 rfl).six
    have H5 := hide h
    clear H4 h l2
    go_wp2_with fail
    rw [rounds_succ]
    go_wp2_with fail
    refine (num_st w1.heap.size token 8 _ _ (by have := BL.out; simp only [List.length_append] at this ⊢; simp; omega) H5.out).mono ?_
    rintro e w5 ⟨rfl, h⟩
    obtain ⟨e0, e1, e2, e3, e4, e5⟩ := (h.blk 2 rfl).six
    have H6 := hide h
    clear H5 h
    go_wp2_with fail
    refine (num_st w1.heap.size seq 4 _ _ (by have := BL.out; simp only [List.length_append] at this ⊢; simp; omega) H6.out).mono ?_
    rintro e w6 ⟨rfl, h⟩
    obtain ⟨e0, e1, e2, e3, e4, e5⟩ := (h.blk 2 rfl).six
    have h7 := h.pick (L' := wrR w1.heap.size ([] ++ numI op 1 ++ numI region 1 ++ numI index 1 ++ numI token 8 ++ numI seq 4) :: intsR .u8 (.slice A n c) data :: L) 4 [0, 3]
    have H7 := hide h7
    clear H6 h h7
    go_wp2_with fail
    refine (byt_st w1.heap.size _ data _ _ (by have := BL.out; simp only [List.length_append] at this ⊢; simp; omega) H7.out).mono ?_
    rintro e w7 ⟨rfl, h⟩
    have H8 := hide h
    clear H7 h
    go_wp2_with fail
    refine (out_st w1.heap.size _ _ (by have := BL.out; simp only [List.length_append] at this ⊢; simp; omega) H8.out).mono ?_
    rintro e w8 ⟨v, rfl, h⟩
    have H9 := hide (h.ints.pick (L' := intsR .u8 v (([] ++ numI op 1 ++ numI region 1 ++ numI index 1 ++ numI token 8 ++ numI seq 4) ++ bytB data) :: L) 3 [0])
    clear H8 h
    go_wp2_with fail
    go_ret2
    exact ⟨v, rfl, by rw [E.out]; simpa using H9.out⟩
  · have E : Hid (encQ r = []) := hide (if_neg hw)
    have hb : (r.wrong != 0) = true := by simp [hw]
    obtain ⟨op, region, index, token, seq, data⟩ := r
    generalize RQ.wrong ⟨op, region, index, token, seq, data⟩ = x at *
    clear hw
    go_enter Try.func48, Try.ntmps48
    go_wp2_with fail
    refine (HW.out _ HN.out).mono ?_
    rintro e w1 ⟨rfl, hf⟩
    have H1 := hide ((H.out.junk _).grow hf)
    clear H hf
    go_wp2_with fail
    go_ret2
    exact ⟨_, rfl, by rw [E.out]; exact H1.out.tail.pers0 (fun w' _ => Ints.none_ w' _)⟩

set_option maxRecDepth 100000 in
set_option maxHeartbeats 2000000 in
theorem rencode_st {M0 : Imm} {L : List Res} (r : RQ) (A : Option Addr) (n c : Nat) (w : World) (hr : r.ok) (h : St M0 w (intsR .u8 (.slice A n c) r.data :: L)) :
    Calls Try.prog 49 #[reqV r (.slice A n c)] w fun e w' => ∃ v, e = .returned (.tuple #[v, .int .i64 r.wrong]) ∧ St M0 w' (intsR .u8 v (encQ r) :: L) := by
  have hn : n = r.data.length := (h.get 0 rfl).sl.1
  have HW := hide (rwrong_any r A n c)
  have HN := hide hn
  have HR := hide hr
  have H := hide h
  clear h hn hr
  by_cases hw : r.wrong = 0
  · obtain ⟨z0, z1, z2, z3, z4, z5, z6⟩ := RQ.wrong_zero hw
    have E : Hid (encQ r = reqB r) := hide (if_pos hw)
    have BL := hide (reqB_length r)
    unfold reqB at E BL
    rw [hw] at HW
    rw [hw]
    clear hw
    obtain ⟨op, region, index, token, seq, data⟩ := r
    simp only at z0 z1 z2 z3 z4 z5 z6
    obtain ⟨t0, t1, s0, s1⟩ := HR.out
    simp only at t0 t1 s0 s1 E BL
    rw [numI1 (by omega) (by omega), numI1 z2 z3, numI1 z4 z5] at E BL
    have hE := E.out
    have hBL := BL.out
    simp only [List.length_append, List.length_cons, List.length_nil] at hBL
    have y0 : op ≤ 255 := by omega
    have y1 : 0 ≤ op := by omega
    have l1 := numI_length token 8
    have l2 := numI_length seq 4
    have l3 := bytB_length data
    clear E BL hBL
    have E := hide hE
    clear hE
    go_enter Try.func49, Try.ntmps49
    go_wp2_with fail
    refine (HW.out _ HN.out).mono ?_
    rintro e w1 ⟨rfl, hf⟩
    have h1 := (H.out.alloc 86 #[.int .i64 op, .int .i64 region, .int .i64 index, .int .u64 token, .int .u32 seq, .slice A n c]).grow hf
    obtain ⟨e0, e1, e2, e3, e4, e5⟩ := (h1.blk 0 rfl).six
    have h2 : St M0 (w1.alloc (.cells #[.int .u8 op, .int .u8 region, .int .u8 index] 5)) (rowR 5 1 (.slice (some ⟨w1.heap.size, 0, none⟩) 3 3) 3 (bv [op, region, index]) :: blkR w.heap.size 86 #[.int .i64 op, .int .i64 region, .int .i64 index, .int .u64 token, .int .u32 seq, .slice A n c] :: intsR .u8 (.slice A n c) data :: L) := h1.litRow 5 1 3 (bv [op, region, index]) rfl (by omega) w1.heap.size rfl
    obtain ⟨e0, e1, e2, e3, e4, e5⟩ := (h2.blk 1 rfl).six
    have H2 := hide h2
    clear H hf h1 h2
    go_wp2_with fail
    refine (rnum_st token 8 _ t0 t1 H2.out).mono ?_
    rintro e w2 ⟨u2, rfl, h⟩
    obtain ⟨A1, c1, rfl⟩ := h.slice
    have h3 := h.ints
    have H3 := hide (h3.swap)
    obtain ⟨e0, e1, e2, e3, e4, e5⟩ := (h3.blk 2 rfl).six
    have sl := (h3.get 0 rfl).sl.2.2.2
    have SL := hide sl
    clear h h3 sl
    generalize hq : (numI token 8).length = q1 at *
    have HQ1 := hide hq
    clear hq
    go_wp2_with (at_builtin; refine St.app_step u8_row H3.out rfl _ _ rfl rfl A1 q1 c1 rfl (bv (numI token 8)) SL.out (bv_one _) (by omega) (by omega) ?_; intro B1 d1 w1b h4; obtain ⟨e0, e1, e2, e3, e4, e5⟩ := (h4.blk 2 rfl).six)
    have H4 := hide (h4.pick (L' := rowR 5 1 (.slice B1 (3 + q1) d1) (3 + q1) (bv [op, region, index] ++ bv (numI token 8)) :: blkR w.heap.size 86 #[.int .i64 op, .int .i64 region, .int .i64 index, .int .u64 token, .int .u32 seq, .slice A n c] :: intsR .u8 (.slice A n c) data :: L) 4 [0, 2, 3])
    clear H2 H3 h4 SL
    refine (rnum_st seq 4 _ s0 (by omega) H4.out).mono ?_
    rintro e w3 ⟨u3, rfl, h⟩
    obtain ⟨A2, c2, rfl⟩ := h.slice
    have h3 := h.ints
    have H3 := hide (h3.swap)
    obtain ⟨e0, e1, e2, e3, e4, e5⟩ := (h3.blk 2 rfl).six
    have sl := (h3.get 0 rfl).sl.2.2.2
    have SL := hide sl
    clear h h3 sl
    generalize hq : (numI seq 4).length = q2 at *
    have HQ2 := hide hq
    clear hq
    go_wp2_with (at_builtin; refine St.app_step u8_row H3.out rfl _ _ rfl rfl A2 q2 c2 rfl (bv (numI seq 4)) SL.out (bv_one _) (by omega) (by omega) ?_; intro B2 d2 w2b h4; obtain ⟨e0, e1, e2, e3, e4, e5⟩ := (h4.blk 2 rfl).six)
    have H5 := hide (h4.pick (L' := intsR .u8 (.slice A n c) data :: rowR 5 1 (.slice B2 (3 + q1 + q2) d2) (3 + q1 + q2) (bv [op, region, index] ++ bv (numI token 8) ++ bv (numI seq 4)) :: L) 4 [3, 0])
    clear H4 H3 h4 SL
    refine (rbyt_st _ data _ H5.out).mono ?_
    rintro e w4 ⟨u4, rfl, h⟩
    obtain ⟨A3, c3, rfl⟩ := h.slice
    have h3 := h.ints
    have H3 := hide (h3.pick (L' := rowR 5 1 (.slice B2 (3 + q1 + q2) d2) (3 + q1 + q2) (bv [op, region, index] ++ bv (numI token 8) ++ bv (numI seq 4)) :: L) 3 [2])
    have SL := hide ((h3.get 0 rfl).sl.2.2.2)
    clear h h3 H5
    generalize hq : (bytB data).length = q3 at *
    have HQ3 := hide hq
    clear hq
    go_wp2_with (at_builtin; refine St.app_step u8_row H3.out rfl _ _ rfl rfl A3 q3 c3 rfl (bv (bytB data)) SL.out (bv_one _) (by omega) (by omega) ?_; intro B3 d3 w4b h4)
    go_ret2
    refine ⟨_, rfl, ?_⟩
    rw [E.out]
    simp only [← bv_append] at h4
    exact h4.ints
  · have E : Hid (encQ r = []) := hide (if_neg hw)
    have hb : (r.wrong != 0) = true := by simp [hw]
    obtain ⟨op, region, index, token, seq, data⟩ := r
    generalize RQ.wrong ⟨op, region, index, token, seq, data⟩ = x at *
    clear hw
    go_enter Try.func49, Try.ntmps49
    go_wp2_with fail
    refine (HW.out _ HN.out).mono ?_
    rintro e w1 ⟨rfl, hf⟩
    have H1 := hide ((H.out.junk _).grow hf)
    clear H hf
    go_wp2_with fail
    go_ret2
    exact ⟨_, rfl, by rw [E.out]; exact H1.out.tail.pers0 (fun w' _ => Ints.none_ w' _)⟩

end Go.Proofs.Ytdhkklcjhbnnlaa
