/- Requests encoded and decoded: the program's and the document's. Printed by gen_imge.py. -/
import Derived.Test.YtpaelngpmbeedaaGreatDoorImgK
import Derived.Test.YtpaelngpmbeedaaGreatDoorPackZ
import Derived.Test.YtpaelngpmbeedaaGreatDoorStZ
import Derived.Test.YtpaelngpmbeedaaGreatDoorImgRZ
namespace Go.Proofs.YtpaelngpmbeedaaGreatDoor
open Go.RowKit

def reqB (r : RQ) : List Int := numI r.op 1 ++ numI r.region 1 ++ numI r.index 1 ++ numI r.token 8 ++ numI r.seq 4 ++ bytB r.data
def encQ (r : RQ) : List Int := if r.wrong = 0 then reqB r else []
def Rd.reqs (r : Rd) : RQ × Rd :=
  (⟨(r.num 1).1, ((r.num 1).2.num 1).1, (((r.num 1).2.num 1).2.num 1).1, ((((r.num 1).2.num 1).2.num 1).2.num 8).1, (((((r.num 1).2.num 1).2.num 1).2.num 8).2.num 4).1, (((((r.num 1).2.num 1).2.num 1).2.num 8).2.num 4).2.byt.1⟩,
    (((((r.num 1).2.num 1).2.num 1).2.num 8).2.num 4).2.byt.2)
def decQe (bs : List Int) : Int := if (Rd.reqs ⟨bs, false⟩).2.endE = 0 then (Rd.reqs ⟨bs, false⟩).1.wrong else (Rd.reqs ⟨bs, false⟩).2.endE
def decQ (bs : List Int) : RQ := if decQe bs = 0 then (Rd.reqs ⟨bs, false⟩).1 else ⟨0, 0, 0, 0, 0, []⟩
theorem reqs_ok {r : Rd} (h : r.Ok) : (Rd.reqs r).1.ok :=
  ⟨(Rd.num8_lt (((h.num 1).num 1).num 1)).1, (Rd.num8_lt (((h.num 1).num 1).num 1)).2, (Rd.num4_lt ((((h.num 1).num 1).num 1).num 8)).1, (Rd.num4_lt ((((h.num 1).num 1).num 1).num 8)).2⟩
theorem decQ_ok {bs : List Int} (h : Rd.Ok ⟨bs, false⟩) : (decQ bs).ok := by
  unfold decQ
  split
  · exact reqs_ok h
  · exact ⟨by decide, by decide, by decide, by decide⟩
theorem results_cell2 {fn : Func} {t k : Nat} {ty : TypeId} {P : Program} {w : World} {v : Value} {a : Addr} (h : fn.results = #[.cell t ty, .tmp k]) (tmps : Array Value) (ha : tmps.getD t undef = .pointer (some a)) (hl : (loadVar ty a).run P w = .ok v w) :
    (results fn tmps).run P w = .ok (.tuple #[v, tmps.getD k undef]) w := by
  have ha' : tmps[t]?.getD undef = .pointer (some a) := by simpa using ha
  simp [results, h, ha', asAddr, hl]

set_option maxRecDepth 100000 in
set_option maxHeartbeats 2000000 in
theorem decode_st {M0 : Imm} {L : List Res} (v : Value) (bs : List Int) (w : World) (hb : Bytes bs) (hl : bs.length ≤ 1000000) (h : St M0 w (intsR .u8 v bs :: L)) :
    Calls Tryz.prog 75 #[v] w fun e w' => ∃ A n c, e = .returned (.tuple #[reqV (decQ bs) (.slice A n c), .int .i64 (decQe bs)]) ∧ St M0 w' (intsR .u8 (.slice A n c) (decQ bs).data :: L) := by
  obtain ⟨A0, c0, rfl, _, _, _⟩ := h.get 0 rfl
  have ok0 : Rd.Ok (Rd.mk bs false) := ⟨hb, by show bs.length ≤ 140737488355328; omega, fun h => by cases h⟩
  have E1 := hide (show decQe bs = if (Rd.reqs ⟨bs, false⟩).2.endE = 0 then (Rd.reqs ⟨bs, false⟩).1.wrong else (Rd.reqs ⟨bs, false⟩).2.endE from rfl)
  have E2 := hide (show decQ bs = if decQe bs = 0 then (Rd.reqs ⟨bs, false⟩).1 else ⟨0, 0, 0, 0, 0, []⟩ from rfl)
  have H := hide ((h.alloc 42 #[.int .i64 0, .int .i64 0, .int .i64 0, .int .u64 0, .int .u32 0, .slice none 0 0]).swap)
  have OK0 := hide ok0
  clear h ok0 hb hl
  go_enter Tryz.func75, Tryz.ntmps75
  go_wp2_with fail
  refine (read_st _ bs _ H.out).mono ?_
  rintro e w1 ⟨g, rfl, h⟩
  have H1 := hide (h.del1)
  clear H h
  go_wp2_with fail
  have HB0 := hide (Rd.num1_lt OK0.out)
  have OK1 := hide (OK0.out.num 1)
  refine (rdnum_st g _ 1 _ OK0.out.hb OK0.out.hl OK0.out.hz H1.out).mono ?_
  rintro e u1 ⟨rfl, h⟩
  have H2 := hide h
  clear H1 h
  unfold Rd.reqs at E1 E2
  generalize ((Rd.mk bs false).num 1).2 = r1 at *
  generalize ((Rd.mk bs false).num 1).1 = a0 at *
  obtain ⟨b0, d0⟩ := HB0.out
  go_wp2_with fail
  have HB1 := hide (Rd.num1_lt OK1.out)
  have OK2 := hide (OK1.out.num 1)
  refine (rdnum_st g _ 1 _ OK1.out.hb OK1.out.hl OK1.out.hz H2.out).mono ?_
  rintro e u2 ⟨rfl, h⟩
  have H3 := hide h
  clear H2 h
  generalize (r1.num 1).2 = r2 at *
  generalize (r1.num 1).1 = a1 at *
  obtain ⟨b1, d1⟩ := HB1.out
  go_wp2_with fail
  have HB2 := hide (Rd.num1_lt OK2.out)
  have OK3 := hide (OK2.out.num 1)
  refine (rdnum_st g _ 1 _ OK2.out.hb OK2.out.hl OK2.out.hz H3.out).mono ?_
  rintro e u3 ⟨rfl, h⟩
  have H4 := hide h
  clear H3 h
  generalize (r2.num 1).2 = r3 at *
  generalize (r2.num 1).1 = a2 at *
  obtain ⟨b2, d2⟩ := HB2.out
  go_wp2_with fail
  have HB3 := hide (Rd.num8_lt OK3.out)
  have OK4 := hide (OK3.out.num 8)
  refine (rdnum_st g _ 8 _ OK3.out.hb OK3.out.hl OK3.out.hz H4.out).mono ?_
  rintro e u4 ⟨rfl, h⟩
  have H5 := hide h
  clear H4 h
  generalize (r3.num 8).2 = r4 at *
  generalize (r3.num 8).1 = a3 at *
  obtain ⟨b3, d3⟩ := HB3.out
  go_wp2_with fail
  have HB4 := hide (Rd.num4_lt OK4.out)
  have OK5 := hide (OK4.out.num 4)
  refine (rdnum_st g _ 4 _ OK4.out.hb OK4.out.hl OK4.out.hz H5.out).mono ?_
  rintro e u5 ⟨rfl, h⟩
  have H6 := hide h
  clear H5 h
  generalize (r4.num 4).2 = r5 at *
  generalize (r4.num 4).1 = a4 at *
  obtain ⟨b4, d4⟩ := HB4.out
  go_wp2_with fail
  have OK6 := hide OK5.out.byt
  refine (rdbyt_st g r5 _ OK5.out.hb OK5.out.hl OK5.out.hz H6.out).mono ?_
  rintro e u6 ⟨v6, rfl, h⟩
  generalize r5.byt.2 = r6 at *
  generalize r5.byt.1 = data at *
  obtain ⟨B, d, rfl, _, _, _⟩ := h.get 0 rfl
  generalize hnd : data.length = nd at *
  have HND := hide hnd
  have H7 := hide (h.alloc 42 #[.int .i64 a0, .int .i64 a1, .int .i64 a2, .int .u64 a3, .int .u32 a4, .slice B nd d])
  clear H6 h hnd
  go_wp2_with fail
  refine (rdend_st g r6 _ H7.out.up2).mono ?_
  rintro e u7 ⟨rfl, h⟩
  generalize r6.endE = ee at *
  obtain ⟨e0, e1, e2, e3, e4, e5⟩ := (h.blk 1 rfl).six
  obtain ⟨z0, z1, z2, z3, z4, z5⟩ := (h.blk 3 rfl).six
  have fz := (h.blk 3 rfl).frozen
  have H8 := hide h
  clear H7 h
  by_cases he : ee = 0
  · subst he
    rw [if_pos rfl] at E1
    go_wp2_with fail
    refine (wrong_any ⟨a0, a1, a2, a3, a4, data⟩ B nd d _ HND.out.symm).mono ?_
    rintro e u8 ⟨rfl, hf⟩
    have h := H8.out.grow hf
    obtain ⟨e0, e1, e2, e3, e4, e5⟩ := (h.blk 1 rfl).six
    obtain ⟨z0, z1, z2, z3, z4, z5⟩ := (h.blk 3 rfl).six
    have fz := (h.blk 3 rfl).frozen
    have H9 := hide h
    clear H8 h hf
    generalize RQ.wrong ⟨a0, a1, a2, a3, a4, data⟩ = ww at *
    by_cases hw : ww = 0
    · subst hw
      go_wp2_with fail
      have h6 := (((((H9.out.pick (L' := blkR w.heap.size 42 #[.int .i64 0, .int .i64 0, .int .i64 0, .int .u64 0, .int .u32 0, .slice none 0 0] :: intsR .u8 (.slice B nd d) data :: L) 4 [3, 2]).set_ 0 (.int .i64 a0)).set_ 1 (.int .i64 a1)).set_ 2 (.int .i64 a2)).set_ 3 (.int .u64 a3)).set_ 4 (.int .u32 a4) |>.set_ 5 (.slice B nd d)
      have hb6 : Blk _ w.heap.size 42 #[.int .i64 a0, .int .i64 a1, .int .i64 a2, .int .u64 a3, .int .u32 a4, .slice B nd d] := h6.blk 0 rfl
      obtain ⟨y0, y1, y2, y3, y4, y5⟩ := hb6.six
      refine bodyPost_ret (v := .tuple #[.agg #[.int .i64 a0, .int .i64 a1, .int .i64 a2, .int .u64 a3, .int .u32 a4, .slice B nd d], .int .i64 0]) (results_cell2 (fn := Tryz.f75) (t := 2) (k := 3) (ty := 42) rfl _ rfl ?_) rfl ⟨B, nd, d, ?_, ?_⟩
      · go_simp
      · rw [E2.out, E1.out]; rfl
      · rw [E2.out, if_pos E1.out]
        exact h6.tail
    · have hwb : (ww != 0) = true := by simp [hw]
      have HWN := hide hw
      clear hw
      go_wp2_with fail
      have h6 := (((((H9.out.pick (L' := blkR w.heap.size 42 #[.int .i64 0, .int .i64 0, .int .i64 0, .int .u64 0, .int .u32 0, .slice none 0 0] :: intsR .u8 (.slice B nd d) data :: L) 4 [3, 2]).set_ 0 (.int .i64 0)).set_ 1 (.int .i64 0)).set_ 2 (.int .i64 0)).set_ 3 (.int .u64 0)).set_ 4 (.int .u32 0) |>.set_ 5 (.slice none 0 0)
      have hb6 : Blk _ w.heap.size 42 #[.int .i64 0, .int .i64 0, .int .i64 0, .int .u64 0, .int .u32 0, .slice none 0 0] := h6.blk 0 rfl
      obtain ⟨y0, y1, y2, y3, y4, y5⟩ := hb6.six
      refine bodyPost_ret (v := .tuple #[.agg #[.int .i64 0, .int .i64 0, .int .i64 0, .int .u64 0, .int .u32 0, .slice none 0 0], .int .i64 ww]) (results_cell2 (fn := Tryz.f75) (t := 2) (k := 3) (ty := 42) rfl _ rfl ?_) rfl ⟨none, 0, 0, ?_, ?_⟩
      · go_simp
      · rw [E2.out, if_neg (by rw [E1.out]; exact HWN.out), E1.out]
      · rw [E2.out, if_neg (by rw [E1.out]; exact HWN.out)]
        exact h6.tail.tail.pers0 (fun w' _ => Ints.none_ w' _)
  · rw [if_neg he] at E1
    have heb : (ee != 0) = true := by simp [he]
    have heq : (ee == 0) = false := isF he
    have HWN := hide he
    clear he
    go_wp2_with fail
    have h6 := (((((H8.out.pick (L' := blkR w.heap.size 42 #[.int .i64 0, .int .i64 0, .int .i64 0, .int .u64 0, .int .u32 0, .slice none 0 0] :: intsR .u8 (.slice B nd d) data :: L) 4 [3, 2]).set_ 0 (.int .i64 0)).set_ 1 (.int .i64 0)).set_ 2 (.int .i64 0)).set_ 3 (.int .u64 0)).set_ 4 (.int .u32 0) |>.set_ 5 (.slice none 0 0)
    have hb6 : Blk _ w.heap.size 42 #[.int .i64 0, .int .i64 0, .int .i64 0, .int .u64 0, .int .u32 0, .slice none 0 0] := h6.blk 0 rfl
    obtain ⟨y0, y1, y2, y3, y4, y5⟩ := hb6.six
    refine bodyPost_ret (v := .tuple #[.agg #[.int .i64 0, .int .i64 0, .int .i64 0, .int .u64 0, .int .u32 0, .slice none 0 0], .int .i64 ee]) (results_cell2 (fn := Tryz.f75) (t := 2) (k := 3) (ty := 42) rfl _ rfl ?_) rfl ⟨none, 0, 0, ?_, ?_⟩
    · go_simp
    · rw [E2.out, if_neg (by rw [E1.out]; exact HWN.out), E1.out]
    · rw [E2.out, if_neg (by rw [E1.out]; exact HWN.out)]
      exact h6.tail.tail.pers0 (fun w' _ => Ints.none_ w' _)

end Go.Proofs.YtpaelngpmbeedaaGreatDoor
/- Requests encoded: the program's and the document's. -/
namespace Go.Proofs.YtpaelngpmbeedaaGreatDoor
open Go.RowKit

theorem numI1 {n : Int} (h0 : 0 ≤ n) (h1 : n ≤ 255) : numI n 1 = [n] := by
  unfold numI
  rw [if_neg (by omega)]
  show [n / 256 ^ 0 % 256] = [n]
  rw [Int.pow_zero, Int.ediv_one, Int.emod_eq_of_lt h0 (by omega)]
theorem reqB_length (r : RQ) : (reqB r).length ≤ 1100 := by
  have := numI_length r.op 1
  have := numI_length r.region 1
  have := numI_length r.index 1
  have := numI_length r.token 8
  have := numI_length r.seq 4
  have := bytB_length r.data
  unfold reqB
  simp only [List.length_append]
  omega

set_option maxRecDepth 100000 in
set_option maxHeartbeats 2000000 in
theorem encode_st {M0 : Imm} {L : List Res} (r : RQ) (A : Option Addr) (n c : Nat) (w : World) (hr : r.ok) (h : St M0 w (intsR .u8 (.slice A n c) r.data :: L)) :
    Calls Tryz.prog 60 #[reqV r (.slice A n c)] w fun e w' => ∃ v, e = .returned (.tuple #[v, .int .i64 r.wrong]) ∧ St M0 w' (intsR .u8 v (encQ r) :: L) := by
  have hn : n = r.data.length := (h.get 0 rfl).sl.1
  have HW := hide (wrong_any r A n c)
  have HN := hide hn
  have HR := hide hr
  have H := hide h
  clear h hn hr
  by_cases hw : r.wrong = 0
  · obtain ⟨z0, z1, z2, z3, z4, z5, z6⟩ := RQ.wrong_zero hw
    have E : Hid (encQ r = reqB r) := hide (if_pos hw)
    have BL := hide (reqB_length r)
    unfold reqB at E BL
    rw [hw] at HW
    rw [hw]
    clear hw
    obtain ⟨op, region, index, token, seq, data⟩ := r
    simp only at z0 z1 z2 z3 z4 z5 z6
    obtain ⟨t0, t1, s0, s1⟩ := HR.out
    simp only at t0 t1 s0 s1
    go_enter Tryz.func60, Tryz.ntmps60
    go_wp2_with fail
    refine (HW.out _ HN.out).mono ?_
    rintro e w1 ⟨rfl, hf⟩
    have h1 := (H.out.alloc 42 #[.int .i64 op, .int .i64 region, .int .i64 index, .int .u64 token, .int .u32 seq, .slice A n c]).grow hf
    obtain ⟨e0, e1, e2, e3, e4, e5⟩ := (h1.blk 0 rfl).six
    have h15 := St.addWr (xs := []) ((h1.nilRow 5 1).alloc 97 #[.slice none 0 0]) rfl
    obtain ⟨e0, e1, e2, e3, e4, e5⟩ := (h15.blk 1 rfl).six
    have h2 := h15.alloc 3 #[.int .i64 op, .int .i64 region, .int .i64 index]
    have l0 := (h2.blk 0 rfl).cell 0
    have l1 := (h2.blk 0 rfl).cell 1
    have l2 := (h2.blk 0 rfl).cell 2
    simp only [World.size_alloc] at h2 l0 l1 l2
    have H2 := hide h2.swap
    clear H hf h1 h2 h15
    go_wp2_with fail
    refine wp_loop_rounds 4 ?_
    rw [rounds_succ]
    go_wp2_with fail
    refine (num_st w1.heap.size op 1 _ _ (by simp) H2.out).mono ?_
    rintro e w2 ⟨rfl, h⟩
    have l1 := (h.blk 1 rfl).cell 1
    have H3 := hide h
    clear H2 h l0 l2
    go_wp2_with fail
    rw [rounds_succ]
    go_wp2_with fail
    refine (num_st w1.heap.size region 1 _ _ (by have := BL.out; simp only [List.length_append] at this ⊢; simp; omega) H3.out).mono ?_
    rintro e w3 ⟨rfl, h⟩
    have l2 := (h.blk 1 rfl).cell 2
    have H4 := hide h
    clear H3 h l1
    go_wp2_with fail
    rw [rounds_succ]
    go_wp2_with fail
    refine (num_st w1.heap.size index 1 _ _ (by have := BL.out; simp only [List.length_append] at this ⊢; simp; omega) H4.out).mono ?_
    rintro e w4 ⟨rfl, h⟩
    obtain ⟨e0, e1, e2, e3, e4, e5⟩ := (h.blk 2 rfl).six
    have H5 := hide h
    clear H4 h l2
    go_wp2_with fail
    rw [rounds_succ]
    go_wp2_with fail
    refine (num_st w1.heap.size token 8 _ _ (by have := BL.out; simp only [List.length_append] at this ⊢; simp; omega) H5.out).mono ?_
    rintro e w5 ⟨rfl, h⟩
    obtain ⟨e0, e1, e2, e3, e4, e5⟩ := (h.blk 2 rfl).six
    have H6 := hide h
    clear H5 h
    go_wp2_with fail
    refine (num_st w1.heap.size seq 4 _ _ (by have := BL.out; simp only [List.length_append] at this ⊢; simp; omega) H6.out).mono ?_
    rintro e w6 ⟨rfl, h⟩
    obtain ⟨e0, e1, e2, e3, e4, e5⟩ := (h.blk 2 rfl).six
    have h7 := h.pick (L' := wrR w1.heap.size ([] ++ numI op 1 ++ numI region 1 ++ numI index 1 ++ numI token 8 ++ numI seq 4) :: intsR .u8 (.slice A n c) data :: L) 4 [0, 3]
    have H7 := hide h7
    clear H6 h h7
    go_wp2_with fail
    refine (byt_st w1.heap.size _ data _ _ (by have := BL.out; simp only [List.length_append] at this ⊢; simp; omega) H7.out).mono ?_
    rintro e w7 ⟨rfl, h⟩
    have H8 := hide h
    clear H7 h
    go_wp2_with fail
    refine (out_st w1.heap.size _ _ (by have := BL.out; simp only [List.length_append] at this ⊢; simp; omega) H8.out).mono ?_
    rintro e w8 ⟨v, rfl, h⟩
    have H9 := hide (h.ints.pick (L' := intsR .u8 v (([] ++ numI op 1 ++ numI region 1 ++ numI index 1 ++ numI token 8 ++ numI seq 4) ++ bytB data) :: L) 3 [0])
    clear H8 h
    go_wp2_with fail
    go_ret2
    exact ⟨v, rfl, by rw [E.out]; simpa using H9.out⟩
  · have E : Hid (encQ r = []) := hide (if_neg hw)
    have hb : (r.wrong != 0) = true := by simp [hw]
    obtain ⟨op, region, index, token, seq, data⟩ := r
    generalize RQ.wrong ⟨op, region, index, token, seq, data⟩ = x at *
    clear hw
    go_enter Tryz.func60, Tryz.ntmps60
    go_wp2_with fail
    refine (HW.out _ HN.out).mono ?_
    rintro e w1 ⟨rfl, hf⟩
    have H1 := hide ((H.out.junk _).grow hf)
    clear H hf
    go_wp2_with fail
    go_ret2
    exact ⟨_, rfl, by rw [E.out]; exact H1.out.tail.pers0 (fun w' _ => Ints.none_ w' _)⟩

end Go.Proofs.YtpaelngpmbeedaaGreatDoor
/- Encode and Decode (plain); one. -/
namespace Go.Proofs.YtpaelngpmbeedaaGreatDoor
open Go.RowKit

theorem num_back (n : Int) (k : Nat) (h1 : 1 ≤ k) (h8 : k ≤ 8) (h0 : 0 ≤ n) (hn : n < 256 ^ k) (rest : List Int) : Rd.num ⟨numI n k ++ rest, false⟩ (k : Int) = (n, ⟨rest, false⟩) := by
  obtain ⟨m, rfl⟩ := Int.eq_ofNat_of_zero_le h0
  have e : numI (m : Int) (k : Int) = numB m k := by
    unfold numI
    rw [if_neg (by omega), Int.toNat_natCast]
  have hm : m < 256 ^ k := by
    have : ((256 ^ k : Nat) : Int) = (256 : Int) ^ k := by simp
    omega
  rw [e, Rd.num_append m k h1 h8, Nat.mod_eq_of_lt hm]
theorem byt_back (b : List Int) (h : b.length ≤ 1000) (rest : List Int) : Rd.byt ⟨bytB b ++ rest, false⟩ = (b, ⟨rest, false⟩) := by
  have h1 := Rd.fld_back ⟨9, 0, b⟩ (Int.le_refl 0) rfl (by unfold tooLong; simp; omega) rest
  have e : fldB ⟨9, 0, b⟩ = bytB b := if_pos rfl
  rw [e] at h1
  unfold Rd.fld at h1
  rw [if_pos rfl] at h1
  have h2 := congrArg (fun p => p.1.b) h1
  have h3 := congrArg Prod.snd h1
  simp only at h2 h3
  exact Prod.ext (h2.trans (by simp [Fld.norm])) h3
theorem dec_enc_req {r : RQ} (hr : r.ok) (hw : r.wrong = 0) : decQe (reqB r) = 0 ∧ decQ (reqB r) = r := by
  obtain ⟨z0, z1, z2, z3, z4, z5, z6⟩ := RQ.wrong_zero hw
  obtain ⟨t0, t1, s0, s1⟩ := hr
  have e : Rd.reqs ⟨reqB r, false⟩ = (r, ⟨[], false⟩) := by
    unfold reqB Rd.reqs
    have e1 : ∀ rest, Rd.num ⟨numI r.op 1 ++ rest, false⟩ 1 = (r.op, ⟨rest, false⟩) := num_back r.op 1 (by omega) (by omega) (by omega) (by omega)
    have e2 : ∀ rest, Rd.num ⟨numI r.region 1 ++ rest, false⟩ 1 = (r.region, ⟨rest, false⟩) := num_back r.region 1 (by omega) (by omega) (by omega) (by omega)
    have e3 : ∀ rest, Rd.num ⟨numI r.index 1 ++ rest, false⟩ 1 = (r.index, ⟨rest, false⟩) := num_back r.index 1 (by omega) (by omega) (by omega) (by omega)
    have e4 : ∀ rest, Rd.num ⟨numI r.token 8 ++ rest, false⟩ 8 = (r.token, ⟨rest, false⟩) := num_back r.token 8 (by omega) (by omega) (by omega) (by simpa using t1)
    have e5 : ∀ rest, Rd.num ⟨numI r.seq 4 ++ rest, false⟩ 4 = (r.seq, ⟨rest, false⟩) := num_back r.seq 4 (by omega) (by omega) (by omega) (by simpa using s1)
    have e6 := byt_back r.data (by omega) []
    rw [List.append_nil] at e6
    simp only [List.append_assoc, e1, e2, e3, e4, e5, e6]
  have e0 : decQe (reqB r) = 0 := by
    unfold decQe
    rw [e]
    show (if Rd.endE ⟨[], false⟩ = 0 then r.wrong else _) = 0
    rw [if_pos (by decide), hw]
  refine ⟨e0, ?_⟩
  unfold decQ
  rw [if_pos e0, e]
theorem bytB_bytes {b : List Int} (h : Bytes b) : Bytes (bytB b) := (numB_bytes _ _).append (h.take _)
theorem encQ_bytes {r : RQ} (h : Bytes r.data) : Bytes (encQ r) := by
  unfold encQ
  split
  · exact (((((numI_bytes _ _).append (numI_bytes _ _)).append (numI_bytes _ _)).append (numI_bytes _ _)).append (numI_bytes _ _)).append (bytB_bytes h)
  · exact Bytes.nil
theorem encQ_length (r : RQ) : (encQ r).length ≤ 1100 := by
  unfold encQ
  split
  · exact reqB_length r
  · simp

def OneP (x y : RQ) (w : World) (M0 : Imm) (L : List Res) (e : Ending) : Prop := ∃ b, e = .returned (.bool b) ∧ (x = y → b = true) ∧ St M0 w L
end Go.Proofs.YtpaelngpmbeedaaGreatDoor
