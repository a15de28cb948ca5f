/- Requests encoded and decoded: the program's and the document's. Printed by gen_imge.py. -/
import Derived.Test.YtdhkklcjhbnnlaaImgK
import Derived.Test.YtdhkklcjhbnnlaaPackW
import Derived.Test.YtdhkklcjhbnnlaaPackDe
import Derived.Test.YtdhkklcjhbnnlaaPackR
import Derived.Test.YtdhkklcjhbnnlaaRrSt
import Derived.Test.YtdhkklcjhbnnlaaPackLaw
import Derived.Test.YtdhkklcjhbnnlaaEqSt
namespace Go.Proofs.Ytdhkklcjhbnnlaa
open Go.RowKit

def reqB (r : RQ) : List Int := numI r.op 1 ++ numI r.region 1 ++ numI r.index 1 ++ numI r.token 8 ++ numI r.seq 4 ++ bytB r.data
def encQ (r : RQ) : List Int := if r.wrong = 0 then reqB r else []
def Rd.reqs (r : Rd) : RQ × Rd :=
  (⟨(r.num 1).1, ((r.num 1).2.num 1).1, (((r.num 1).2.num 1).2.num 1).1, ((((r.num 1).2.num 1).2.num 1).2.num 8).1, (((((r.num 1).2.num 1).2.num 1).2.num 8).2.num 4).1, (((((r.num 1).2.num 1).2.num 1).2.num 8).2.num 4).2.byt.1⟩,
    (((((r.num 1).2.num 1).2.num 1).2.num 8).2.num 4).2.byt.2)
def decQe (bs : List Int) : Int := if (Rd.reqs ⟨bs, false⟩).2.endE = 0 then (Rd.reqs ⟨bs, false⟩).1.wrong else (Rd.reqs ⟨bs, false⟩).2.endE
def decQ (bs : List Int) : RQ := if decQe bs = 0 then (Rd.reqs ⟨bs, false⟩).1 else ⟨0, 0, 0, 0, 0, []⟩
theorem Rd.num_lt (r : Rd) (hb : Bytes r.xs) (m : Nat) (hm : m ≤ 8) (h1 : 1 ≤ m) : 0 ≤ (r.num m).1 ∧ (r.num m).1 < 256 ^ m := by
  have h1' := r.take_xs (r.size m) hb
  have h2 := r.take_len (r.size m)
  have h3 := ofB_range h1'.1
  have hs : r.size (m : Int) = m := by
    unfold Rd.size
    rw [if_neg (by omega), Int.toNat_natCast]
  have h4 : (r.take (r.size m)).1.length ≤ m := by have := h2.1; rw [hs] at this ⊢; exact this
  refine ⟨h3.1, Int.lt_of_lt_of_le h3.2 ?_⟩
  have : ∀ m, m ≤ 8 → ∀ k, k ≤ m → (256 : Int) ^ k ≤ 256 ^ m := by decide
  exact this m hm _ h4
theorem Rd.num1_lt {r : Rd} (h : r.Ok) : 0 ≤ (r.num 1).1 ∧ (r.num 1).1 < 256 := r.num_lt h.hb 1 (by omega) (by omega)
theorem Rd.num4_lt {r : Rd} (h : r.Ok) : 0 ≤ (r.num 4).1 ∧ (r.num 4).1 < 4294967296 := r.num_lt h.hb 4 (by omega) (by omega)
theorem Rd.num8_lt {r : Rd} (h : r.Ok) : 0 ≤ (r.num 8).1 ∧ (r.num 8).1 < 18446744073709551616 := r.num_lt h.hb 8 (by omega) (by omega)
theorem reqs_ok {r : Rd} (h : r.Ok) : (Rd.reqs r).1.ok :=
  ⟨(Rd.num8_lt (((h.num 1).num 1).num 1)).1, (Rd.num8_lt (((h.num 1).num 1).num 1)).2, (Rd.num4_lt ((((h.num 1).num 1).num 1).num 8)).1, (Rd.num4_lt ((((h.num 1).num 1).num 1).num 8)).2⟩
theorem decQ_ok {bs : List Int} (h : Rd.Ok ⟨bs, false⟩) : (decQ bs).ok := by
  unfold decQ
  split
  · exact reqs_ok h
  · exact ⟨by decide, by decide, by decide, by decide⟩
theorem results_cell2 {fn : Func} {t k : Nat} {ty : TypeId} {P : Program} {w : World} {v : Value} {a : Addr} (h : fn.results = #[.cell t ty, .tmp k]) (tmps : Array Value) (ha : tmps.getD t undef = .pointer (some a)) (hl : (loadVar ty a).run P w = .ok v w) :
    (results fn tmps).run P w = .ok (.tuple #[v, tmps.getD k undef]) w := by
  have ha' : tmps[t]?.getD undef = .pointer (some a) := by simpa using ha
  simp [results, h, ha', asAddr, hl]

set_option maxRecDepth 100000 in
set_option maxHeartbeats 2000000 in
theorem decode_st {M0 : Imm} {L : List Res} (v : Value) (bs : List Int) (w : World) (hb : Bytes bs) (hl : bs.length ≤ 1000000) (h : St M0 w (intsR .u8 v bs :: L)) :
    Calls Try.prog 50 #[v] w fun e w' => ∃ A n c, e = .returned (.tuple #[reqV (decQ bs) (.slice A n c), .int .i64 (decQe bs)]) ∧ St M0 w' (intsR .u8 (.slice A n c) (decQ bs).data :: L) := by
  obtain ⟨A0, c0, rfl, _, _, _⟩ := h.get 0 rfl
  have ok0 : Rd.Ok (Rd.mk bs false) := ⟨hb, by show bs.length ≤ 1000000000; omega, fun h => by cases h⟩
  have E1 := hide (show decQe bs = if (Rd.reqs ⟨bs, false⟩).2.endE = 0 then (Rd.reqs ⟨bs, false⟩).1.wrong else (Rd.reqs ⟨bs, false⟩).2.endE from rfl)
  have E2 := hide (show decQ bs = if decQe bs = 0 then (Rd.reqs ⟨bs, false⟩).1 else ⟨0, 0, 0, 0, 0, []⟩ from rfl)
  have H := hide ((h.alloc 69 #[.int .i64 0, .int .i64 0, .int .i64 0, .int .u64 0, .int .u32 0, .slice none 0 0]).swap)
  have OK0 := hide ok0
  clear h ok0 hb hl
  go_enter Try.func50, Try.ntmps50
  go_wp2_with fail
  refine (read_st _ bs _ H.out).mono ?_
  rintro e w1 ⟨g, rfl, h⟩
  have H1 := hide (h.del1)
  clear H h
  go_wp2_with fail
  have HB0 := hide (Rd.num1_lt OK0.out)
  have OK1 := hide (OK0.out.num 1)
  refine (rdnum_st g _ 1 _ OK0.out.hb OK0.out.hl OK0.out.hz H1.out).mono ?_
  rintro e u1 ⟨rfl, h⟩
  have H2 := hide h
  clear H1 h
  unfold Rd.reqs at E1 E2
  generalize ((Rd.mk bs false).num 1).2 = r1 at *
  generalize ((Rd.mk bs false).num 1).1 = a0 at *
  obtain ⟨b0, d0⟩ := HB0.out
  go_wp2_with fail
  have HB1 := hide (Rd.num1_lt OK1.out)
  have OK2 := hide (OK1.out.num 1)
  refine (rdnum_st g _ 1 _ OK1.out.hb OK1.out.hl OK1.out.hz H2.out).mono ?_
  rintro e u2 ⟨rfl, h⟩
  have H3 := hide h
  clear H2 h
  generalize (r1.num 1).2 = r2 at *
  generalize (r1.num 1).1 = a1 at *
  obtain ⟨b1, d1⟩ := HB1.out
  go_wp2_with fail
  have HB2 := hide (Rd.num1_lt OK2.out)
  have OK3 := hide (OK2.out.num 1)
  refine (rdnum_st g _ 1 _ OK2.out.hb OK2.out.hl OK2.out.hz H3.out).mono ?_
  rintro e u3 ⟨rfl, h⟩
  have H4 := hide h
  clear H3 h
  generalize (r2.num 1).2 = r3 at *
  generalize (r2.num 1).1 = a2 at *
  obtain ⟨b2, d2⟩ := HB2.out
  go_wp2_with fail
  have HB3 := hide (Rd.num8_lt OK3.out)
  have OK4 := hide (OK3.out.num 8)
  refine (rdnum_st g _ 8 _ OK3.out.hb OK3.out.hl OK3.out.hz H4.out).mono ?_
  rintro e u4 ⟨rfl, h⟩
  have H5 := hide h
  clear H4 h
  generalize (r3.num 8).2 = r4 at *
  generalize (r3.num 8).1 = a3 at *
  obtain ⟨b3, d3⟩ := HB3.out
  go_wp2_with fail
  have HB4 := hide (Rd.num4_lt OK4.out)
  have OK5 := hide (OK4.out.num 4)
  refine (rdnum_st g _ 4 _ OK4.out.hb OK4.out.hl OK4.out.hz H5.out).mono ?_
  rintro e u5 ⟨rfl, h⟩
  have H6 := hide h
  clear H5 h
  generalize (r4.num 4).2 = r5 at *
  generalize (r4.num 4).1 = a4 at *
  obtain ⟨b4, d4⟩ := HB4.out
  go_wp2_with fail
  have OK6 := hide OK5.out.byt
  refine (rdbyt_st g r5 _ OK5.out.hb OK5.out.hl OK5.out.hz H6.out).mono ?_
  rintro e u6 ⟨v6, rfl, h⟩
  generalize r5.byt.2 = r6 at *
  generalize r5.byt.1 = data at *
  obtain ⟨B, d, rfl, _, _, _⟩ := h.get 0 rfl
  generalize hnd : data.length = nd at *
  have HND := hide hnd
  have H7 := hide (h.alloc 69 #[.int .i64 a0, .int .i64 a1, .int .i64 a2, .int .u64 a3, .int .u32 a4, .slice B nd d])
  clear H6 h hnd
  go_wp2_with fail
  refine (rdend_st g r6 _ H7.out.up2).mono ?_
  rintro e u7 ⟨rfl, h⟩
  generalize r6.endE = ee at *
  obtain ⟨e0, e1, e2, e3, e4, e5⟩ := (h.blk 1 rfl).six
  obtain ⟨z0, z1, z2, z3, z4, z5⟩ := (h.blk 3 rfl).six
  have fz := (h.blk 3 rfl).frozen
  have H8 := hide h
  clear H7 h
  by_cases he : ee = 0
  · subst he
    rw [if_pos rfl] at E1
    go_wp2_with fail
    refine (wrong_any ⟨a0, a1, a2, a3, a4, data⟩ B nd d _ HND.out.symm).mono ?_
    rintro e u8 ⟨rfl, hf⟩
    have h := H8.out.grow hf
    obtain ⟨e0, e1, e2, e3, e4, e5⟩ := (h.blk 1 rfl).six
    obtain ⟨z0, z1, z2, z3, z4, z5⟩ := (h.blk 3 rfl).six
    have fz := (h.blk 3 rfl).frozen
    have H9 := hide h
    clear H8 h hf
    generalize RQ.wrong ⟨a0, a1, a2, a3, a4, data⟩ = ww at *
    by_cases hw : ww = 0
    · subst hw
      go_wp2_with fail
      have h6 := (((((H9.out.pick (L' := blkR w.heap.size 69 #[.int .i64 0, .int .i64 0, .int .i64 0, .int .u64 0, .int .u32 0, .slice none 0 0] :: intsR .u8 (.slice B nd d) data :: L) 4 [3, 2]).set_ 0 (.int .i64 a0)).set_ 1 (.int .i64 a1)).set_ 2 (.int .i64 a2)).set_ 3 (.int .u64 a3)).set_ 4 (.int .u32 a4) |>.set_ 5 (.slice B nd d)
      have hb6 : Blk _ w.heap.size 69 #[.int .i64 a0, .int .i64 a1, .int .i64 a2, .int .u64 a3, .int .u32 a4, .slice B nd d] := h6.blk 0 rfl
      obtain ⟨y0, y1, y2, y3, y4, y5⟩ := hb6.six
      refine bodyPost_ret (v := .tuple #[.agg #[.int .i64 a0, .int .i64 a1, .int .i64 a2, .int .u64 a3, .int .u32 a4, .slice B nd d], .int .i64 0]) (results_cell2 (fn := Try.f50) (t := 2) (k := 3) (ty := 69) rfl _ rfl ?_) rfl ⟨B, nd, d, ?_, ?_⟩
      · go_simp
      · rw [E2.out, E1.out]; rfl
      · rw [E2.out, if_pos E1.out]
        exact h6.tail
    · have hwb : (ww != 0) = true := by simp [hw]
      have HWN := hide hw
      clear hw
      go_wp2_with fail
      have h6 := (((((H9.out.pick (L' := blkR w.heap.size 69 #[.int .i64 0, .int .i64 0, .int .i64 0, .int .u64 0, .int .u32 0, .slice none 0 0] :: intsR .u8 (.slice B nd d) data :: L) 4 [3, 2]).set_ 0 (.int .i64 0)).set_ 1 (.int .i64 0)).set_ 2 (.int .i64 0)).set_ 3 (.int .u64 0)).set_ 4 (.int .u32 0) |>.set_ 5 (.slice none 0 0)
      have hb6 : Blk _ w.heap.size 69 #[.int .i64 0, .int .i64 0, .int .i64 0, .int .u64 0, .int .u32 0, .slice none 0 0] := h6.blk 0 rfl
      obtain ⟨y0, y1, y2, y3, y4, y5⟩ := hb6.six
      refine bodyPost_ret (v := .tuple #[.agg #[.int .i64 0, .int .i64 0, .int .i64 0, .int .u64 0, .int .u32 0, .slice none 0 0], .int .i64 ww]) (results_cell2 (fn := Try.f50) (t := 2) (k := 3) (ty := 69) rfl _ rfl ?_) rfl ⟨none, 0, 0, ?_, ?_⟩
      · go_simp
      · rw [E2.out, if_neg (by rw [E1.out]; exact HWN.out), E1.out]
      · rw [E2.out, if_neg (by rw [E1.out]; exact HWN.out)]
        exact h6.tail.tail.pers0 (fun w' _ => Ints.none_ w' _)
  · rw [if_neg he] at E1
    have heb : (ee != 0) = true := by simp [he]
    have heq : (ee == 0) = false := isF he
    have HWN := hide he
    clear he
    go_wp2_with fail
    have h6 := (((((H8.out.pick (L' := blkR w.heap.size 69 #[.int .i64 0, .int .i64 0, .int .i64 0, .int .u64 0, .int .u32 0, .slice none 0 0] :: intsR .u8 (.slice B nd d) data :: L) 4 [3, 2]).set_ 0 (.int .i64 0)).set_ 1 (.int .i64 0)).set_ 2 (.int .i64 0)).set_ 3 (.int .u64 0)).set_ 4 (.int .u32 0) |>.set_ 5 (.slice none 0 0)
    have hb6 : Blk _ w.heap.size 69 #[.int .i64 0, .int .i64 0, .int .i64 0, .int .u64 0, .int .u32 0, .slice none 0 0] := h6.blk 0 rfl
    obtain ⟨y0, y1, y2, y3, y4, y5⟩ := hb6.six
    refine bodyPost_ret (v := .tuple #[.agg #[.int .i64 0, .int .i64 0, .int .i64 0, .int .u64 0, .int .u32 0, .slice none 0 0], .int .i64 ee]) (results_cell2 (fn := Try.f50) (t := 2) (k := 3) (ty := 69) rfl _ rfl ?_) rfl ⟨none, 0, 0, ?_, ?_⟩
    · go_simp
    · rw [E2.out, if_neg (by rw [E1.out]; exact HWN.out), E1.out]
    · rw [E2.out, if_neg (by rw [E1.out]; exact HWN.out)]
      exact h6.tail.tail.pers0 (fun w' _ => Ints.none_ w' _)

set_option maxRecDepth 100000 in
set_option maxHeartbeats 2000000 in
theorem rdecode_st {M0 : Imm} {L : List Res} (v : Value) (bs : List Int) (w : World) (hb : Bytes bs) (hl : bs.length ≤ 1000000) (h : St M0 w (intsR .u8 v bs :: L)) :
    Calls Try.prog 51 #[v] w fun e w' => ∃ A n c, e = .returned (.tuple #[reqV (decQ bs) (.slice A n c), .int .i64 (decQe bs)]) ∧ St M0 w' (intsR .u8 (.slice A n c) (decQ bs).data :: L) := by
  obtain ⟨A0, c0, rfl, _, _, _⟩ := h.get 0 rfl
  have ok0 : Rd.Ok (Rd.mk bs false) := ⟨hb, by show bs.length ≤ 1000000000; omega, fun h => by cases h⟩
  have E1 := hide (show decQe bs = if (Rd.reqs ⟨bs, false⟩).2.endE = 0 then (Rd.reqs ⟨bs, false⟩).1.wrong else (Rd.reqs ⟨bs, false⟩).2.endE from rfl)
  have E2 := hide (show decQ bs = if decQe bs = 0 then (Rd.reqs ⟨bs, false⟩).1 else ⟨0, 0, 0, 0, 0, []⟩ from rfl)
  have h1 := ((h.alloc 86 #[.int .i64 0, .int .i64 0, .int .i64 0, .int .u64 0, .int .u32 0, .slice none 0 0]).alloc 51 #[.slice A0 bs.length c0, .int .i64 0, .bool false]).alloc 86 #[.int .i64 0, .int .i64 0, .int .i64 0, .int .u64 0, .int .u32 0, .slice none 0 0]
  simp only [World.size_alloc] at h1
  have h2 := h1.pick (L' := blkR (w.heap.size + 1) 51 #[.slice A0 bs.length c0, .int .i64 0, .bool false] :: intsR .u8 (.slice A0 bs.length c0) bs :: blkR (w.heap.size + 1 + 1) 86 #[.int .i64 0, .int .i64 0, .int .i64 0, .int .u64 0, .int .u32 0, .slice none 0 0] :: blkR w.heap.size 86 #[.int .i64 0, .int .i64 0, .int .i64 0, .int .u64 0, .int .u32 0, .slice none 0 0] :: L) 4 [1, 3, 0, 2]
  have h3 := St.addRr (r := Rd.mk bs false) h2 (Nat.zero_le _) (by omega) (by simp)
  have fz := (h3.blk 1 rfl).frozen
  obtain ⟨y0, y1, y2, y3, y4, y5⟩ := (h3.blk 1 rfl).six
  have H0 := hide h3
  have OK0 := hide ok0
  clear h ok0 hb hl h1 h2 h3
  generalize hs : w.heap.size = s at *
  have HSZ := hide hs
  go_enter Try.func51, Try.ntmps51
  go_wp2_with fail
  have HB0 := hide (Rd.num1_lt OK0.out)
  have OK1 := hide (OK0.out.num 1)
  refine (rrnum_st _ _ 1 _ OK0.out.hb H0.out).mono ?_
  rintro e u1 ⟨rfl, h⟩
  unfold Rd.reqs at E1 E2
  generalize ((Rd.mk bs false).num 1).2 = r1 at *
  generalize ((Rd.mk bs false).num 1).1 = a0 at *
  obtain ⟨b0, d0⟩ := HB0.out
  have fz := (h.blk 1 rfl).frozen
  obtain ⟨y0, y1, y2, y3, y4, y5⟩ := (h.blk 1 rfl).six
  have H1 : Hid (St M0 (u1.setCell ⟨s + 1 + 1, 0, none⟩ (.int .i64 a0)) (rrR (s + 1) r1 :: blkR (s + 1 + 1) 86 #[.int .i64 a0, .int .i64 0, .int .i64 0, .int .u64 0, .int .u32 0, .slice none 0 0] :: blkR s 86 #[.int .i64 0, .int .i64 0, .int .i64 0, .int .u64 0, .int .u32 0, .slice none 0 0] :: L)) := hide ((h.swap.set_ 0 _).swap)
  clear H0 h
  go_wp2_with fail
  have HB1 := hide (Rd.num1_lt OK1.out)
  have OK2 := hide (OK1.out.num 1)
  refine (rrnum_st _ _ 1 _ OK1.out.hb H1.out).mono ?_
  rintro e u2 ⟨rfl, h⟩
  generalize (r1.num 1).2 = r2 at *
  generalize (r1.num 1).1 = a1 at *
  obtain ⟨b1, d1⟩ := HB1.out
  have fz := (h.blk 1 rfl).frozen
  obtain ⟨y0, y1, y2, y3, y4, y5⟩ := (h.blk 1 rfl).six
  have H2 : Hid (St M0 (u2.setCell ⟨s + 1 + 1, 1, none⟩ (.int .i64 a1)) (rrR (s + 1) r2 :: blkR (s + 1 + 1) 86 #[.int .i64 a0, .int .i64 a1, .int .i64 0, .int .u64 0, .int .u32 0, .slice none 0 0] :: blkR s 86 #[.int .i64 0, .int .i64 0, .int .i64 0, .int .u64 0, .int .u32 0, .slice none 0 0] :: L)) := hide ((h.swap.set_ 1 _).swap)
  clear H1 h
  go_wp2_with fail
  have HB2 := hide (Rd.num1_lt OK2.out)
  have OK3 := hide (OK2.out.num 1)
  refine (rrnum_st _ _ 1 _ OK2.out.hb H2.out).mono ?_
  rintro e u3 ⟨rfl, h⟩
  generalize (r2.num 1).2 = r3 at *
  generalize (r2.num 1).1 = a2 at *
  obtain ⟨b2, d2⟩ := HB2.out
  have fz := (h.blk 1 rfl).frozen
  obtain ⟨y0, y1, y2, y3, y4, y5⟩ := (h.blk 1 rfl).six
  have H3 : Hid (St M0 (u3.setCell ⟨s + 1 + 1, 2, none⟩ (.int .i64 a2)) (rrR (s + 1) r3 :: blkR (s + 1 + 1) 86 #[.int .i64 a0, .int .i64 a1, .int .i64 a2, .int .u64 0, .int .u32 0, .slice none 0 0] :: blkR s 86 #[.int .i64 0, .int .i64 0, .int .i64 0, .int .u64 0, .int .u32 0, .slice none 0 0] :: L)) := hide ((h.swap.set_ 2 _).swap)
  clear H2 h
  go_wp2_with fail
  have HB3 := hide (Rd.num8_lt OK3.out)
  have OK4 := hide (OK3.out.num 8)
  refine (rrnum_st _ _ 8 _ OK3.out.hb H3.out).mono ?_
  rintro e u4 ⟨rfl, h⟩
  generalize (r3.num 8).2 = r4 at *
  generalize (r3.num 8).1 = a3 at *
  obtain ⟨b3, d3⟩ := HB3.out
  have fz := (h.blk 1 rfl).frozen
  obtain ⟨y0, y1, y2, y3, y4, y5⟩ := (h.blk 1 rfl).six
  have H4 : Hid (St M0 (u4.setCell ⟨s + 1 + 1, 3, none⟩ (.int .u64 a3)) (rrR (s + 1) r4 :: blkR (s + 1 + 1) 86 #[.int .i64 a0, .int .i64 a1, .int .i64 a2, .int .u64 a3, .int .u32 0, .slice none 0 0] :: blkR s 86 #[.int .i64 0, .int .i64 0, .int .i64 0, .int .u64 0, .int .u32 0, .slice none 0 0] :: L)) := hide ((h.swap.set_ 3 _).swap)
  clear H3 h
  go_wp2_with fail
  have HB4 := hide (Rd.num4_lt OK4.out)
  have OK5 := hide (OK4.out.num 4)
  refine (rrnum_st _ _ 4 _ OK4.out.hb H4.out).mono ?_
  rintro e u5 ⟨rfl, h⟩
  generalize (r4.num 4).2 = r5 at *
  generalize (r4.num 4).1 = a4 at *
  obtain ⟨b4, d4⟩ := HB4.out
  have fz := (h.blk 1 rfl).frozen
  obtain ⟨y0, y1, y2, y3, y4, y5⟩ := (h.blk 1 rfl).six
  have H5 : Hid (St M0 (u5.setCell ⟨s + 1 + 1, 4, none⟩ (.int .u32 a4)) (rrR (s + 1) r5 :: blkR (s + 1 + 1) 86 #[.int .i64 a0, .int .i64 a1, .int .i64 a2, .int .u64 a3, .int .u32 a4, .slice none 0 0] :: blkR s 86 #[.int .i64 0, .int .i64 0, .int .i64 0, .int .u64 0, .int .u32 0, .slice none 0 0] :: L)) := hide ((h.swap.set_ 4 _).swap)
  clear H4 h
  go_wp2_with fail
  have OK6 := hide OK5.out.byt
  refine (rrbyt_st _ r5 _ OK5.out.hb OK5.out.hl H5.out).mono ?_
  rintro e u6 ⟨v6, rfl, h⟩
  generalize r5.byt.2 = r6 at *
  generalize r5.byt.1 = data at *
  obtain ⟨B, d, rfl, _, _, _⟩ := h.get 0 rfl
  generalize hnd : data.length = nd at *
  have HND := hide hnd
  have fz := (h.blk 2 rfl).frozen
  obtain ⟨y0, y1, y2, y3, y4, y5⟩ := (h.blk 2 rfl).six
  have H6 : Hid (St M0 (u6.setCell ⟨s + 1 + 1, 5, none⟩ (.slice B nd d)) (blkR (s + 1 + 1) 86 #[.int .i64 a0, .int .i64 a1, .int .i64 a2, .int .u64 a3, .int .u32 a4, .slice B nd d] :: intsR .u8 (.slice B nd d) data :: rrR (s + 1) r6 :: blkR s 86 #[.int .i64 0, .int .i64 0, .int .i64 0, .int .u64 0, .int .u32 0, .slice none 0 0] :: L)) := hide ((h.up2.set_ 5 _))
  clear H5 h hnd
  go_wp2_with fail
  refine (rrend_st _ r6 _ H6.out.up2).mono ?_
  rintro e u7 ⟨rfl, h⟩
  generalize r6.endE = ee at *
  obtain ⟨e0, e1, e2, e3, e4, e5⟩ := (h.blk 1 rfl).six
  obtain ⟨z0, z1, z2, z3, z4, z5⟩ := (h.blk 3 rfl).six
  have fz := (h.blk 3 rfl).frozen
  have H8 := hide h
  clear H6 h
  by_cases he : ee = 0
  · subst he
    rw [if_pos rfl] at E1
    go_wp2_with fail
    refine (rwrong_any ⟨a0, a1, a2, a3, a4, data⟩ B nd d _ HND.out.symm).mono ?_
    rintro e u8 ⟨rfl, hf⟩
    have h := H8.out.grow hf
    obtain ⟨e0, e1, e2, e3, e4, e5⟩ := (h.blk 1 rfl).six
    obtain ⟨z0, z1, z2, z3, z4, z5⟩ := (h.blk 3 rfl).six
    have fz := (h.blk 3 rfl).frozen
    have H9 := hide h
    clear H8 h hf
    generalize RQ.wrong ⟨a0, a1, a2, a3, a4, data⟩ = ww at *
    by_cases hw : ww = 0
    · subst hw
      go_wp2_with fail
      have h6 := (((((H9.out.pick (L' := blkR s 86 #[.int .i64 0, .int .i64 0, .int .i64 0, .int .u64 0, .int .u32 0, .slice none 0 0] :: intsR .u8 (.slice B nd d) data :: L) 4 [3, 2]).set_ 0 (.int .i64 a0)).set_ 1 (.int .i64 a1)).set_ 2 (.int .i64 a2)).set_ 3 (.int .u64 a3)).set_ 4 (.int .u32 a4) |>.set_ 5 (.slice B nd d)
      have hb6 : Blk _ s 86 #[.int .i64 a0, .int .i64 a1, .int .i64 a2, .int .u64 a3, .int .u32 a4, .slice B nd d] := h6.blk 0 rfl
      obtain ⟨y0, y1, y2, y3, y4, y5⟩ := hb6.six
      refine bodyPost_ret (v := .tuple #[.agg #[.int .i64 a0, .int .i64 a1, .int .i64 a2, .int .u64 a3, .int .u32 a4, .slice B nd d], .int .i64 0]) (results_cell2 (fn := Try.f51) (t := 2) (k := 3) (ty := 86) rfl _ rfl ?_) rfl ⟨B, nd, d, ?_, ?_⟩
      · go_simp
      · rw [E2.out, E1.out]; rfl
      · rw [E2.out, if_pos E1.out]
        exact h6.tail
    · have hwb : (ww != 0) = true := by simp [hw]
      have HWN := hide hw
      clear hw
      go_wp2_with fail
      have h6 := (((((H9.out.pick (L' := blkR s 86 #[.int .i64 0, .int .i64 0, .int .i64 0, .int .u64 0, .int .u32 0, .slice none 0 0] :: intsR .u8 (.slice B nd d) data :: L) 4 [3, 2]).set_ 0 (.int .i64 0)).set_ 1 (.int .i64 0)).set_ 2 (.int .i64 0)).set_ 3 (.int .u64 0)).set_ 4 (.int .u32 0) |>.set_ 5 (.slice none 0 0)
      have hb6 : Blk _ s 86 #[.int .i64 0, .int .i64 0, .int .i64 0, .int .u64 0, .int .u32 0, .slice none 0 0] := h6.blk 0 rfl
      obtain ⟨y0, y1, y2, y3, y4, y5⟩ := hb6.six
      refine bodyPost_ret (v := .tuple #[.agg #[.int .i64 0, .int .i64 0, .int .i64 0, .int .u64 0, .int .u32 0, .slice none 0 0], .int .i64 ww]) (results_cell2 (fn := Try.f51) (t := 2) (k := 3) (ty := 86) rfl _ rfl ?_) rfl ⟨none, 0, 0, ?_, ?_⟩
      · go_simp
      · rw [E2.out, if_neg (by rw [E1.out]; exact HWN.out), E1.out]
      · rw [E2.out, if_neg (by rw [E1.out]; exact HWN.out)]
        exact h6.tail.tail.pers0 (fun w' _ => Ints.none_ w' _)
  · rw [if_neg he] at E1
    have heb : (ee != 0) = true := by simp [he]
    have heq : (ee == 0) = false := isF he
    have HWN := hide he
    clear he
    go_wp2_with fail
    have h6 := (((((H8.out.pick (L' := blkR s 86 #[.int .i64 0, .int .i64 0, .int .i64 0, .int .u64 0, .int .u32 0, .slice none 0 0] :: intsR .u8 (.slice B nd d) data :: L) 4 [3, 2]).set_ 0 (.int .i64 0)).set_ 1 (.int .i64 0)).set_ 2 (.int .i64 0)).set_ 3 (.int .u64 0)).set_ 4 (.int .u32 0) |>.set_ 5 (.slice none 0 0)
    have hb6 : Blk _ s 86 #[.int .i64 0, .int .i64 0, .int .i64 0, .int .u64 0, .int .u32 0, .slice none 0 0] := h6.blk 0 rfl
    obtain ⟨y0, y1, y2, y3, y4, y5⟩ := hb6.six
    refine bodyPost_ret (v := .tuple #[.agg #[.int .i64 0, .int .i64 0, .int .i64 0, .int .u64 0, .int .u32 0, .slice none 0 0], .int .i64 ee]) (results_cell2 (fn := Try.f51) (t := 2) (k := 3) (ty := 86) rfl _ rfl ?_) rfl ⟨none, 0, 0, ?_, ?_⟩
    · go_simp
    · rw [E2.out, if_neg (by rw [E1.out]; exact HWN.out), E1.out]
    · rw [E2.out, if_neg (by rw [E1.out]; exact HWN.out)]
      exact h6.tail.tail.pers0 (fun w' _ => Ints.none_ w' _)

end Go.Proofs.Ytdhkklcjhbnnlaa
