/- ImageEncodes: the law's walk. -/
import Derived.Test.YtdhkklcjhbnnlaaImgG
import Derived.Test.YtdhkklcjhbnnlaaImgAw
import Derived.Test.YtdhkklcjhbnnlaaMixG
namespace Go.Proofs.Ytdhkklcjhbnnlaa
open Go.RowKit

set_option maxRecDepth 100000 in
set_option maxHeartbeats 4000000 in
theorem encodes_st {M0 : Imm} {L : List Res} (r : RQ) (B : Option Addr) (nb d : Nat) (v : Value) (bs : List Int) (w : World) (hr : r.ok) (hrb : Bytes r.data) (hbs : Bytes bs) (h : St M0 w (intsR .u8 (.slice B nb d) r.data :: intsR .u8 v bs :: L)) :
    Calls Try.prog 14 #[reqV r (.slice B nb d), v] w fun e w' => e = .returned (.bool true) ∧ St M0 w' L := by
  obtain ⟨A, c, rfl, hc, hm, _⟩ := h.get 1 rfl
  generalize hn : bs.length = n at *
  have HN := hide hn
  have HR := hide hr
  have EQB := hide (encQ_bytes hrb)
  have EQL := hide (encQ_length r)
  have HBS := hide hbs
  have h1 := h.alloc 69 #[.int .i64 r.op, .int .i64 r.region, .int .i64 r.index, .int .u64 r.token, .int .u32 r.seq, .slice B nb d]
  have H := hide h1
  have HDE := hide (fun hw => dec_enc_req hr hw)
  have HEQ : Hid (r.wrong = 0 → encQ r = reqB r) := hide (fun hw => if_pos hw)
  clear h h1 hn hr hrb hbs
  by_cases t0 : 200 < n
  · have dt0 : decide ((200 : Int) < (n : Int)) = true := decide_eq_true (by omega)
    obtain ⟨op, region, index, token, seq, data⟩ := r
    go_enter Try.func14, Try.ntmps14
    go_wp2_with fail
    refine (awake_st _ H.out).mono ?_
    rintro e w1 ⟨rfl, h⟩
    have H1 := hide h
    clear H h
    go_wp2_with fail
    go_ret
    exact ⟨rfl, H1.out.pick 3 []⟩
  have dt0 : decide ((200 : Int) < (n : Int)) = false := decide_eq_false (by omega)
  have hn200 : n ≤ 200 := by omega
  clear t0
  obtain ⟨op, region, index, token, seq, data⟩ := r
  go_enter Try.func14, Try.ntmps14
  go_wp2_with fail
  refine (awake_st _ H.out).mono ?_
  rintro e w1 ⟨rfl, h⟩
  obtain ⟨e0, e1, e2, e3, e4, e5⟩ := (h.blk 0 rfl).six
  have H1 := hide (h.copy 1 rfl)
  clear H h
  go_wp2_with fail
  refine (encode_st ⟨op, region, index, token, seq, data⟩ B nb d _ HR.out H1.out).mono ?_
  rintro e w2 ⟨x, rfl, h⟩
  obtain ⟨A2, c2, rfl, _, _, _⟩ := h.get 0 rfl
  obtain ⟨e0, e1, e2, e3, e4, e5⟩ := (h.blk 1 rfl).six
  have H2 := hide h
  clear H1 h
  go_wp2_with fail
  refine (doc_any ⟨op, region, index, token, seq, data⟩ B nb d _).mono ?_
  rintro e w3 ⟨rfl, hf⟩
  have H3 := hide ((H2.out.grow hf).copy 2 rfl)
  clear H2 hf e0 e1 e2 e3 e4 e5
  go_wp2_with fail
  refine (rencode_st ⟨op, region, index, token, seq, data⟩ B nb d _ HR.out H3.out).mono ?_
  rintro e w4 ⟨y, rfl, h⟩
  obtain ⟨A3, c3, rfl, _, _, _⟩ := h.get 0 rfl
  have H4 := hide (h.copy 4 rfl)
  clear H3 h
  go_wp2_with fail
  refine (decode_st _ bs _ HBS.out (by rw [HN.out]; omega) H4.out).mono ?_
  rintro e w5 ⟨Ap, np, cp, rfl, h⟩
  generalize hp : decQ bs = p at *
  have HP := hide hp
  obtain ⟨po, pr, pi, pt, ps, pd⟩ := p
  have h2 := (h.alloc 69 #[.int .i64 po, .int .i64 pr, .int .i64 pi, .int .u64 pt, .int .u32 ps, .slice Ap np cp])
  have H5 := hide (h2.copy 6 rfl)
  clear H4 h h2 hp
  go_wp2_with fail
  refine (rdecode_st _ bs _ HBS.out (by rw [HN.out]; omega) H5.out).mono ?_
  rintro e w6 ⟨Aq, nq, cq, rfl, h⟩
  rw [HP.out] at h ⊢
  have h2 := (h.alloc 86 #[.int .i64 po, .int .i64 pr, .int .i64 pi, .int .u64 pt, .int .u32 ps, .slice Aq nq cq])
  have H6 := hide (h2.copy 5 rfl)
  clear H5 h h2
  go_wp2_with fail
  refine (decode_st _ (encQ ⟨op, region, index, token, seq, data⟩) _ EQB.out (by have := EQL.out; omega) H6.out).mono ?_
  rintro e w7 ⟨Az, nz, cz, rfl, h⟩
  generalize hq : decQ (encQ ⟨op, region, index, token, seq, data⟩) = q at *
  have HQ := hide hq
  obtain ⟨qo, qr, qi, qt, qs, qd⟩ := q
  have h2 : St M0 _ (blkR w7.heap.size 69 #[.int .i64 qo, .int .i64 qr, .int .i64 qi, .int .u64 qt, .int .u32 qs, .slice Az nz cz] :: intsR .u8 (.slice Az nz cz) qd :: blkR w6.heap.size 86 #[.int .i64 po, .int .i64 pr, .int .i64 pi, .int .u64 pt, .int .u32 ps, .slice Aq nq cq] :: intsR .u8 (.slice Aq nq cq) pd :: blkR w5.heap.size 69 #[.int .i64 po, .int .i64 pr, .int .i64 pi, .int .u64 pt, .int .u32 ps, .slice Ap np cp] :: intsR .u8 (.slice Ap np cp) pd :: intsR .u8 (.slice A3 (encQ ⟨op, region, index, token, seq, data⟩).length c3) (encQ ⟨op, region, index, token, seq, data⟩) :: intsR .u8 (.slice A2 (encQ ⟨op, region, index, token, seq, data⟩).length c2) (encQ ⟨op, region, index, token, seq, data⟩) :: blkR w.heap.size 69 #[.int .i64 op, .int .i64 region, .int .i64 index, .int .u64 token, .int .u32 seq, .slice B nb d] :: intsR .u8 (.slice B nb d) data :: intsR .u8 (.slice A n c) bs :: L) := (h.alloc 69 #[.int .i64 qo, .int .i64 qr, .int .i64 qi, .int .u64 qt, .int .u32 qs, .slice Az nz cz])
  obtain ⟨e0, e1, e2, e3, e4, e5⟩ := (h2.blk 8 rfl).six
  have H7 := hide h2
  clear H6 h h2 hq
  go_wp2_with fail
  refine (changes_any ⟨op, region, index, token, seq, data⟩ (.slice B nb d) _).mono ?_
  rintro e w8 ⟨rfl, hf⟩
  have h2 := H7.out.grow hf
  obtain ⟨e0, e1, e2, e3, e4, e5⟩ := (h2.blk 4 rfl).six
  obtain ⟨f0, f1, f2, f3, f4, f5⟩ := (h2.blk 2 rfl).six
  have H8 := hide h2
  have H8b := hide ((h2.copy 3 rfl).copy 6 rfl)
  clear H7 h2 hf
  go_wp2_with fail
  refine (one_st ⟨po, pr, pi, pt, ps, pd⟩ ⟨po, pr, pi, pt, ps, pd⟩ Ap Aq np cp nq cq _ H8b.out).mono ?_
  rintro e w9 ⟨b, rfl, hb, h⟩
  obtain rfl := hb rfl
  have H9 := hide h
  clear H8 H8b h e0 e1 e2 e3 e4 e5 f0 f1 f2 f3 f4 f5
  go_wp2_with fail
  refine region_mix (fun W => St M0 W (blkR w7.heap.size 69 #[.int .i64 qo, .int .i64 qr, .int .i64 qi, .int .u64 qt, .int .u32 qs, .slice Az nz cz] :: intsR .u8 (.slice Az nz cz) qd :: blkR w6.heap.size 86 #[.int .i64 po, .int .i64 pr, .int .i64 pi, .int .u64 pt, .int .u32 ps, .slice Aq nq cq] :: intsR .u8 (.slice Aq nq cq) pd :: blkR w5.heap.size 69 #[.int .i64 po, .int .i64 pr, .int .i64 pi, .int .u64 pt, .int .u32 ps, .slice Ap np cp] :: intsR .u8 (.slice Ap np cp) pd :: intsR .u8 (.slice A3 (encQ ⟨op, region, index, token, seq, data⟩).length c3) (encQ ⟨op, region, index, token, seq, data⟩) :: intsR .u8 (.slice A2 (encQ ⟨op, region, index, token, seq, data⟩).length c2) (encQ ⟨op, region, index, token, seq, data⟩) :: blkR w.heap.size 69 #[.int .i64 op, .int .i64 region, .int .i64 index, .int .u64 token, .int .u32 seq, .slice B nb d] :: intsR .u8 (.slice B nb d) data :: intsR .u8 (.slice A n c) bs :: L)) 4 [0, 1] [2, 3, 4] (by kernel_rfl) (by kernel_rfl)
    (fun d => by cases d <;> exact fun _ _ _ _ h => h) (fun W hW => ?_)
  have hS := hide (show St M0 W (blkR w7.heap.size 69 #[.int .i64 qo, .int .i64 qr, .int .i64 qi, .int .u64 qt, .int .u32 qs, .slice Az nz cz] :: intsR .u8 (.slice Az nz cz) qd :: blkR w6.heap.size 86 #[.int .i64 po, .int .i64 pr, .int .i64 pi, .int .u64 pt, .int .u32 ps, .slice Aq nq cq] :: intsR .u8 (.slice Aq nq cq) pd :: blkR w5.heap.size 69 #[.int .i64 po, .int .i64 pr, .int .i64 pi, .int .u64 pt, .int .u32 ps, .slice Ap np cp] :: intsR .u8 (.slice Ap np cp) pd :: intsR .u8 (.slice A3 (encQ ⟨op, region, index, token, seq, data⟩).length c3) (encQ ⟨op, region, index, token, seq, data⟩) :: intsR .u8 (.slice A2 (encQ ⟨op, region, index, token, seq, data⟩).length c2) (encQ ⟨op, region, index, token, seq, data⟩) :: blkR w.heap.size 69 #[.int .i64 op, .int .i64 region, .int .i64 index, .int .u64 token, .int .u32 seq, .slice B nb d] :: intsR .u8 (.slice B nb d) data :: intsR .u8 (.slice A n c) bs :: L) by
    rw [hW]
    exact H9.out.drew)
  clear hW H9
  refine ⟨hS.out, ?_⟩
  iterate 2 (refine take_run rfl rfl (fun W hW => by (obtain ⟨e0, e1, e2, e3, e4, e5⟩ := (hW.blk 8 rfl).six; obtain ⟨f0, f1, f2, f3, f4, f5⟩ := (hW.blk 0 rfl).six; clear hW; go_simp; try rfl)) ?_; (simp only [Act.put, List.setIfInBounds_toArray, List.set_cons_succ, List.set_cons_zero]))
  refine take_nil ?_
  refine seq_call (f := 45) (args := #[reqV ⟨op, region, index, token, seq, data⟩ (.slice B nb d)]) rfl rfl (by go_simp) ((doc_any ⟨op, region, index, token, seq, data⟩ B nb d _).mono ?_)
  rintro e w10 ⟨rfl, hf⟩
  have H10 := hide (hS.out.grow hf)
  clear hS hf
  refine ⟨_, rfl, fun _ => H10.out, ?_⟩
  (simp only [Act.put, List.setIfInBounds_toArray, List.set_cons_succ, List.set_cons_zero])
  refine seq_call (f := 53) (args := #[reqV ⟨qo, qr, qi, qt, qs, qd⟩ (.slice Az nz cz), reqV ⟨op, region, index, token, seq, data⟩ (.slice B nb d)]) rfl rfl (by go_simp) ((one_st ⟨qo, qr, qi, qt, qs, qd⟩ ⟨op, region, index, token, seq, data⟩ Az B nz cz nb d _ ((H10.out.copy 9 rfl).copy 2 rfl)).mono ?_)
  rintro e w11 ⟨b, rfl, hb, h⟩
  obtain ⟨e0, e1, e2, e3, e4, e5⟩ := (h.blk 8 rfl).six
  have H11 := hide h
  have HBB := hide hb
  clear H10 h hb
  refine ⟨_, rfl, fun _ => H11.out, ?_⟩
  (simp only [Act.put, List.setIfInBounds_toArray, List.set_cons_succ, List.set_cons_zero])
  (refine seq_read rfl rfl (by (go_simp; try rfl)) (fun h => absurd h (by decide)) ?_; simp only [Act.put, List.setIfInBounds_toArray, List.set_cons_succ, List.set_cons_zero])
  refine seq_nil ?_
  have hxx : (RQ.wrong ⟨op, region, index, token, seq, data⟩ == RQ.wrong ⟨op, region, index, token, seq, data⟩) = true := by simp
  have hgg : (decQe bs == decQe bs) = true := by simp
  have HW : Hid (RQ.wrong ⟨op, region, index, token, seq, data⟩ = 0 → decQe (encQ ⟨op, region, index, token, seq, data⟩) = 0 ∧ b = true) := hide (fun hw => by
    obtain ⟨h1, h2⟩ := HDE.out hw
    have h3 := HQ.out
    rw [HEQ.out hw] at h3 ⊢
    exact ⟨h1, HBB.out (h3.symm.trans h2)⟩)
  clear HDE HEQ HBB HQ HP
  generalize decQe bs = gg at *
  by_cases hw : RQ.wrong ⟨op, region, index, token, seq, data⟩ = 0
  · obtain ⟨hq0, rfl⟩ := HW.out hw
    rw [hw, hq0]
    clear hw hq0 HW hxx
    go_wp2_with fail
    refine (same_true _ _ (encQ ⟨op, region, index, token, seq, data⟩) _ (H11.out.get 7 rfl) (H11.out.get 6 rfl) H11.out).mono ?_
    rintro e w12 ⟨rfl, h⟩
    obtain ⟨e0, e1, e2, e3, e4, e5⟩ := (h.blk 8 rfl).six
    have H12 := hide h
    clear H11 h
    go_wp2_with fail
    refine (doc_any ⟨op, region, index, token, seq, data⟩ B nb d _).mono ?_
    rintro e w13 ⟨rfl, hf⟩
    have H13 := hide (H12.out.grow hf)
    clear H12 hf
    go_wp2_with fail
    refine (rchanges_any ⟨op, region, index, token, seq, data⟩ (.slice B nb d) _).mono ?_
    rintro e w14 ⟨rfl, hf⟩
    have H14 := hide (H13.out.grow hf)
    clear H13 hf
    generalize RQ.changes ⟨op, region, index, token, seq, data⟩ = cb at *
    have hcb : (cb == cb) = true := by simp
    have hcd : decide (cb = cb) = true := by simp
    go_wp2_with fail
    go_ret
    exact ⟨rfl, H14.out.pick 11 []⟩
  · have hwb : (RQ.wrong ⟨op, region, index, token, seq, data⟩ != 0) = true := by simp [hw]
    generalize RQ.wrong ⟨op, region, index, token, seq, data⟩ = ww at *
    clear hw HW
    go_wp2_with fail
    refine (same_true _ _ (encQ ⟨op, region, index, token, seq, data⟩) _ (H11.out.get 7 rfl) (H11.out.get 6 rfl) H11.out).mono ?_
    rintro e w12 ⟨rfl, h⟩
    obtain ⟨e0, e1, e2, e3, e4, e5⟩ := (h.blk 8 rfl).six
    have H12 := hide h
    clear H11 h
    go_wp2_with fail
    refine (doc_any ⟨op, region, index, token, seq, data⟩ B nb d _).mono ?_
    rintro e w13 ⟨rfl, hf⟩
    have H13 := hide (H12.out.grow hf)
    clear H12 hf
    go_wp2_with fail
    refine (rchanges_any ⟨op, region, index, token, seq, data⟩ (.slice B nb d) _).mono ?_
    rintro e w14 ⟨rfl, hf⟩
    have H14 := hide (H13.out.grow hf)
    clear H13 hf
    generalize RQ.changes ⟨op, region, index, token, seq, data⟩ = cb at *
    have hcb : (cb == cb) = true := by simp
    have hcd : decide (cb = cb) = true := by simp
    go_wp2_with fail
    go_ret
    exact ⟨rfl, H14.out.pick 11 []⟩

end Go.Proofs.Ytdhkklcjhbnnlaa
