/- CommitChecks: the law's walk. Printed by gen_cklw.py. -/
import Derived.Test.YtpaelngpmbeedaaDoorCkQZ
import Derived.Test.YtpaelngpmbeedaaDoorCkAw
import Derived.Test.YtpaelngpmbeedaaDoorImgPZ
namespace Go.Proofs.YtpaelngpmbeedaaDoor
open Go.RowKit

set_option maxHeartbeats 8000000 in
set_option maxRecDepth 100000 in
theorem checks_st {M0 : Imm} {L : List Res} (hT : Tbl M0) (v : Value) (l : List RQ) (A2 : Option Addr) (m c2 : Nat) (bs : List Bool) (w : World) (hb : ∀ x ∈ l, Bytes x.data) (hm : m = bs.length) (hmc : m ≤ 9223372036854775807) (h : St M0 w (rowsR 6 ReqR v l :: persR (fun w => Sl w Any 1 A2 m (bs.map Value.bool)) :: L)) :
    Calls Tryd.prog 3 #[v, .slice A2 m c2] w fun e w' => e = .returned (.bool true) ∧ St M0 w' L := by
  obtain ⟨A, c, rfl, hc, hcm⟩ := (h.getRows 0 rfl).slice
  generalize hn : l.length = n at *
  have HN := hide hn
  have HB := hide hb
  have HMB := hide hm
  have H := hide h
  clear hn h hb hm
  go_enter Tryd.func3, Tryd.ntmps3
  go_wp2_with fail
  refine (awake22_st hT _ H.out).mono ?_
  rintro e w1 ⟨rfl, h⟩
  have H1 := hide h
  clear h H
  go_wp2_with fail
  refine (opened_st hT _ H1.out).mono ?_
  rintro e w2 ⟨ds, gs, js, is, rfl, h⟩
  have H2 := hide h
  clear h H1
  go_wp2_with fail
  refine (opened_st hT _ H2.out).mono ?_
  rintro e w3 ⟨dt, gt, jt, it, rfl, h⟩
  have H3 := hide (h.sub (L' := srvR gs ds js is 1 6 sa0 (srvR gt dt jt it 1 6 sa0 (rowsR 6 ReqR (.slice A n c) l :: persR (fun w => Sl w Any 1 A2 m (bs.map Value.bool)) :: L))) (by unfold srvR; (repeat (first | with_reducible exact Sub.refl _ | (with_reducible apply Sub.take; focus (repeat (first | with_reducible exact At.here | with_reducible apply At.there))) | with_reducible apply Sub.drop))))
  clear h H2
  by_cases t0 : 40 < n
  · have dt0 : decide ((40 : Int) < (n : Int)) = true := decide_eq_true (by omega)
    go_wp2_with fail
    go_ret
    exact ⟨rfl, H3.out.tail.tail.tail.tail.tail.tail.tail.tail.tail.tail⟩
  have dt0 : decide ((40 : Int) < (n : Int)) = false := decide_eq_false (by omega)
  go_wp2_with fail
  clear dt0
  go_loopg [10] n (fun gh i wr => ∃ (k : Nat) (s t : SM), gh = n - k ∧ k ≤ n ∧ i = .int .i64 (k : Nat) ∧ Fine s (10 + 2 * (k : Int)) (100 + 24 * k) ∧ Fine t (10 + 3 * (k : Int)) (100 + 47 * k) ∧ t.M = s.M ∧ St M0 wr (srvR gs ds js is 1 6 s (srvR gt dt jt it 1 6 t (rowsR 6 ReqR (.slice A n c) l :: persR (fun w => Sl w Any 1 A2 m (bs.map Value.bool)) :: L))))
  case atStart => exact ⟨0, sa0, sa0, rfl, by omega, rfl, fine0.mono (by omega) (by omega), fine0.mono (by omega) (by omega), rfl, H3.out⟩
  case round =>
    clear H3
    obtain ⟨k, s, t, hg, hk, rfl, hfs, hft, hM, h⟩ := hrel
    have HG := hide hg
    have FS := hide hfs
    have FT := hide hft
    have HM := hide hM
    clear hg hfs hft hM
    by_cases hlt : k < n
    · have hx := List.getElem?_eq_getElem (l := l) (i := k) (by rw [HN.out]; exact hlt)
      generalize l[k]'(by rw [HN.out]; exact hlt) = x at hx
      obtain ⟨ad, B1, d1, rfl, hxo, h1⟩ := h.req 8 rfl hx
      have HXB := hide (HB.out x (List.mem_of_getElem? hx))
      have HXO := hide hxo
      have HKK := hide (show k < 40 by omega)
      have HX := hide h1
      clear hx h h1 hxo
      by_cases hw : k < m
      · have dw : decide ((k : Int) < (m : Int)) = true := decide_eq_true (by omega)
        have hbk := List.getElem?_eq_getElem (l := bs) (i := k) (by rw [← HMB.out]; exact hw)
        generalize bs[k]'(by rw [← HMB.out]; exact hw) = b at hbk
        obtain ⟨aw, hA2, _, _, hcw⟩ := (HX.out.get 10 rfl).2 (by omega)
        subst hA2
        have k0 := hcw k (.bool b) (by rw [List.getElem?_map, hbk]; rfl)
        clear hcw hbk
        cases b with
        | false =>
          have FT2 := hide (FT.out.mono (K' := 10 + 3 * (k : Int) + 1) (kk' := 100 + 47 * k + 23) (by omega) (by omega))
          have HM2 := HM
          clear FT HM
          have SF := hide (FS.out.doS (r := x) (by have := HKK.out; omega) HXO.out HXB.out)
          have TF := hide (FT2.out.doS (r := x) (by have := HKK.out; omega) HXO.out HXB.out)
          have SA := hide (FS.out.same FT2.out HM2.out (by have := HKK.out; omega) (by have := HKK.out; omega) HXO.out HXB.out)
          obtain ⟨e0, e1, e2, e3, e4, e5⟩ := cells6 (HX.out.get 0 rfl).1
          go_wp2_with fail
          refine (cDo_st hT gs ds js is (100 + 24 * k) 1 6 s x B1 x.data.length d1 _ (by have := HKK.out; omega) FS.out.so HXO.out (encQ_bytes HXB.out) (encQ_43 _) (((HX.out.copy 0 rfl).pers1 (R' := fun w' => Ints w' .u8 (.slice B1 x.data.length d1) x.data) (fun w' hi => hi.2)).sub (L' := intsR .u8 (.slice B1 x.data.length d1) x.data :: srvR gs ds js is 1 6 s (srvR gt dt jt it 1 6 t (persR (fun w' => (∀ j u, [Value.int .i64 x.op, .int .i64 x.region, .int .i64 x.index, .int .u64 x.token, .int .u32 x.seq, .slice B1 x.data.length d1][j]? = some u → w'.cell? ((ad.add (k * 6)).add j) = some u) ∧ Ints w' .u8 (.slice B1 x.data.length d1) x.data) :: rowsR 6 ReqR (.slice (some ad) n c) l :: persR (fun w => Sl w Any 1 (some aw) m (bs.map Value.bool)) :: L))) (by unfold srvR; (repeat (first | with_reducible exact Sub.refl _ | (with_reducible apply Sub.take; focus (repeat (first | with_reducible exact At.here | with_reducible apply At.there))) | with_reducible apply Sub.drop))))).mono ?_
          rintro e w6 ⟨V1, rfl, h⟩
          clear e0 e1 e2 e3 e4 e5 HX
          have HY := hide h
          clear h
          obtain ⟨e0, e1, e2, e3, e4, e5⟩ := cells6 (HY.out.get 9 rfl).1
          go_wp2_with fail
          refine (cDo_st hT gt dt jt it (100 + 47 * k + 23) 1 6 t x B1 x.data.length d1 _ (by have := HKK.out; omega) FT2.out.so HXO.out (encQ_bytes HXB.out) (encQ_43 _) (((HY.out.copy 9 rfl).pers1 (R' := fun w' => Ints w' .u8 (.slice B1 x.data.length d1) x.data) (fun w' hi => hi.2)).sub (L' := intsR .u8 (.slice B1 x.data.length d1) x.data :: srvR gt dt jt it 1 6 t (rowsR 1 LogR V1 (s.doO 1 6 x) :: srvR gs ds js is 1 6 (s.doS 1 6 x) (rowsR 6 ReqR (.slice (some ad) n c) l :: persR (fun w => Sl w Any 1 (some aw) m (bs.map Value.bool)) :: L))) (by unfold srvR; (repeat (first | with_reducible exact Sub.refl _ | (with_reducible apply Sub.take; focus (repeat (first | with_reducible exact At.here | with_reducible apply At.there))) | with_reducible apply Sub.drop))))).mono ?_
          rintro e w7 ⟨V2, rfl, h⟩
          clear e0 e1 e2 e3 e4 e5 HY
          rw [SA.out.1]
          rw [SA.out.2.1] at h
          have HZ := hide h
          clear h
          have hbb : (s.doE 1 6 x != s.doE 1 6 x) = false := by simp
          generalize s.doE 1 6 x = de at hbb ⊢
          go_wp2_with fail
          refine (sames_true V1 V2 (s.doO 1 6 x) _ (HZ.out.getRows 5 rfl) (HZ.out.getRows 0 rfl) HZ.out).mono ?_
          rintro e w8 ⟨rfl, h⟩
          have HW := hide (h.sub (L' := srvR gs ds js is 1 6 (s.doS 1 6 x) (srvR gt dt jt it 1 6 (t.doS 1 6 x) (rowsR 6 ReqR (.slice (some ad) n c) l :: persR (fun w => Sl w Any 1 (some aw) m (bs.map Value.bool)) :: L))) (by unfold srvR; (repeat (first | with_reducible exact Sub.refl _ | (with_reducible apply Sub.take; focus (repeat (first | with_reducible exact At.here | with_reducible apply At.there))) | with_reducible apply Sub.drop))))
          clear h HZ hbb
          go_wp2_with fail
          go_roundg (n - (k + 1))
          case measure => have := HG.out; omega
          case rel => exact ⟨k + 1, s.doS 1 6 x, t.doS 1 6 x, rfl, by omega, by go_num, SF.out.2.2.mono (by omega) (by omega), TF.out.2.2.mono (by omega) (by omega), SA.out.2.2, HW.out⟩
        | true =>
          have hx : St M0 wr (persR (fun w' => (∀ j u, [Value.int .i64 x.op, .int .i64 x.region, .int .i64 x.index, .int .u64 x.token, .int .u32 x.seq, .slice B1 x.data.length d1][j]? = some u → w'.cell? ((ad.add (k * 6)).add j) = some u) ∧ Ints w' .u8 (.slice B1 x.data.length d1) x.data) :: blkR gs 76 (srvC ds js is 1 6 s.dn) :: jR js ds s.J :: imgR is s.M :: dsR ds s.D :: blkR gt 76 (srvC dt jt it 1 6 t.dn) :: jR jt dt t.J :: imgR it t.M :: dsR dt t.D :: rowsR 6 ReqR (.slice (some ad) n c) l :: persR (fun w => Sl w Any 1 (some aw) m (bs.map Value.bool)) :: L) := HX.out
          rw [FT.out.dn] at hx
          go_wp2_with fail
          refine (cp_st hT gt dt jt it (100 + 47 * k) 1 6 t.M t.D t.J _ FT.out.so.d (by have := HKK.out; omega) FT.out.so.m FT.out.so.j FT.out.so.f FT.out.so.a0 FT.out.so.j0 (hx.sub (L' := blkR gt 76 (srvC dt jt it 1 6 false) :: jR jt dt t.J :: imgR it t.M :: dsR dt t.D :: persR (fun w' => (∀ j u, [Value.int .i64 x.op, .int .i64 x.region, .int .i64 x.index, .int .u64 x.token, .int .u32 x.seq, .slice B1 x.data.length d1][j]? = some u → w'.cell? ((ad.add (k * 6)).add j) = some u) ∧ Ints w' .u8 (.slice B1 x.data.length d1) x.data) :: blkR gs 76 (srvC ds js is 1 6 s.dn) :: jR js ds s.J :: imgR is s.M :: dsR ds s.D :: rowsR 6 ReqR (.slice (some ad) n c) l :: persR (fun w => Sl w Any 1 (some aw) m (bs.map Value.bool)) :: L) (by (repeat (first | with_reducible exact Sub.refl _ | (with_reducible apply Sub.take; focus (repeat (first | with_reducible exact At.here | with_reducible apply At.there))) | with_reducible apply Sub.drop))))).mono ?_
          rintro e w5 ⟨rfl, h⟩
          obtain ⟨g1, g2, g3⟩ := FT.out.cp (by have := HKK.out; omega)
          rw [g1]
          have h : St M0 w5 (blkR gt 76 (srvC dt jt it 1 6 (t.cpS 1).dn) :: jR jt dt (t.cpS 1).J :: imgR it (t.cpS 1).M :: dsR dt (t.cpS 1).D :: persR (fun w' => (∀ j u, [Value.int .i64 x.op, .int .i64 x.region, .int .i64 x.index, .int .u64 x.token, .int .u32 x.seq, .slice B1 x.data.length d1][j]? = some u → w'.cell? ((ad.add (k * 6)).add j) = some u) ∧ Ints w' .u8 (.slice B1 x.data.length d1) x.data) :: blkR gs 76 (srvC ds js is 1 6 s.dn) :: jR js ds s.J :: imgR is s.M :: dsR ds s.D :: rowsR 6 ReqR (.slice (some ad) n c) l :: persR (fun w => Sl w Any 1 (some aw) m (bs.map Value.bool)) :: L) := h
          have g2 : (t.cpS 1).J.held = [] := g2
          have HM2 := hide ((Fine.cpM t 1).trans HM.out)
          have FT2 := hide (g3.mono (K' := 10 + 3 * (k : Int) + 1) (kk' := 100 + 47 * k + 23) (by omega) (by omega))
          clear hx HX g1 g3 FT HM k0 dw
          generalize t.cpS 1 = t2 at *
          have HG2 := hide g2
          have H5 := hide (h.sub (L' := blkR gt 76 (srvC dt jt it 1 6 t2.dn) :: jR jt dt t2.J :: imgR it t2.M :: dsR dt t2.D :: persR (fun w' => (∀ j u, [Value.int .i64 x.op, .int .i64 x.region, .int .i64 x.index, .int .u64 x.token, .int .u32 x.seq, .slice B1 x.data.length d1][j]? = some u → w'.cell? ((ad.add (k * 6)).add j) = some u) ∧ Ints w' .u8 (.slice B1 x.data.length d1) x.data) :: blkR gs 76 (srvC ds js is 1 6 s.dn) :: jR js ds s.J :: imgR is s.M :: dsR ds s.D :: rowsR 6 ReqR (.slice (some ad) n c) l :: persR (fun w => Sl w Any 1 (some aw) m (bs.map Value.bool)) :: L) (by (repeat (first | with_reducible exact Sub.refl _ | (with_reducible apply Sub.take; focus (repeat (first | with_reducible exact At.here | with_reducible apply At.there))) | with_reducible apply Sub.drop))))
          clear h g2
          go_wp2_with fail
          refine (cLen_st gt dt jt it 1 6 t2.dn t2.J _ H5.out).mono ?_
          rintro e w5b ⟨rfl, h⟩
          rw [HG2.out, List.length_nil]
          have HX := hide (h.sub (L' := persR (fun w' => (∀ j u, [Value.int .i64 x.op, .int .i64 x.region, .int .i64 x.index, .int .u64 x.token, .int .u32 x.seq, .slice B1 x.data.length d1][j]? = some u → w'.cell? ((ad.add (k * 6)).add j) = some u) ∧ Ints w' .u8 (.slice B1 x.data.length d1) x.data) :: blkR gs 76 (srvC ds js is 1 6 s.dn) :: jR js ds s.J :: imgR is s.M :: dsR ds s.D :: blkR gt 76 (srvC dt jt it 1 6 t2.dn) :: jR jt dt t2.J :: imgR it t2.M :: dsR dt t2.D :: rowsR 6 ReqR (.slice (some ad) n c) l :: persR (fun w => Sl w Any 1 (some aw) m (bs.map Value.bool)) :: L) (by (repeat (first | with_reducible exact Sub.refl _ | (with_reducible apply Sub.take; focus (repeat (first | with_reducible exact At.here | with_reducible apply At.there))) | with_reducible apply Sub.drop))))
          clear h H5
          have SF := hide (FS.out.doS (r := x) (by have := HKK.out; omega) HXO.out HXB.out)
          have TF := hide (FT2.out.doS (r := x) (by have := HKK.out; omega) HXO.out HXB.out)
          have SA := hide (FS.out.same FT2.out HM2.out (by have := HKK.out; omega) (by have := HKK.out; omega) HXO.out HXB.out)
          obtain ⟨e0, e1, e2, e3, e4, e5⟩ := cells6 (HX.out.get 0 rfl).1
          go_wp2_with fail
          refine (cDo_st hT gs ds js is (100 + 24 * k) 1 6 s x B1 x.data.length d1 _ (by have := HKK.out; omega) FS.out.so HXO.out (encQ_bytes HXB.out) (encQ_43 _) (((HX.out.copy 0 rfl).pers1 (R' := fun w' => Ints w' .u8 (.slice B1 x.data.length d1) x.data) (fun w' hi => hi.2)).sub (L' := intsR .u8 (.slice B1 x.data.length d1) x.data :: srvR gs ds js is 1 6 s (srvR gt dt jt it 1 6 t2 (persR (fun w' => (∀ j u, [Value.int .i64 x.op, .int .i64 x.region, .int .i64 x.index, .int .u64 x.token, .int .u32 x.seq, .slice B1 x.data.length d1][j]? = some u → w'.cell? ((ad.add (k * 6)).add j) = some u) ∧ Ints w' .u8 (.slice B1 x.data.length d1) x.data) :: rowsR 6 ReqR (.slice (some ad) n c) l :: persR (fun w => Sl w Any 1 (some aw) m (bs.map Value.bool)) :: L))) (by unfold srvR; (repeat (first | with_reducible exact Sub.refl _ | (with_reducible apply Sub.take; focus (repeat (first | with_reducible exact At.here | with_reducible apply At.there))) | with_reducible apply Sub.drop))))).mono ?_
          rintro e w6 ⟨V1, rfl, h⟩
          clear e0 e1 e2 e3 e4 e5 HX
          have HY := hide h
          clear h
          obtain ⟨e0, e1, e2, e3, e4, e5⟩ := cells6 (HY.out.get 9 rfl).1
          go_wp2_with fail
          refine (cDo_st hT gt dt jt it (100 + 47 * k + 23) 1 6 t2 x B1 x.data.length d1 _ (by have := HKK.out; omega) FT2.out.so HXO.out (encQ_bytes HXB.out) (encQ_43 _) (((HY.out.copy 9 rfl).pers1 (R' := fun w' => Ints w' .u8 (.slice B1 x.data.length d1) x.data) (fun w' hi => hi.2)).sub (L' := intsR .u8 (.slice B1 x.data.length d1) x.data :: srvR gt dt jt it 1 6 t2 (rowsR 1 LogR V1 (s.doO 1 6 x) :: srvR gs ds js is 1 6 (s.doS 1 6 x) (rowsR 6 ReqR (.slice (some ad) n c) l :: persR (fun w => Sl w Any 1 (some aw) m (bs.map Value.bool)) :: L))) (by unfold srvR; (repeat (first | with_reducible exact Sub.refl _ | (with_reducible apply Sub.take; focus (repeat (first | with_reducible exact At.here | with_reducible apply At.there))) | with_reducible apply Sub.drop))))).mono ?_
          rintro e w7 ⟨V2, rfl, h⟩
          clear e0 e1 e2 e3 e4 e5 HY
          rw [SA.out.1]
          rw [SA.out.2.1] at h
          have HZ := hide h
          clear h
          have hbb : (s.doE 1 6 x != s.doE 1 6 x) = false := by simp
          generalize s.doE 1 6 x = de at hbb ⊢
          go_wp2_with fail
          refine (sames_true V1 V2 (s.doO 1 6 x) _ (HZ.out.getRows 5 rfl) (HZ.out.getRows 0 rfl) HZ.out).mono ?_
          rintro e w8 ⟨rfl, h⟩
          have HW := hide (h.sub (L' := srvR gs ds js is 1 6 (s.doS 1 6 x) (srvR gt dt jt it 1 6 (t2.doS 1 6 x) (rowsR 6 ReqR (.slice (some ad) n c) l :: persR (fun w => Sl w Any 1 (some aw) m (bs.map Value.bool)) :: L))) (by unfold srvR; (repeat (first | with_reducible exact Sub.refl _ | (with_reducible apply Sub.take; focus (repeat (first | with_reducible exact At.here | with_reducible apply At.there))) | with_reducible apply Sub.drop))))
          clear h HZ hbb
          go_wp2_with fail
          go_roundg (n - (k + 1))
          case measure => have := HG.out; omega
          case rel => exact ⟨k + 1, s.doS 1 6 x, t2.doS 1 6 x, rfl, by omega, by go_num, SF.out.2.2.mono (by omega) (by omega), TF.out.2.2.mono (by omega) (by omega), SA.out.2.2, HW.out⟩
      · have dw : decide ((k : Int) < (m : Int)) = false := decide_eq_false (by omega)
        have FT2 := hide (FT.out.mono (K' := 10 + 3 * (k : Int) + 1) (kk' := 100 + 47 * k + 23) (by omega) (by omega))
        have HM2 := HM
        clear FT HM
        have SF := hide (FS.out.doS (r := x) (by have := HKK.out; omega) HXO.out HXB.out)
        have TF := hide (FT2.out.doS (r := x) (by have := HKK.out; omega) HXO.out HXB.out)
        have SA := hide (FS.out.same FT2.out HM2.out (by have := HKK.out; omega) (by have := HKK.out; omega) HXO.out HXB.out)
        obtain ⟨e0, e1, e2, e3, e4, e5⟩ := cells6 (HX.out.get 0 rfl).1
        go_wp2_with fail
        refine (cDo_st hT gs ds js is (100 + 24 * k) 1 6 s x B1 x.data.length d1 _ (by have := HKK.out; omega) FS.out.so HXO.out (encQ_bytes HXB.out) (encQ_43 _) (((HX.out.copy 0 rfl).pers1 (R' := fun w' => Ints w' .u8 (.slice B1 x.data.length d1) x.data) (fun w' hi => hi.2)).sub (L' := intsR .u8 (.slice B1 x.data.length d1) x.data :: srvR gs ds js is 1 6 s (srvR gt dt jt it 1 6 t (persR (fun w' => (∀ j u, [Value.int .i64 x.op, .int .i64 x.region, .int .i64 x.index, .int .u64 x.token, .int .u32 x.seq, .slice B1 x.data.length d1][j]? = some u → w'.cell? ((ad.add (k * 6)).add j) = some u) ∧ Ints w' .u8 (.slice B1 x.data.length d1) x.data) :: rowsR 6 ReqR (.slice (some ad) n c) l :: persR (fun w => Sl w Any 1 A2 m (bs.map Value.bool)) :: L))) (by unfold srvR; (repeat (first | with_reducible exact Sub.refl _ | (with_reducible apply Sub.take; focus (repeat (first | with_reducible exact At.here | with_reducible apply At.there))) | with_reducible apply Sub.drop))))).mono ?_
        rintro e w6 ⟨V1, rfl, h⟩
        clear e0 e1 e2 e3 e4 e5 HX
        have HY := hide h
        clear h
        obtain ⟨e0, e1, e2, e3, e4, e5⟩ := cells6 (HY.out.get 9 rfl).1
        go_wp2_with fail
        refine (cDo_st hT gt dt jt it (100 + 47 * k + 23) 1 6 t x B1 x.data.length d1 _ (by have := HKK.out; omega) FT2.out.so HXO.out (encQ_bytes HXB.out) (encQ_43 _) (((HY.out.copy 9 rfl).pers1 (R' := fun w' => Ints w' .u8 (.slice B1 x.data.length d1) x.data) (fun w' hi => hi.2)).sub (L' := intsR .u8 (.slice B1 x.data.length d1) x.data :: srvR gt dt jt it 1 6 t (rowsR 1 LogR V1 (s.doO 1 6 x) :: srvR gs ds js is 1 6 (s.doS 1 6 x) (rowsR 6 ReqR (.slice (some ad) n c) l :: persR (fun w => Sl w Any 1 A2 m (bs.map Value.bool)) :: L))) (by unfold srvR; (repeat (first | with_reducible exact Sub.refl _ | (with_reducible apply Sub.take; focus (repeat (first | with_reducible exact At.here | with_reducible apply At.there))) | with_reducible apply Sub.drop))))).mono ?_
        rintro e w7 ⟨V2, rfl, h⟩
        clear e0 e1 e2 e3 e4 e5 HY
        rw [SA.out.1]
        rw [SA.out.2.1] at h
        have HZ := hide h
        clear h
        have hbb : (s.doE 1 6 x != s.doE 1 6 x) = false := by simp
        generalize s.doE 1 6 x = de at hbb ⊢
        go_wp2_with fail
        refine (sames_true V1 V2 (s.doO 1 6 x) _ (HZ.out.getRows 5 rfl) (HZ.out.getRows 0 rfl) HZ.out).mono ?_
        rintro e w8 ⟨rfl, h⟩
        have HW := hide (h.sub (L' := srvR gs ds js is 1 6 (s.doS 1 6 x) (srvR gt dt jt it 1 6 (t.doS 1 6 x) (rowsR 6 ReqR (.slice (some ad) n c) l :: persR (fun w => Sl w Any 1 A2 m (bs.map Value.bool)) :: L))) (by unfold srvR; (repeat (first | with_reducible exact Sub.refl _ | (with_reducible apply Sub.take; focus (repeat (first | with_reducible exact At.here | with_reducible apply At.there))) | with_reducible apply Sub.drop))))
        clear h HZ hbb
        go_wp2_with fail
        go_roundg (n - (k + 1))
        case measure => have := HG.out; omega
        case rel => exact ⟨k + 1, s.doS 1 6 x, t.doS 1 6 x, rfl, by omega, by go_num, SF.out.2.2.mono (by omega) (by omega), TF.out.2.2.mono (by omega) (by omega), SA.out.2.2, HW.out⟩
    · obtain rfl : k = n := by omega
      have h : St M0 wr (blkR gs 76 (srvC ds js is 1 6 s.dn) :: jR js ds s.J :: imgR is s.M :: dsR ds s.D :: blkR gt 76 (srvC dt jt it 1 6 t.dn) :: jR jt dt t.J :: imgR it t.M :: dsR dt t.D :: rowsR 6 ReqR (.slice A k c) l :: persR (fun w => Sl w Any 1 A2 m (bs.map Value.bool)) :: L) := h
      have H := hide h
      clear h
      go_wp2_with fail
      refine (cImage_q gs ds js is 1 6 s.dn _ (H.out.blk 0 rfl)).mono ?_
      rintro e w4 ⟨rfl, rfl⟩
      go_wp2_with fail
      refine (cImage_q gt dt jt it 1 6 t.dn _ (H.out.blk 4 rfl)).mono ?_
      rintro e w5 ⟨rfl, rfl⟩
      go_wp2_with fail
      refine (cImage_q gs ds js is 1 6 s.dn _ (H.out.blk 0 rfl)).mono ?_
      rintro e w6 ⟨rfl, rfl⟩
      go_wp2_with fail
      refine (pack_st is s.M _ FS.out.so.m.ok (H.out.sub (L' := imgR is s.M :: blkR gs 76 (srvC ds js is 1 6 s.dn) :: jR js ds s.J :: dsR ds s.D :: blkR gt 76 (srvC dt jt it 1 6 t.dn) :: jR jt dt t.J :: imgR it t.M :: dsR dt t.D :: L) (by (repeat (first | with_reducible exact Sub.refl _ | (with_reducible apply Sub.take; focus (repeat (first | with_reducible exact At.here | with_reducible apply At.there))) | with_reducible apply Sub.drop))))).mono ?_
      rintro e w7 ⟨v1, rfl, h⟩
      have H7 := hide h.ints
      clear h H
      go_wp2_with fail
      refine (cImage_q gt dt jt it 1 6 t.dn _ (H7.out.blk 5 rfl)).mono ?_
      rintro e w8 ⟨rfl, rfl⟩
      go_wp2_with fail
      refine (pack_st it t.M _ FT.out.so.m.ok (H7.out.sub (L' := imgR it t.M :: intsR .u8 v1 (packI s.M) :: L) (by (repeat (first | with_reducible exact Sub.refl _ | (with_reducible apply Sub.take; focus (repeat (first | with_reducible exact At.here | with_reducible apply At.there))) | with_reducible apply Sub.drop))))).mono ?_
      rintro e w9 ⟨v2, rfl, h⟩
      rw [HM.out] at h
      have H9 := hide h.ints
      clear h H7
      go_wp2_with fail
      refine (same_true v1 v2 _ _ (H9.out.get 2 rfl) (H9.out.get 0 rfl) H9.out).mono ?_
      rintro e wa ⟨rfl, h⟩
      have HA := hide h
      clear h H9
      go_wp2_with fail
      go_ret
      exact ⟨rfl, HA.out.tail.tail.tail⟩
end Go.Proofs.YtpaelngpmbeedaaDoor
