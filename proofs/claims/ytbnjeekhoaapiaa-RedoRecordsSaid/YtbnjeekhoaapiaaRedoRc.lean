/- Redo: RedoRecords. -/
import Derived.Test.YtbnjeekhoaapiaaRedoAk
import Derived.Deep.DeepCutAuto
namespace Go.Proofs.Ytbnjeekhoaapiaa
open Go.RowKit

theorem put1 {M0 : Imm} {w : World} {L : List Res} {r i : Int} {A : Option Addr} {n c : Nat} {d : List Int} (t : TypeId) (h : St M0 w (intsR .u8 (.slice A n c) d :: L)) (g : Nat) (hg : g = w.heap.size := by rfl) :
    St M0 (w.alloc (.cells #[.int .i64 r, .int .i64 i, .slice A n c] t)) (rowsR 3 PutR (.slice (some ⟨g, 0, none⟩) 1 1) [⟨r, i, d⟩] :: L) :=
  (h.pers1 (R' := fun w' => ∀ p ∈ [([.int .i64 r, .int .i64 i, .slice A n c], (⟨r, i, d⟩ : PU))], PutR w' p.1 p.2) (fun w' ha p hp => by simp at hp; subst hp; exact ⟨_, rfl, ha⟩)).litFlat (size := 3) _ t (by simp) (by simp) g hg
/-- the one element -/
theorem St.one {M0 : Imm} {w : World} {L : List Res} {e : TypeId} {v : Value} {p : PU} (h : St M0 w (growR e 3 PutR v [p] :: L)) : ∃ ad n c X xc, v = .slice (some ad) n c ∧ n = 1 ∧ w.cell? ad = some (.int .i64 p.region) ∧ w.cell? ⟨ad.block, ad.off + 1, none⟩ = some (.int .i64 p.index) ∧ w.cell? ⟨ad.block, ad.off + 2, none⟩ = some (.slice X p.data.length xc) ∧ St M0 w (intsR .u8 (.slice X p.data.length xc) p.data :: L) := by
  have h1 := h.rowsGrow
  obtain ⟨A, c, rfl, _, _⟩ := (h1.getRows 0 rfl).slice
  obtain ⟨ad, cs, rfl, _, hcs, ⟨v, rfl, hv⟩, h2⟩ := h1.elem 0 rfl (k := 0) (x := p) rfl
  obtain ⟨X, xc, rfl, _, _, _⟩ := id hv
  obtain ⟨e0, e1, e2⟩ := cells3 hcs
  refine ⟨ad, _, c, X, xc, rfl, rfl, by simpa [Addr.add] using e0, by simpa [Addr.add] using e1, by simpa [Addr.add] using e2, ?_⟩
  exact (h2.pers1 (R' := fun w' => Ints w' .u8 (.slice X p.data.length xc) p.data) (fun w' hr => by obtain ⟨v, e, hi⟩ := hr.2; injection e with _ e; injection e with _ e; injection e with e; subst e; exact hi)).del1

theorem recB_bytes (p : PU) (h : Bytes p.data) : Bytes (recB p) ∧ (recB p).length ≤ 24 := by
  by_cases he : recE p = 0
  · rw [recE_recB p he]
    obtain ⟨h1, h2, h3⟩ := recE_data p he
    refine ⟨fun x hx => ?_, by simp; omega⟩
    rcases List.mem_cons.1 hx with rfl | hx
    · unfold isByte; omega
    · exact h x hx
  · unfold recB
    rw [if_neg he]
    exact ⟨fun x hx => absurd hx List.not_mem_nil, by simp⟩
theorem par_rec (p : PU) (he : recE p = 0) : parE (recB p) = 0 ∧ parP p.region (recB p) = p := by
  have h1 : parE (recB p) = 0 := by rw [recE_recB p he, ← rec_par p.region p.index p.data (recE_data p he).2.1]; exact he
  refine ⟨h1, ?_⟩
  rw [recE_recB p he] at h1 ⊢
  exact if_pos h1

set_option maxRecDepth 100000 in
set_option maxHeartbeats 4000000 in
theorem recs_st {M0 : Imm} (p : PU) (region : Int) (b : List Int) (A B : Option Addr) (n c m d : Nat) (w : World) (hp : Bytes p.data) (hb : Bytes b)
    (h : St M0 w [intsR .u8 (.slice A n c) p.data, intsR .u8 (.slice B m d) b]) :
    Calls Try.prog 6 #[putV p (.slice A n c), .int .i64 region, .slice B m d] w fun e w' => e = .returned (.bool true) ∧ ∃ L', St M0 w' L' := by
  obtain ⟨hm, _, _, _⟩ := (h.get 1 rfl).sl
  have HM := hide hm
  have HP := hide hp
  have HB := hide hb
  have H := hide (h.alloc 69 #[.int .i64 p.region, .int .i64 p.index, .slice A n c])
  obtain ⟨g, hg⟩ : ∃ g, g = w.heap.size := ⟨_, rfl⟩
  rw [← hg] at H
  clear h hp hb hm
  go_enter Try.func6, Try.ntmps6
  go_wp2_with fail
  rw [← hg]
  clear hg
  refine (rawake_st _ H.out).mono ?_
  rintro e w1 ⟨rfl, h⟩
  have hS := h
  clear H
  by_cases hbig : 100 < m
  · have d1 : decide ((100 : Int) < (m : Int)) = true := decide_eq_true (by omega)
    have H := hide h
    clear h hS hbig
    go_wp2_with fail
    go_ret
    exact ⟨rfl, _, H.out⟩
  have d1 : decide ((100 : Int) < (m : Int)) = false := decide_eq_false (by omega)
  have HL := hide (show b.length ≤ 100 by have := HM.out; omega)
  have y0 := (h.blk 0 rfl).cell 0
  have y1 := (h.blk 0 rfl).cell 1
  have y2 := (h.blk 0 rfl).cell 2
  have h1 := put1 (r := p.region) (i := p.index) 69 (h.copy 1 rfl) w1.heap.size
  have H1 := hide h1
  clear h h1 hS hbig
  go_wp2_with fail
  refine (puts_st [p] _ 1 1 _ (by simp) H1.out).mono ?_
  rintro e w2 ⟨v2, rfl, h⟩
  obtain ⟨a2, n2, c2, X2, xc2, rfl, rfl, e0, e1, e2, h2⟩ := h.one
  have h3 := (h2.pick (L' := intsR .u8 (.slice X2 p.data.length xc2) p.data :: blkR g 69 #[.int .i64 p.region, .int .i64 p.index, .slice A n c] :: intsR .u8 (.slice A n c) p.data :: intsR .u8 (.slice B m d) b :: []) 2 [0]).alloc 62 #[.int .i64 p.region, .int .i64 p.index, .slice X2 p.data.length xc2]
  have H3 := hide h3
  clear y0 y1 y2 H1 h h2 h3
  go_wp2_with fail
  refine (rec_st p X2 p.data.length xc2 _ (H3.out.copy 1 rfl)).mono ?_
  rintro e w3 ⟨v3, rfl, h⟩
  obtain ⟨A3, c3, rfl, _, _, _⟩ := h.get 0 rfl
  have y0 := (h.blk 3 rfl).cell 0
  have y1 := (h.blk 3 rfl).cell 1
  have y2 := (h.blk 3 rfl).cell 2
  have H4 := hide (put1 (r := p.region) (i := p.index) 69 (h.copy 4 rfl) w3.heap.size)
  obtain ⟨o, ho⟩ : ∃ o, o = w2.heap.size := ⟨_, rfl⟩
  rw [← ho] at h H4 ⊢
  clear H3 h e0 e1 e2 ho
  go_wp2_with fail
  refine (doc_st [p] _ 1 1 _ (by simp) H4.out).mono ?_
  rintro e w4 ⟨v4, rfl, h⟩
  obtain ⟨a4, n4, c4, X4, xc4, rfl, rfl, e0, e1, e2, h2⟩ := h.one
  have H5 := hide (h2.del1)
  clear y0 y1 y2 H4 h h2
  go_wp2_with fail
  refine (rrec_st p X4 p.data.length xc4 _ H5.out).mono ?_
  rintro e w5 ⟨v5, rfl, h⟩
  obtain ⟨A5, c5, rfl, _, _, _⟩ := h.get 0 rfl
  have H6 := hide h
  clear H5 h e0 e1 e2
  go_wp2_with fail
  refine (par_st region b B m d _ HB.out (by have := HL.out; omega) (H6.out.copy 6 rfl)).mono ?_
  rintro e w6 ⟨v6, rfl, h⟩
  obtain ⟨A6, c6, rfl, _, _, _⟩ := h.get 0 rfl
  have H7 := hide (h.alloc 62 #[.int .i64 (parP region b).region, .int .i64 (parP region b).index, .slice A6 (parP region b).data.length c6])
  clear H6 h
  go_wp2_with fail
  refine (rpar_st region b B m d _ HB.out (H7.out.copy 8 rfl)).mono ?_
  rintro e w7 ⟨v7, rfl, h⟩
  generalize parP region b = pq at *
  generalize parE b = pe at *
  obtain ⟨A7, c7, rfl, _, _, _⟩ := h.get 0 rfl
  have h8 := h.alloc 65 #[.int .i64 pq.region, .int .i64 pq.index, .slice A7 pq.data.length c7]
  have y0 := (h8.blk 8 rfl).cell 0
  have H8 := hide h8
  obtain ⟨q, hq⟩ : ∃ q, q = w6.heap.size := ⟨_, rfl⟩
  rw [← hq] at H8 ⊢
  obtain ⟨r, hr⟩ : ∃ r, r = w7.heap.size := ⟨_, rfl⟩
  clear H7 h hq h8
  go_wp2_with fail
  refine (par_st p.region (recB p) A3 (recB p).length c3 _ (recB_bytes p HP.out).1 (by have := (recB_bytes p HP.out).2; omega) (H8.out.copy 5 rfl)).mono ?_
  rintro e w8 ⟨v8, rfl, h⟩
  have HPR := hide (par_rec p)
  have HRE := hide (show recE p = 0 ∨ recE p ≠ 0 by omega)
  generalize parP p.region (recB p) = bk at *
  generalize parE (recB p) = be at *
  generalize recB p = rb at *
  generalize recE p = re at *
  obtain ⟨A8, c8, rfl, _, _, _⟩ := h.get 0 rfl
  have h9 := h.alloc 62 #[.int .i64 bk.region, .int .i64 bk.index, .slice A8 bk.data.length c8]
  rw [← hr] at h9 ⊢
  have H9 := hide h9
  clear H8 h h9 hr y0
  have b1 : (re != re) = false := isNF rfl
  have b2 : (pe != pe) = false := isNF rfl
  go_upto_region 10 with (fail)
  go_cut [101] (fun t wx => t = .bool false ∧ ∃ L', St M0 wx (blkR w8.heap.size 62 #[.int .i64 bk.region, .int .i64 bk.index, .slice A8 bk.data.length c8] :: intsR .u8 (.slice A8 bk.data.length c8) bk.data :: blkR o 62 #[.int .i64 p.region, .int .i64 p.index, .slice X2 p.data.length xc2] :: blkR g 69 #[.int .i64 p.region, .int .i64 p.index, .slice A n c] :: intsR .u8 (.slice A n c) p.data :: L'))
  case first =>
    go_wp2_with fail
    refine (same_true _ _ rb _ (H9.out.get 7 rfl) (H9.out.get 6 rfl) H9.out).mono ?_
    rintro e w9 ⟨rfl, h⟩
    have z0 := (h.blk 4 rfl).cell 0
    have z1 := (h.blk 4 rfl).cell 1
    have z2 := (h.blk 4 rfl).cell 2
    have u0 := (h.blk 2 rfl).cell 0
    have u1 := (h.blk 2 rfl).cell 1
    have u2 := (h.blk 2 rfl).cell 2
    have b3 : (pq.region != pq.region) = false := isNF rfl
    have b4 : (pq.index != pq.index) = false := isNF rfl
    have H10 := hide h
    clear h H9
    go_wp2_with fail
    refine (same_true _ _ pq.data _ (H10.out.get 5 rfl) (H10.out.get 3 rfl) H10.out).mono ?_
    rintro e w10 ⟨rfl, h⟩
    have H11 := hide h
    clear h H10 z0 z1 z2 u0 u1 u2
    go_wp2_with fail
    go_meet
    exact ⟨rfl, _, H11.out.pick (L' := blkR w8.heap.size 62 #[.int .i64 bk.region, .int .i64 bk.index, .slice A8 bk.data.length c8] :: intsR .u8 (.slice A8 bk.data.length c8) bk.data :: blkR o 62 #[.int .i64 p.region, .int .i64 p.index, .slice X2 p.data.length xc2] :: blkR g 69 #[.int .i64 p.region, .int .i64 p.index, .slice A n c] :: intsR .u8 (.slice A n c) p.data :: []) 13 [0, 1, 8, 10, 11]⟩
  case rest =>
    obtain ⟨rfl, L', h⟩ := hcut
    obtain ⟨bb, hbb⟩ : ∃ bb, bb = w8.heap.size := ⟨_, rfl⟩
    rw [← hbb] at h ⊢
    have z0 := (h.blk 0 rfl).cell 0
    have z1 := (h.blk 0 rfl).cell 1
    have z2 := (h.blk 0 rfl).cell 2
    have u0 := (h.blk 2 rfl).cell 0
    have u1 := (h.blk 2 rfl).cell 1
    have y2 := (h.blk 3 rfl).cell 2
    have H := hide h
    clear H9 h hbb
    by_cases hre : re = 0
    · obtain ⟨rfl, rfl⟩ := HPR.out hre
      subst hre
      clear HPR HRE
      go_wp2_with fail
      refine (same_true _ _ bk.data _ (H.out.get 1 rfl) (H.out.get 4 rfl) H.out).mono ?_
      rintro e w10 ⟨rfl, h⟩
      have H11 := hide h
      clear h H z0 z1 z2 u0 u1 y2
      go_wp2_with fail
      go_ret
      exact ⟨rfl, _, H11.out⟩
    · have b3 : (re != 0) = true := isN hre
      clear HPR HRE hre
      go_wp2_with fail
      go_ret
      exact ⟨rfl, _, H.out⟩
end Go.Proofs.Ytbnjeekhoaapiaa
