/- journal.scan. Printed by gen_ckk.py out of ckk.in. -/
import Derived.Test.YtpaelngpmbeedaaGreatDoorCkJZ
namespace Go.Proofs.YtpaelngpmbeedaaGreatDoor
open Go.RowKit Go.Shelf

/-! ### plain -/
def scanOk (p : PM) (q low ep : Int) : Bool := p.ok && !(p.q != q) && !decide (p.e < low) && !decide (p.e > ep)
def scanP (D : DS) (a : Int) (n : Nat) (first : Int) (k : Nat) : PM := recM D (a + 2 + (first + (k : Nat)) % (n : Nat))
def scanL (D : DS) (a : Int) (n : Nat) (first ep : Int) : Nat → Int → List RecJ → List RecJ
  | 0, _, acc => acc
  | f + 1, low, acc => if scanOk (scanP D a n first acc.length) (first + (acc.length : Nat)) low ep = true then scanL D a n first ep f (scanP D a n first acc.length).e (acc ++ [((scanP D a n first acc.length).e, (scanP D a n first acc.length).b)]) else acc
def JM.scan (J : JM) (D : DS) : List RecJ := scanL D J.at_ J.n J.first J.ep J.n J.low []
theorem scanL_go {D : DS} {a : Int} {n : Nat} {first ep : Int} {f : Nat} {low : Int} {acc : List RecJ} (h : scanOk (scanP D a n first acc.length) (first + (acc.length : Nat)) low ep = true) : scanL D a n first ep (f + 1) low acc = scanL D a n first ep f (scanP D a n first acc.length).e (acc ++ [((scanP D a n first acc.length).e, (scanP D a n first acc.length).b)]) := if_pos h
theorem scanL_no {D : DS} {a : Int} {n : Nat} {first ep : Int} {f : Nat} {low : Int} {acc : List RecJ} (h : scanOk (scanP D a n first acc.length) (first + (acc.length : Nat)) low ep = false) : scanL D a n first ep (f + 1) low acc = acc := if_neg (by rw [h]; exact Bool.false_ne_true)
theorem recJ_elem : ElemOf Tryz.prog 135 158 (.agg #[.int .u32 0, .slice none 0 0]) 2 32 := ⟨Tryz.underlying135, by kernel_rfl, by kernel_rfl, by omega⟩
theorem recJ_one (e : Int) (A : Option Addr) (n c : Nat) : ∀ u ∈ ([.int .u32 e, .slice A n c] : List Value), u.oneCell' = true := by
  intro u hu
  simp only [List.mem_cons, List.not_mem_nil, or_false] at hu
  rcases hu with rfl | rfl <;> rfl
theorem recJ_build (w : World) (e : Int) (A : Option Addr) (n c : Nat) : (Instr.buildSlice 135 1 #[(0, .agg #[.int .u32 e, .slice A n c])]).run Tryz.prog w = .ok (.slice (some ⟨w.heap.size, 0, none⟩) 1 1) (w.alloc (.cells #[.int .u32 e, .slice A n c] 158)) := by kernel_rfl
theorem sl_blkJ {w : World} {b : Nat} {t : TypeId} {cs : List Value} (h : Blk w b t cs.toArray) : Sl w Any cs.length (some ⟨b, 0, none⟩) 1 cs :=
  ⟨by simp, fun _ => ⟨_, rfl, trivial, h.lt, fun j u hu => by
    rw [show (⟨b, 0, none⟩ : Addr).add j = ⟨b, j, none⟩ by simp [Addr.add]; exact Eq.symm, h.cell]
    simpa using hu⟩⟩
theorem St.addJk {M0 : Imm} {w : World} {L : List Res} {g gd : Nat} {ja : Int} {jn k : Nat} {jf je jl : Int} {hl : List RecJ} {A : Option Addr} {c : Nat} (hk : k = hl.length) (h : St M0 w (blkR g 137 #[.pointer (some ⟨gd, 0, none⟩), .int .i64 ja, .int .i64 (jn : Nat), .int .u32 jf, .int .u32 je, .int .u32 jl, .slice A k c] :: growR 158 2 RecJR (.slice A k c) hl :: L)) : St M0 w (jR g gd ⟨ja, jn, jf, je, jl, hl⟩ :: L) := by subst hk; exact St.addStarJ h
set_option maxHeartbeats 8000000 in
set_option maxRecDepth 100000 in
theorem jScan_st {M0 : Imm} {L : List Res} (hT : Tbl M0) (g gd kk : Nat) (D : DS) (J : JM) (w : World) (hD : DsOk D kk) (hJ : JOk J) (h0 : J.held = []) (h : St M0 w (jR g gd J :: dsR gd D :: L)) :
    Calls Tryz.prog 72 #[.pointer (some ⟨g, 0, none⟩)] w fun e w' => e = .returned (.tuple #[]) ∧ St M0 w' (jR g gd { J with held := J.scan D } :: dsR gd D :: L) := by
  obtain ⟨A, c, h1⟩ := h.jO
  obtain ⟨ja, jn, jf, je, jl, hl2⟩ := J
  have h0 : hl2 = [] := h0
  subst h0
  have HJA := hide (show 0 ≤ ja ∧ ja ≤ 1000 from hJ.a0)
  have HJN := hide (show 1 ≤ jn ∧ jn ≤ 100 from hJ.n0)
  have HJF := hide (show 0 ≤ jf ∧ jf ≤ 4000000000 from hJ.f0)
  have HJE := hide (show 0 ≤ je ∧ je < 4294967296 from hJ.e0)
  have HJL := hide (show 0 ≤ jl ∧ jl < 4294967296 from hJ.l0)
  have HD := hide hD
  have E : Hid (JM.scan ⟨ja, jn, jf, je, jl, []⟩ D = scanL D ja jn jf je jn jl []) := rfl
  have h1 : St M0 w (blkR g 137 #[.pointer (some ⟨gd, 0, none⟩), .int .i64 ja, .int .i64 (jn : Nat), .int .u32 jf, .int .u32 je, .int .u32 jl, .slice A 0 c] :: growR 158 2 RecJR (.slice A 0 c) [] :: dsR gd D :: L) := h1
  have c5 := (h1.blk 0 rfl).cell 5
  have H := hide h1
  clear h h1 hJ hD
  obtain ⟨R, hR⟩ : ∃ R, R = scanL D ja jn jf je jn jl [] := ⟨_, rfl⟩
  have HR := hide hR
  rw [← hR] at E
  clear hR
  go_enter Tryz.func72, Tryz.ntmps72
  go_wp2_with fail
  go_step3
  go_wp2_with fail
  go_step3
  go_wp2_with fail
  clear c5
  go_loopg [2] jn (fun gh lv wr => ∃ (k : Nat) (low : Int) (A : Option Addr) (c : Nat) (acc : List RecJ), gh = jn - k ∧ k ≤ jn ∧ lv = .int .u32 low ∧ k = acc.length ∧ scanL D ja jn jf je (jn - k) low acc = R ∧ (0 ≤ low ∧ low < 4294967296) ∧ St M0 wr (blkR g 137 #[.pointer (some ⟨gd, 0, none⟩), .int .i64 ja, .int .i64 (jn : Nat), .int .u32 jf, .int .u32 je, .int .u32 jl, .slice A k c] :: growR 158 2 RecJR (.slice A k c) acc :: dsR gd D :: L))
  case atStart => exact ⟨0, jl, A, c, [], rfl, by omega, rfl, rfl, by rw [HR.out]; rfl, HJL.out, H.out⟩
  case round =>
    clear H
    obtain ⟨k, low, A, c, acc, hg, hk, rfl, hka, hsc, hlow, h⟩ := hrel
    have HG := hide hg
    have HK := hide hka
    have HSC := hide hsc
    have HLW := hide hlow
    have hn100 : jn ≤ 100 := HJN.out.2
    have hjf : 0 ≤ jf ∧ jf ≤ 4000000000 := HJF.out
    have c2 := (h.blk 0 rfl).cell 2
    have c6 := (h.blk 0 rfl).cell 6
    have HNX := hide (fun n => next_q g gd ja jn jf je jl A k c (wr.drewN n) (by omega) (by omega) ((h.blk 0 rfl).drewN n))
    have H1 := hide h
    clear hg hka hsc hlow h
    by_cases hlt : k < jn
    · have d0 : decide ((k : Int) < (jn : Int)) = true := decide_eq_true (by omega)
      have d0n : decide (k < jn) = true := decide_eq_true hlt
      have d1 : decide (jf + (k : Int) ≤ 4294967295) = true := decide_eq_true (by omega)
      go_wp2_with fail
      go_quiet ((go_at_call 93; exact Calls.quiet_of (HNX.out _)))
      go_wp2_with fail
      have h0 := (H1.out.drewN nq).sub (L' := blkR g 137 #[.pointer (some ⟨gd, 0, none⟩), .int .i64 ja, .int .i64 (jn : Nat), .int .u32 jf, .int .u32 je, .int .u32 jl, .slice A k c] :: dsR gd D :: growR 158 2 RecJR (.slice A k c) acc :: L) (by (repeat (first | with_reducible exact Sub.refl _ | (with_reducible apply Sub.take; focus (repeat (first | with_reducible exact At.here | with_reducible apply At.there))) | with_reducible apply Sub.drop)))
      obtain ⟨q, hq⟩ : ∃ q, q = jf + (k : Int) := ⟨_, rfl⟩
      obtain ⟨ix, hix⟩ : ∃ ix, ix = ja + 2 + q % (jn : Nat) := ⟨_, rfl⟩
      obtain ⟨rd, hrd⟩ : ∃ rd, rd = D.read ix := ⟨_, rfl⟩
      obtain ⟨rl, hrl⟩ : ∃ rl, rl = rd.length := ⟨_, rfl⟩
      obtain ⟨re, hre⟩ : ∃ re, re = D.readE ix := ⟨_, rfl⟩
      have hqr : 0 ≤ q ∧ q < 4294967296 := by omega
      have wq : IntKind.u32.wrap q = q := u64_u32 hqr
      have HQ := hide hq
      have HIX := hide hix
      have HRD := hide hrd
      have HRL := hide hrl
      have HRE := hide hre
      have hsp : scanP D ja jn jf acc.length = recM D ix := by rw [hix, hq, ← HK.out]; rfl
      have hrdb : Bytes rd := by rw [hrd]; exact DS.read_bytes HD.out.b ix
      have hrd64 : rd.length ≤ 64 := by rw [hrd]; exact DS.read_len D ix
      have hpe : recM D ix = parseM rd := by rw [hrd]; rfl
      have HSG := hide (scanL_go (D := D) (a := ja) (n := jn) (first := jf) (ep := je) (f := jn - k - 1) (low := low) (acc := acc))
      have HSN := hide (scanL_no (D := D) (a := ja) (n := jn) (first := jf) (ep := je) (f := jn - k - 1) (low := low) (acc := acc))
      rw [hsp, ← HK.out, ← hq, show jn - k - 1 + 1 = jn - k by omega, HSC.out] at HSG HSN
      have HRB := hide hrdb
      have HR64 := hide hrd64
      have HPE := hide hpe
      clear H1 HNX c2 c6 d0 d0n d1 hq hix hrd hrl hre hsp hrdb hrd64 hpe HSC
      refine region_flow (M0 := M0) (L0 := growR 158 2 RecJR (.slice A k c) acc :: L) [⟨none, none, fun e => blkR g 137 #[.pointer (some ⟨gd, 0, none⟩), .int .i64 ja, .int .i64 (jn : Nat), .int .u32 jf, .int .u32 je, .int .u32 jl, .slice A k c]⟩, ⟨none, none, fun e => dsR gd D⟩, ⟨some 9, none, fun e => intsR .u8 (.slice (e 9).A rl (e 9).n) rd⟩] [[], [0], [0, 1], [0, 1, 2], [], [], [5], [5, 6], [4, 5, 6, 7], [0, 1, 2, 3, 4, 5, 6, 7, 8], [0, 1, 2, 3, 4, 5, 6, 7, 8, 9], [0, 1, 2, 3, 4, 5, 6, 7, 8, 9, 10], [0, 1, 2, 3, 4, 5, 6, 7, 8, 9, 10], [0, 1, 2, 3, 4, 5, 6, 7, 8, 9, 10, 11], [0, 1, 2, 3, 4, 5, 6, 7, 8, 9, 10, 11, 12, 13]] [0, 1, 2, 3, 4, 5, 6, 7, 8, 9, 10, 11, 12, 13, 14] rfl (by kernel_rfl) (by kernel_rfl) (by kernel_rfl) (by rfl) (fun _ => rfl) (show St M0 _ (blkR g 137 #[.pointer (some ⟨gd, 0, none⟩), .int .i64 ja, .int .i64 (jn : Nat), .int .u32 jf, .int .u32 je, .int .u32 jl, .slice A k c] :: dsR gd D :: growR 158 2 RecJR (.slice A k c) acc :: L) from h0) ?_
      refine flow_run _ rfl (fun _ => rfl) (fun e wx Lx h => by (go_simp; try rfl)) (by intro e; rfl) (by intro e; rfl) (by intro e x; rfl) ?_
      (simp only [Act.put, List.setIfInBounds_toArray, List.set_cons_succ, List.set_cons_zero])
      refine flow_run _ rfl (fun _ => rfl) (fun e wx Lx h => by (go_simp; try rfl)) (by intro e; rfl) (by intro e; rfl) (by intro e x; rfl) ?_
      (simp only [Act.put, List.setIfInBounds_toArray, List.set_cons_succ, List.set_cons_zero])
      refine flow_run _ rfl (fun _ => rfl) (fun e wx Lx h => by (go_simp; try rfl)) (by intro e; rfl) (by intro e; rfl) (by intro e x; rfl) ?_
      (simp only [Act.put, List.setIfInBounds_toArray, List.set_cons_succ, List.set_cons_zero])
      refine flow_run _ rfl (fun _ => rfl) (fun e wx Lx h => by (have h : St M0 wx (blkR g 137 #[.pointer (some ⟨gd, 0, none⟩), .int .i64 ja, .int .i64 (jn : Nat), .int .u32 jf, .int .u32 je, .int .u32 jl, .slice A k c] :: dsR gd D :: Lx) := h; have y0 := (h.blkA (g := g) (t := 137) (cs := #[.pointer (some ⟨gd, 0, none⟩), .int .i64 ja, .int .i64 (jn : Nat), .int .u32 jf, .int .u32 je, .int .u32 jl, .slice A k c]) (by (repeat (first | with_reducible exact At.here | with_reducible apply At.there)))).cell 0; go_simp; try rfl)) (by intro e; rfl) (by intro e; rfl) (by intro e x; rfl) ?_
      (simp only [Act.put, List.setIfInBounds_toArray, List.set_cons_succ, List.set_cons_zero])
      refine flow_run _ rfl (fun _ => rfl) (fun e wx Lx h => by (go_simp; try rfl)) (by intro e; rfl) (by intro e; rfl) (by intro e x; rfl) ?_
      (simp only [Act.put, List.setIfInBounds_toArray, List.set_cons_succ, List.set_cons_zero])
      refine flow_run _ rfl (fun _ => rfl) (fun e wx Lx h => by (go_simp; try rfl)) (by intro e; rfl) (by intro e; rfl) (by intro e x; rfl) ?_
      (simp only [Act.put, List.setIfInBounds_toArray, List.set_cons_succ, List.set_cons_zero])
      refine flow_call 93 (fun e => #[.pointer (some ⟨g, 0, none⟩)]) (fun e => .int .u64 q) rfl (fun _ => rfl) (by intro e; rfl) (fun e wx => by (go_simp; try rfl)) (fun e wx Lx h => by (
        have h : St M0 wx (blkR g 137 #[.pointer (some ⟨gd, 0, none⟩), .int .i64 ja, .int .i64 (jn : Nat), .int .u32 jf, .int .u32 je, .int .u32 jl, .slice A k c] :: dsR gd D :: Lx) := h
        refine (next_q g gd ja jn jf je jl A k c _ (by omega) (by omega) (h.blkA (g := g) (t := 137) (cs := #[.pointer (some ⟨gd, 0, none⟩), .int .i64 ja, .int .i64 (jn : Nat), .int .u32 jf, .int .u32 je, .int .u32 jl, .slice A k c]) (by (repeat (first | with_reducible exact At.here | with_reducible apply At.there))))).mono ?_
        rintro u wy ⟨rfl, nn, hw⟩
        rw [← HQ.out]
        have hk : St M0 wy (blkR g 137 #[.pointer (some ⟨gd, 0, none⟩), .int .i64 ja, .int .i64 (jn : Nat), .int .u32 jf, .int .u32 je, .int .u32 jl, .slice A k c] :: dsR gd D :: Lx) := (by rw [hw]; exact (h.drewN nn).sub (by (repeat (first | with_reducible exact Sub.refl _ | (with_reducible apply Sub.take; focus (repeat (first | with_reducible exact At.here | with_reducible apply At.there))) | with_reducible apply Sub.drop))))
        exact ⟨⟨none, 0, default⟩, rfl, hk⟩)) ?_
      (simp only [Act.put, List.setIfInBounds_toArray, List.set_cons_succ, List.set_cons_zero])
      refine flow_run (fun e => .int .u32 q) rfl (fun _ => rfl) (fun e wx Lx h => by (go_simp; try rfl)) (by intro e; rfl) (by intro e; rfl) (by intro e x; rfl) ?_
      (simp only [Act.put, List.setIfInBounds_toArray, List.set_cons_succ, List.set_cons_zero])
      refine flow_call 94 (fun e => #[.pointer (some ⟨g, 0, none⟩), .int .u32 q]) (fun e => .int .i64 ix) rfl (fun _ => rfl) (by intro e; rfl) (fun e wx => by (go_simp; try rfl)) (fun e wx Lx h => by (
        have h : St M0 wx (blkR g 137 #[.pointer (some ⟨gd, 0, none⟩), .int .i64 ja, .int .i64 (jn : Nat), .int .u32 jf, .int .u32 je, .int .u32 jl, .slice A k c] :: dsR gd D :: Lx) := h
        refine (sector_q g gd ja jn jf je jl q A k c _ (by omega) HJA.out HJN.out (h.blkA (g := g) (t := 137) (cs := #[.pointer (some ⟨gd, 0, none⟩), .int .i64 ja, .int .i64 (jn : Nat), .int .u32 jf, .int .u32 je, .int .u32 jl, .slice A k c]) (by (repeat (first | with_reducible exact At.here | with_reducible apply At.there))))).mono ?_
        rintro u wy ⟨rfl, nn, hw⟩
        rw [← HIX.out]
        have hk : St M0 wy (blkR g 137 #[.pointer (some ⟨gd, 0, none⟩), .int .i64 ja, .int .i64 (jn : Nat), .int .u32 jf, .int .u32 je, .int .u32 jl, .slice A k c] :: dsR gd D :: Lx) := (by rw [hw]; exact (h.drewN nn).sub (by (repeat (first | with_reducible exact Sub.refl _ | (with_reducible apply Sub.take; focus (repeat (first | with_reducible exact At.here | with_reducible apply At.there))) | with_reducible apply Sub.drop))))
        exact ⟨⟨none, 0, default⟩, rfl, hk⟩)) ?_
      (simp only [Act.put, List.setIfInBounds_toArray, List.set_cons_succ, List.set_cons_zero])
      refine flow_call 98 (fun e => #[.pointer (some ⟨gd, 0, none⟩), .int .i64 ix]) (fun e => .tuple #[.slice (e 9).A rl (e 9).n, .int .i64 re]) rfl (fun _ => rfl) (by intro e; rfl) (fun e wx => by (go_simp; try rfl)) (fun e wx Lx h => by (
        have h : St M0 wx (blkR g 137 #[.pointer (some ⟨gd, 0, none⟩), .int .i64 ja, .int .i64 (jn : Nat), .int .u32 jf, .int .u32 je, .int .u32 jl, .slice A k c] :: dsR gd D :: Lx) := h
        refine (read_ints ix HD.out.ok (h.front (X := dsR gd D) (by (repeat (first | with_reducible exact At.here | with_reducible apply At.there))))).mono ?_
        rintro u wy ⟨A', c', rfl, h1⟩
        rw [← HRD.out, ← HRL.out] at h1
        rw [← HRD.out, ← HRL.out, ← HRE.out]
        have hk : St M0 wy (blkR g 137 #[.pointer (some ⟨gd, 0, none⟩), .int .i64 ja, .int .i64 (jn : Nat), .int .u32 jf, .int .u32 je, .int .u32 jl, .slice A k c] :: dsR gd D :: intsR .u8 (.slice A' rl c') rd :: Lx) := h1.sub (by (repeat (first | with_reducible exact Sub.refl _ | (with_reducible apply Sub.take; focus (repeat (first | with_reducible exact At.here | with_reducible apply At.there))) | with_reducible apply Sub.drop)))
        exact ⟨⟨A', c', default⟩, rfl, hk⟩)) ?_
      (simp only [Act.put, List.setIfInBounds_toArray, List.set_cons_succ, List.set_cons_zero])
      refine flow_run _ rfl (fun _ => rfl) (fun e wx Lx h => by (go_simp; try rfl)) (by intro e; rfl) (by intro e; rfl) (by intro e x; rfl) ?_
      (simp only [Act.put, List.setIfInBounds_toArray, List.set_cons_succ, List.set_cons_zero])
      refine flow_run _ rfl (fun _ => rfl) (fun e wx Lx h => by (go_simp; try rfl)) (by intro e; rfl) (by intro e; rfl) (by intro e x; rfl) ?_
      (simp only [Act.put, List.setIfInBounds_toArray, List.set_cons_succ, List.set_cons_zero])
      refine flow_run _ rfl (fun _ => rfl) (fun e wx Lx h => by (go_simp; try rfl)) (by intro e; rfl) (by intro e; rfl) (by intro e x; rfl) ?_
      (simp only [Act.put, List.setIfInBounds_toArray, List.set_cons_succ, List.set_cons_zero])
      refine flow_run _ rfl (fun _ => rfl) (fun e wx Lx h => by (go_simp; try rfl)) (by intro e; rfl) (by intro e; rfl) (by intro e x; rfl) ?_
      (simp only [Act.put, List.setIfInBounds_toArray, List.set_cons_succ, List.set_cons_zero])
      refine flow_run _ rfl (fun _ => rfl) (fun e wx Lx h => by (go_simp; try rfl)) (by intro e; rfl) (by intro e; rfl) (by intro e x; rfl) ?_
      (simp only [Act.put, List.setIfInBounds_toArray, List.set_cons_succ, List.set_cons_zero])
      refine flow_nil ?_
      intro e w1 h
      have h : St M0 w1 (blkR g 137 #[.pointer (some ⟨gd, 0, none⟩), .int .i64 ja, .int .i64 (jn : Nat), .int .u32 jf, .int .u32 je, .int .u32 jl, .slice A k c] :: dsR gd D :: intsR .u8 (.slice (e 9).A rl (e 9).n) rd :: growR 158 2 RecJR (.slice A k c) acc :: L) := h
      obtain ⟨A9, hA9⟩ : ∃ A9, (e 9).A = A9 := ⟨_, rfl⟩
      obtain ⟨c9, hc9⟩ : ∃ c9, (e 9).n = c9 := ⟨_, rfl⟩
      rw [hA9, hc9] at h
      have H3 := hide (h.sub (L' := intsR .u8 (.slice A9 rl c9) rd :: blkR g 137 #[.pointer (some ⟨gd, 0, none⟩), .int .i64 ja, .int .i64 (jn : Nat), .int .u32 jf, .int .u32 je, .int .u32 jl, .slice A k c] :: dsR gd D :: growR 158 2 RecJR (.slice A k c) acc :: L) (by (repeat (first | with_reducible exact Sub.refl _ | (with_reducible apply Sub.take; focus (repeat (first | with_reducible exact At.here | with_reducible apply At.there))) | with_reducible apply Sub.drop))))
      clear h h0
      go_wp2_with fail
      rw [hA9, hc9]
      clear hA9 hc9
      refine (parse_st hT A9 rl c9 rd _ HRB.out (by have := HR64.out; omega) H3.out).mono ?_
      rintro e w5 ⟨A2, c2, rfl, h⟩
      have PR := hide (parseM_range HRB.out)
      have PB := hide (parseM_bytes HRB.out)
      rw [← HPE.out] at h PR PB ⊢
      generalize recM D ix = p at *
      obtain ⟨pq, pe, pb, pok⟩ := p
      have PR : Hid (0 ≤ pq ∧ pq < 4294967296 ∧ 0 ≤ pe ∧ pe < 4294967296 ∧ pb.length ≤ 43) := PR
      have PB : Hid (Bytes pb) := PB
      have HSG : Hid ((pok && !(pq != q) && !decide (pe < low) && !decide (pe > je)) = true → R = scanL D ja jn jf je (jn - k - 1) pe (acc ++ [(pe, pb)])) := HSG
      have HSN : Hid ((pok && !(pq != q) && !decide (pe < low) && !decide (pe > je)) = false → R = acc) := HSN
      have HBL := hide ((h.blkA (g := g) (t := 137) (cs := #[.pointer (some ⟨gd, 0, none⟩), .int .i64 ja, .int .i64 (jn : Nat), .int .u32 jf, .int .u32 je, .int .u32 jl, .slice A k c]) (by (repeat (first | with_reducible exact At.here | with_reducible apply At.there)))))
      have c4 := HBL.out.cell 4
      have HNX := hide (next_q g gd ja jn jf je jl A k c _ (by omega) (by omega) HBL.out)
      have h5 := (h.front (X := intsR .u8 (.slice A2 pb.length c2) pb) (by (repeat (first | with_reducible exact At.here | with_reducible apply At.there)))).pers1 (R' := fun w => RecJR w [.int .u32 pe, .slice A2 pb.length c2] (pe, pb)) (fun w' hi => ⟨A2, c2, rfl, hi⟩)
      have H5 := hide (h5.sub (L' := growR 158 2 RecJR (.slice A k c) acc :: persR (fun w => RecJR w [.int .u32 pe, .slice A2 pb.length c2] (pe, pb)) :: blkR g 137 #[.pointer (some ⟨gd, 0, none⟩), .int .i64 ja, .int .i64 (jn : Nat), .int .u32 jf, .int .u32 je, .int .u32 jl, .slice A k c] :: dsR gd D :: L) (by (repeat (first | with_reducible exact Sub.refl _ | (with_reducible apply Sub.take; focus (repeat (first | with_reducible exact At.here | with_reducible apply At.there))) | with_reducible apply Sub.drop))))
      clear h5
      have w7 : IntKind.u64.wrap pq = pq := u32_u64 (by have := PR.out; omega)
      clear h H3 HPE HRB HR64
      have hqe : jf + (k : Int) = q := HQ.out.symm
      rw [hqe] at HNX
      obtain ⟨t2, ht2⟩ : ∃ t2, (pq != q) = t2 := ⟨_, rfl⟩
      obtain ⟨t3, ht3⟩ : ∃ t3, decide (pe < low) = t3 := ⟨_, rfl⟩
      obtain ⟨t4, ht4⟩ : ∃ t4, decide (pe > je) = t4 := ⟨_, rfl⟩
      have ht4' : decide (je < pe) = t4 := ht4
      rw [ht2, ht3, ht4] at HSG HSN
      clear hqe
      cases pok
      case' true => cases t2
      case' true.true => skip
      case' true.false => cases t3
      case' true.false.true => skip
      case' true.false.false => cases t4
      case true.false.false.false =>
        have HS := hide (HSG.out rfl)
        have HB2 := hide (show ∀ n, Blk (w5.drewN n) g 137 #[.pointer (some ⟨gd, 0, none⟩), .int .i64 ja, .int .i64 (jn : Nat), .int .u32 jf, .int .u32 je, .int .u32 jl, .slice A k c] from fun n => HBL.out.drewN n)
        go_wp2_with (first | (go_at_call 93; refine HNX.out.mono ?_; rintro e w6 ⟨rfl, nn, rfl⟩; clear c4; have d4 := (HB2.out nn).cell 4; have h7 := (H5.out.drewN nn).alloc 158 #[.int .u32 pe, .slice A2 pb.length c2]; have d6 := (h7.blkA (g := g) (t := 137) (cs := #[.pointer (some ⟨gd, 0, none⟩), .int .i64 ja, .int .i64 (jn : Nat), .int .u32 jf, .int .u32 je, .int .u32 jl, .slice A k c]) (by (repeat (first | with_reducible exact At.here | with_reducible apply At.there)))).cell 6; have d6' := (HB2.out nn).cell 6; have H7 := hide h7; clear h7 H5) | (at_builtin; have hz := sl_blkJ (cs := [.int .u32 pe, .slice A2 pb.length c2]) (H7.out.blk 0 rfl); obtain ⟨vs, hq1, hv1, h8⟩ := H7.out.tail.openGrowS; refine St.app_step recJ_elem h8 rfl _ _ rfl rfl (some ⟨_, 0, none⟩) 1 1 rfl [.int .u32 pe, .slice A2 pb.length c2] hz (recJ_one _ _ _ _) (by omega) (by omega) ?_; intro A7 c7 w7 h9; have h10 := h9.snocGrow hq1 rfl hv1; have f := (h10.blk 1 rfl).frozen; have x6 := (h10.blk 1 rfl).cell 6; have h11 := (h10.swap).put_ 6 (.slice A7 (k + 1) c7) #[.pointer (some ⟨gd, 0, none⟩), .int .i64 ja, .int .i64 (jn : Nat), .int .u32 jf, .int .u32 je, .int .u32 jl, .slice A7 (k + 1) c7]; have H11 := hide h11; clear hz h8 h9 h10 h11 H7 hq1 hv1 d4 d6 d6'))
        go_roundg (jn - (k + 1))
        case rel => exact ⟨k + 1, pe, A7, c7, acc ++ [(pe, pb)], rfl, by omega, rfl, by rw [List.length_append, ← HK.out]; rfl, by rw [show jn - (k + 1) = jn - k - 1 by omega]; exact HS.out.symm, ⟨PR.out.2.2.1, PR.out.2.2.2.1⟩, H11.out⟩
        case measure => have hgk := HG.out; omega
      all_goals
        have HS := hide (HSN.out rfl)
        have HB2 := hide (show ∀ n, Blk (w5.drewN n) g 137 #[.pointer (some ⟨gd, 0, none⟩), .int .i64 ja, .int .i64 (jn : Nat), .int .u32 jf, .int .u32 je, .int .u32 jl, .slice A k c] from fun n => HBL.out.drewN n)
        have H6 := hide (show St M0 w5 (growR 158 2 RecJR (.slice A k c) acc :: blkR g 137 #[.pointer (some ⟨gd, 0, none⟩), .int .i64 ja, .int .i64 (jn : Nat), .int .u32 jf, .int .u32 je, .int .u32 jl, .slice A k c] :: dsR gd D :: L) from H5.out.sub (by (repeat (first | with_reducible exact Sub.refl _ | (with_reducible apply Sub.take; focus (repeat (first | with_reducible exact At.here | with_reducible apply At.there))) | with_reducible apply Sub.drop))))
        go_wp2_with (go_at_call 93; refine HNX.out.mono ?_; rintro e w6 ⟨rfl, nn, rfl⟩; clear c4; have d4 := (HB2.out nn).cell 4; have H7 := hide (H6.out.drewN nn); clear H6; have H6 := H7; clear H7)
        rw [Exit.noGoto_normal]
        go_end0
        rw [E.out, HS.out]
        exact ⟨rfl, by have h9 := H6.out; rw [HK.out] at h9; exact St.addStarJ (h9.sub (L' := blkR g 137 #[.pointer (some ⟨gd, 0, none⟩), .int .i64 ja, .int .i64 (jn : Nat), .int .u32 jf, .int .u32 je, .int .u32 jl, .slice A acc.length c] :: growR 158 2 RecJR (.slice A acc.length c) acc :: dsR gd D :: L) (by (repeat (first | with_reducible exact Sub.refl _ | (with_reducible apply Sub.take; focus (repeat (first | with_reducible exact At.here | with_reducible apply At.there))) | with_reducible apply Sub.drop))))⟩
    · obtain rfl : k = jn := by omega
      have hz : scanL D ja k jf je (k - k) low acc = acc := by rw [Nat.sub_self]; rfl
      have HS := hide (HSC.out.symm.trans hz)
      have d0 : decide ((k : Int) < (k : Int)) = false := decide_eq_false (by omega)
      have d0n : decide (k < k) = false := decide_eq_false hlt
      clear hz hlt
      go_wp2_with fail
      go_quiet ((go_at_call 93; exact Calls.quiet_of (HNX.out _)))
      go_wp2_with fail
      rw [Exit.noGoto_normal]
      go_end0
      rw [E.out, HS.out]
      exact ⟨rfl, St.addJk HK.out (H1.out.drewN nq)⟩
end Go.Proofs.YtpaelngpmbeedaaGreatDoor
