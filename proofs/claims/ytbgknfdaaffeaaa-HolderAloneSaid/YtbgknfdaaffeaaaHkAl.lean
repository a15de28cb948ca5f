/- HolderAlone, the walk. -/
import Derived.Test.YtbgknfdaaffeaaaHkW
import Derived.Test.YtbgknfdaaffeaaaLkAl
import Derived.Deep.DeepCutAuto
import Derived.Deep.CutBlock
namespace Go.Proofs.Ytbgknfdaaffeaaa
open Go.RowKit Go.Shelf

structure StepM where
  d : Int
  c : Int
  r : Int
  m : Int
  n : Int
def StepR (_w : World) (cs : List Value) (o : StepM) : Prop := cs = [.int .i64 o.d, .int .i64 o.c, .int .i64 o.r, .int .i64 o.m, .int .i64 o.n]
theorem cells5S {w : World} {p : Addr} {a b c d e : Value} (h : ∀ j u, [a, b, c, d, e][j]? = some u → w.cell? (p.add j) = some u) : w.cell? p = some a ∧ w.cell? ⟨p.block, p.off + 1, none⟩ = some b ∧ w.cell? ⟨p.block, p.off + 2, none⟩ = some c ∧ w.cell? ⟨p.block, p.off + 3, none⟩ = some d ∧ w.cell? ⟨p.block, p.off + 4, none⟩ = some e :=
  ⟨by simpa [Addr.add] using h 0 a rfl, by simpa [Addr.add] using h 1 b rfl, by simpa [Addr.add] using h 2 c rfl, by simpa [Addr.add] using h 3 d rfl, by simpa [Addr.add] using h 4 e rfl⟩
def ckC (ck : Nat → Int) : Array Value := #[.int .u64 (ck 0), .int .u64 (ck 1), .int .u64 (ck 2), .int .u64 (ck 3)]
theorem ckC_at (ck : Nat → Int) {k : Nat} (hk : k < 4) : (ckC ck)[k]? = some (.int .u64 (ck k)) := by
  rcases lt4 hk with rfl | rfl | rfl | rfl <;> rfl
theorem ckC_set (ck : Nat → Int) {k : Nat} (hk : k < 4) (u : Int) : (ckC ck).setIfInBounds k (.int .u64 u) = ckC (upd ck k u) := by
  rcases lt4 hk with rfl | rfl | rfl | rfl <;> rfl
/-- what holds behind i things that happened -/
structure WInv (i : Nat) (T : TabM) (H : Nat → HS) (ck : Nat → Int) (now : Int) : Prop where
  ok : TabOk T
  k : KInv T H
  tn : T.now = now
  n0 : 0 ≤ now
  n1 : now ≤ 50 * (i : Int)
  c : ∀ c, c < 4 → 0 ≤ ck c ∧ ck c ≤ 50 * (i : Int)
theorem WInv.next {i : Nat} {T T' : TabM} {H H' : Nat → HS} {ck : Nat → Int} {now : Int} (h : WInv i T H ck now) (ok : TabOk T') (k : KInv T' H') (tn : T'.now = now) : WInv (i + 1) T' H' ck now :=
  ⟨ok, k, tn, h.n0, by have := h.n1; omega, fun c hc => by have := h.c c hc; omega⟩
set_option maxHeartbeats 8000000 in
set_option maxRecDepth 100000 in
theorem holdAlone_st {M0 : Imm} {L : List Res} (v : Value) (l : List StepM) (w : World) (h : St M0 w (rowsR 5 StepR v l :: L)) :
    Calls Try.prog 8 #[v] w fun e w' => e = .returned (.bool true) ∧ St M0 w' L := by
  obtain ⟨A, c, rfl, hc, hmx⟩ := (h.getRows 0 rfl).slice
  obtain ⟨n, hn⟩ : ∃ n, n = l.length := ⟨_, rfl⟩
  rw [← hn] at hc h ⊢
  have HN := hide hn
  have H0 := hide h
  clear h hn
  go_enter Try.func8, Try.ntmps8
  go_wp2_with fail
  refine (awakeK_st _ H0.out).mono ?_
  rintro e w1 ⟨rfl, h1⟩
  have h2 := (h1.newTab.alloc 99 (h4cells fun _ => hs0)).alloc 96 (ckC fun _ => 0)
  rw [World.size_alloc, World.size_alloc] at h2
  generalize hg : w1.heap.size = g at h2
  have HG0 := hide hg
  have H2 := hide h2
  clear h1 H0 h2 hg
  by_cases h100 : n ≤ 100
  · have d1 : decide ((n : Int) > 100) = false := decide_eq_false (by omega)
    have d1' : decide ((100 : Int) < (n : Int)) = false := d1
    go_wp2_with fail
    rw [HG0.out]
    obtain ⟨gh, hgh⟩ : ∃ gh, gh = g + 1 := ⟨_, rfl⟩
    obtain ⟨gc, hgc⟩ : ∃ gc, gc = g + 1 + 1 := ⟨_, rfl⟩
    have H3 := hide H2.out
    rw [← hgc, ← hgh] at H3 ⊢
    clear H2 hgh hgc HG0
    go_loopg [7, 8] n (fun gk nv iv wr => ∃ (i : Nat) (T : TabM) (H : Nat → HS) (ck : Nat → Int) (now : Int), gk = n - i ∧ i ≤ n ∧ nv = .int .u64 now ∧ iv = .int .i64 (i : Nat) ∧ WInv i T H ck now ∧ St M0 wr (tabR g T :: blkR gh 99 (h4cells H) :: blkR gc 96 (ckC ck) :: rowsR 5 StepR (.slice A n c) l :: L))
    case atStart => exact ⟨0, newT, fun _ => hs0, fun _ => 0, 0, rfl, by omega, rfl, rfl, ⟨newT_ok, .new newT_inv, rfl, by omega, by omega, fun _ _ => ⟨by omega, by omega⟩⟩, H3.out.sub (by (repeat (first | with_reducible exact Sub.refl _ | (with_reducible apply Sub.take; focus (repeat (first | with_reducible exact At.here | with_reducible apply At.there))) | with_reducible apply Sub.drop)))⟩
    case round =>
      clear H3
      obtain ⟨i, T, H, ck, now, hgk, hi, rfl, rfl, hinv, h⟩ := hrel
      have HG := hide hgk
      have HI := hide hinv
      clear hgk hinv
      by_cases hlt : i < n
      · have hx := List.getElem?_eq_getElem (l := l) (i := i) (by rw [← HN.out]; exact hlt)
        generalize l[i]'(by rw [← HN.out]; exact hlt) = x at hx
        obtain ⟨ad, cs, rfl, _, hcs, rfl, _⟩ := h.elem 3 rfl hx
        obtain ⟨e0, e1, e2, e3, e4⟩ := cells5S hcs
        obtain ⟨d, cI, rI, mI, nI⟩ := x
        have e0 : wr.cell? (ad.add (i * 5)) = some (.int .i64 d) := e0
        have e1 : wr.cell? ⟨(ad.add (i * 5)).block, (ad.add (i * 5)).off + 1, none⟩ = some (.int .i64 cI) := e1
        have e2 : wr.cell? ⟨(ad.add (i * 5)).block, (ad.add (i * 5)).off + 2, none⟩ = some (.int .i64 rI) := e2
        have e3 : wr.cell? ⟨(ad.add (i * 5)).block, (ad.add (i * 5)).off + 3, none⟩ = some (.int .i64 mI) := e3
        have e4 : wr.cell? ⟨(ad.add (i * 5)).block, (ad.add (i * 5)).off + 4, none⟩ = some (.int .i64 nI) := e4
        have i0 : (0 : Int) ≤ (i : Int) := by omega
        have i1 : (i : Int) < (n : Int) := by omega
        have h1 := h.alloc 101 #[.int .i64 d, .int .i64 cI, .int .i64 rI, .int .i64 mI, .int .i64 nI]
        generalize hgs : wr.heap.size = gs at h1
        have HGS := hide hgs
        have x0 := (h1.blk 0 rfl).cell 0
        have x1 := (h1.blk 0 rfl).cell 1
        have x2 := (h1.blk 0 rfl).cell 2
        have x3 := (h1.blk 0 rfl).cell 3
        have x4 := (h1.blk 0 rfl).cell 4
        have H1 := hide h1
        clear h hx hcs h1 hgs
        by_cases hin : 0 ≤ cI ∧ cI ≤ 3 ∧ 0 ≤ nI ∧ nI ≤ 50
        · obtain ⟨q, rfl⟩ := Int.eq_ofNat_of_zero_le hin.1
          have hq4 : q < 4 := by omega
          have q0 : (0 : Int) ≤ (q : Int) := by omega
          have q1 : (q : Int) < 4 := by omega
          have g1 : decide ((q : Int) < 0) = false := decide_eq_false (by omega)
          have g2 : decide ((q : Int) > 3) = false := decide_eq_false (by omega)
          have g2' : decide ((3 : Int) < (q : Int)) = false := g2
          have g3 : decide (nI < 0) = false := decide_eq_false (by omega)
          have g4 : decide (nI > 50) = false := decide_eq_false (by omega)
          have g4' : decide (50 < nI) = false := g4
          go_wp2_with fail
          rw [HGS.out]
          clear e0 e1 e2 e3 e4
          refine region_tail 5 (by kernel_rfl) (by kernel_rfl) (fun W hW => ?_)
          have H5 := hide (H1.out.drew)
          rw [← hW] at H5
          have y1 : W.cell? ⟨gs, 1, none⟩ = some (.int .i64 (q : Int)) := by rw [hW]; exact x1
          have y2 : W.cell? ⟨gs, 2, none⟩ = some (.int .i64 rI) := by rw [hW]; exact x2
          clear hW H1 x0 x1 x2 x3 x4
          simp only [List.take_succ_cons, List.take_zero, List.drop_succ_cons, List.drop_zero]
          repeat still_step
          try refine wpStill_nil ?_
          go_wp2_with fail
          refine (token4_st (H := H) (c := q) rI _ hq4 (H5.out.sub (L' := blkR gh 99 (h4cells H) :: tabR g T :: blkR gc 96 (ckC ck) :: blkR gs 101 #[.int .i64 d, .int .i64 (q : Int), .int .i64 rI, .int .i64 mI, .int .i64 nI] :: rowsR 5 StepR (.slice (some ad) n c) l :: L) (by (repeat (first | with_reducible exact Sub.refl _ | (with_reducible apply Sub.take; focus (repeat (first | with_reducible exact At.here | with_reducible apply At.there))) | with_reducible apply Sub.drop))))).mono ?_
          rintro e w2 ⟨rfl, h2⟩
          obtain ⟨tk, htk⟩ : ∃ tk, tk = (H q).tA rI := ⟨_, rfl⟩
          rw [← htk]
          have H6 := hide (h2.sub (L' := tabR g T :: blkR gh 99 (h4cells H) :: blkR gc 96 (ckC ck) :: blkR gs 101 #[.int .i64 d, .int .i64 (q : Int), .int .i64 rI, .int .i64 mI, .int .i64 nI] :: rowsR 5 StepR (.slice (some ad) n c) l :: L) (by (repeat (first | with_reducible exact Sub.refl _ | (with_reducible apply Sub.take; focus (repeat (first | with_reducible exact At.here | with_reducible apply At.there))) | with_reducible apply Sub.drop))))
          clear h2 H5 y1 y2 htk
          have x0 := (H6.out.blkA (g := gs) (t := 101) (cs := #[.int .i64 d, .int .i64 (q : Int), .int .i64 rI, .int .i64 mI, .int .i64 nI]) (by (repeat (first | with_reducible exact At.here | with_reducible apply At.there)))).cell 0
          have x1 := (H6.out.blkA (g := gs) (t := 101) (cs := #[.int .i64 d, .int .i64 (q : Int), .int .i64 rI, .int .i64 mI, .int .i64 nI]) (by (repeat (first | with_reducible exact At.here | with_reducible apply At.there)))).cell 1
          have x2 := (H6.out.blkA (g := gs) (t := 101) (cs := #[.int .i64 d, .int .i64 (q : Int), .int .i64 rI, .int .i64 mI, .int .i64 nI]) (by (repeat (first | with_reducible exact At.here | with_reducible apply At.there)))).cell 2
          have x3 := (H6.out.blkA (g := gs) (t := 101) (cs := #[.int .i64 d, .int .i64 (q : Int), .int .i64 rI, .int .i64 mI, .int .i64 nI]) (by (repeat (first | with_reducible exact At.here | with_reducible apply At.there)))).cell 3
          have x4 := (H6.out.blkA (g := gs) (t := 101) (cs := #[.int .i64 d, .int .i64 (q : Int), .int .i64 rI, .int .i64 mI, .int .i64 nI]) (by (repeat (first | with_reducible exact At.here | with_reducible apply At.there)))).cell 4
          go_upto_block 2 with fail
          go_cut [7] (fun nv wx => ∃ (T' : TabM) (H' : Nat → HS) (ck' : Nat → Int) (now' : Int), nv = .int .u64 now' ∧ WInv (i + 1) T' H' ck' now' ∧ St M0 wx (tabR g T' :: blkR gh 99 (h4cells H') :: blkR gc 96 (ckC ck') :: blkR gs 101 #[.int .i64 d, .int .i64 (q : Int), .int .i64 rI, .int .i64 mI, .int .i64 nI] :: rowsR 5 StepR (.slice (some ad) n c) l :: L))
          case first =>
            by_cases c1 : d = 1
            · as_aux_lemma =>
                have b1 : (d == 1) = true := isT c1
                clear c1
                go_wp2_with fail
                refine (acquire_st g T q rI mI _ HI.out.ok H6.out).mono ?_
                rintro e w3 ⟨rfl, h3⟩
                have K1 := hide (HI.out.k.acq q rI mI)
                have O1 := hide (HI.out.ok.acquire q rI mI)
                have N1 := hide ((acq_now T q rI mI).trans HI.out.tn)
                have AR := hide (fun he => HI.out.k.acqRenew (c := q) (r := rI) (how := mI) he)
                generalize T.acquire (q : Int) rI mI = av at h3 K1 O1 N1 AR ⊢
                obtain ⟨T1, k1, e1⟩ := av
                have H7 := hide (show St M0 w3 (tabR g T1 :: blkR gh 99 (h4cells H) :: blkR gc 96 (ckC ck) :: blkR gs 101 #[.int .i64 d, .int .i64 (q : Int), .int .i64 rI, .int .i64 mI, .int .i64 nI] :: rowsR 5 StepR (.slice (some ad) n c) l :: L) from h3)
                clear h3 H6 x0 x1 x2 x3 x4
                have x0 := (H7.out.blkA (g := gs) (t := 101) (cs := #[.int .i64 d, .int .i64 (q : Int), .int .i64 rI, .int .i64 mI, .int .i64 nI]) (by (repeat (first | with_reducible exact At.here | with_reducible apply At.there)))).cell 0
                have x1 := (H7.out.blkA (g := gs) (t := 101) (cs := #[.int .i64 d, .int .i64 (q : Int), .int .i64 rI, .int .i64 mI, .int .i64 nI]) (by (repeat (first | with_reducible exact At.here | with_reducible apply At.there)))).cell 1
                have x2 := (H7.out.blkA (g := gs) (t := 101) (cs := #[.int .i64 d, .int .i64 (q : Int), .int .i64 rI, .int .i64 mI, .int .i64 nI]) (by (repeat (first | with_reducible exact At.here | with_reducible apply At.there)))).cell 2
                have x3 := (H7.out.blkA (g := gs) (t := 101) (cs := #[.int .i64 d, .int .i64 (q : Int), .int .i64 rI, .int .i64 mI, .int .i64 nI]) (by (repeat (first | with_reducible exact At.here | with_reducible apply At.there)))).cell 3
                have x4 := (H7.out.blkA (g := gs) (t := 101) (cs := #[.int .i64 d, .int .i64 (q : Int), .int .i64 rI, .int .i64 mI, .int .i64 nI]) (by (repeat (first | with_reducible exact At.here | with_reducible apply At.there)))).cell 4
                by_cases he : e1 = 0
                · obtain rfl : e1 = 0 := he
                  go_wp2_with fail
                  refine (renew_st g T1 q rI k1 _ O1.out H7.out).mono ?_
                  rintro e w4 ⟨rfl, h4⟩
                  have O2 := hide (O1.out.renew q rI k1)
                  have N2 := hide ((renew_now T1 q rI k1).trans N1.out)
                  have K2 := hide (show KInv (T1.renew (q : Int) rI k1).1 (updH H q ((H q).tookS rI mI k1 (T1.renew (q : Int) rI k1).2.1)) from AR.out (by simp))
                  generalize T1.renew (q : Int) rI k1 = rv at h4 O2 N2 K2 ⊢
                  obtain ⟨T2, u2, e2⟩ := rv
                  have H8 := hide (show St M0 w4 (tabR g T2 :: blkR gh 99 (h4cells H) :: blkR gc 96 (ckC ck) :: blkR gs 101 #[.int .i64 d, .int .i64 (q : Int), .int .i64 rI, .int .i64 mI, .int .i64 nI] :: rowsR 5 StepR (.slice (some ad) n c) l :: L) from h4)
                  clear h4 H7 x0 x1 x2 x3 x4
                  have x0 := (H8.out.blkA (g := gs) (t := 101) (cs := #[.int .i64 d, .int .i64 (q : Int), .int .i64 rI, .int .i64 mI, .int .i64 nI]) (by (repeat (first | with_reducible exact At.here | with_reducible apply At.there)))).cell 0
                  have x1 := (H8.out.blkA (g := gs) (t := 101) (cs := #[.int .i64 d, .int .i64 (q : Int), .int .i64 rI, .int .i64 mI, .int .i64 nI]) (by (repeat (first | with_reducible exact At.here | with_reducible apply At.there)))).cell 1
                  have x2 := (H8.out.blkA (g := gs) (t := 101) (cs := #[.int .i64 d, .int .i64 (q : Int), .int .i64 rI, .int .i64 mI, .int .i64 nI]) (by (repeat (first | with_reducible exact At.here | with_reducible apply At.there)))).cell 2
                  have x3 := (H8.out.blkA (g := gs) (t := 101) (cs := #[.int .i64 d, .int .i64 (q : Int), .int .i64 rI, .int .i64 mI, .int .i64 nI]) (by (repeat (first | with_reducible exact At.here | with_reducible apply At.there)))).cell 3
                  have x4 := (H8.out.blkA (g := gs) (t := 101) (cs := #[.int .i64 d, .int .i64 (q : Int), .int .i64 rI, .int .i64 mI, .int .i64 nI]) (by (repeat (first | with_reducible exact At.here | with_reducible apply At.there)))).cell 4
                  go_wp2_with fail
                  refine region_tail 9 (by kernel_rfl) (by kernel_rfl) (fun W hW => ?_)
                  have H9 := hide (H8.out.drew)
                  rw [← hW] at H9
                  have y1 : W.cell? ⟨gs, 1, none⟩ = some (.int .i64 (q : Int)) := by rw [hW]; exact x1
                  have y2 : W.cell? ⟨gs, 2, none⟩ = some (.int .i64 rI) := by rw [hW]; exact x2
                  have y3 : W.cell? ⟨gs, 3, none⟩ = some (.int .i64 mI) := by rw [hW]; exact x3
                  clear hW H8 x0 x1 x2 x3 x4
                  simp only [List.take_succ_cons, List.take_zero, List.drop_succ_cons, List.drop_zero]
                  repeat still_step
                  try refine wpStill_nil ?_
                  go_wp2_with fail
                  refine (took4_st (H := H) (c := q) rI mI k1 u2 _ hq4 (H9.out.sub (L' := blkR gh 99 (h4cells H) :: tabR g T2 :: blkR gc 96 (ckC ck) :: blkR gs 101 #[.int .i64 d, .int .i64 (q : Int), .int .i64 rI, .int .i64 mI, .int .i64 nI] :: rowsR 5 StepR (.slice (some ad) n c) l :: L) (by (repeat (first | with_reducible exact Sub.refl _ | (with_reducible apply Sub.take; focus (repeat (first | with_reducible exact At.here | with_reducible apply At.there))) | with_reducible apply Sub.drop))))).mono ?_
                  rintro e w5 ⟨rfl, h5⟩
                  have H10 := hide h5
                  clear h5 H9 y1 y2 y3
                  go_wp2_with fail
                  go_meet
                  exact ⟨T2, updH H q ((H q).tookS rI mI k1 u2), ck, now, rfl, HI.out.next O2.out K2.out N2.out, H10.out.sub (by (repeat (first | with_reducible exact Sub.refl _ | (with_reducible apply Sub.take; focus (repeat (first | with_reducible exact At.here | with_reducible apply At.there))) | with_reducible apply Sub.drop)))⟩
                · have b2 := isF he
                  clear he
                  go_wp2_with fail
                  go_meet
                  exact ⟨T1, H, ck, now, rfl, HI.out.next O1.out K1.out N1.out, H7.out⟩
            have b1 : (d == 1) = false := isF c1
            by_cases c2 : d = 2
            · as_aux_lemma =>
                have b2 : (d == 2) = true := isT c2
                clear c1 c2
                go_wp2_with fail
                refine (renew_st g T q rI tk _ HI.out.ok H6.out).mono ?_
                rintro e w3 ⟨rfl, h3⟩
                have K1 := hide (HI.out.k.renew q rI tk)
                have O1 := hide (HI.out.ok.renew q rI tk)
                have N1 := hide ((renew_now T q rI tk).trans HI.out.tn)
                have AR := hide (fun he => HI.out.k.renewTook (c := q) (r := rI) (t := tk) he)
                generalize T.renew (q : Int) rI tk = rv at h3 K1 O1 N1 AR ⊢
                obtain ⟨T1, u1, e1⟩ := rv
                have H7 := hide (show St M0 w3 (tabR g T1 :: blkR gh 99 (h4cells H) :: blkR gc 96 (ckC ck) :: blkR gs 101 #[.int .i64 d, .int .i64 (q : Int), .int .i64 rI, .int .i64 mI, .int .i64 nI] :: rowsR 5 StepR (.slice (some ad) n c) l :: L) from h3)
                clear h3 H6 x0 x1 x2 x3 x4
                by_cases he : e1 = 0
                · obtain rfl : e1 = 0 := he
                  have K2 := hide (show KInv T1 (updH H q ((H q).tookS rI (modeOf T1 q rI) tk u1)) from AR.out (by simp))
                  clear AR
                  go_wp2_with fail
                  refine region_mix (fun W => Blk W gs 101 #[.int .i64 d, .int .i64 (q : Int), .int .i64 rI, .int .i64 mI, .int .i64 nI]) 14 [0, 1, 2, 3, 4, 5, 6, 7, 8, 9, 11, 12] [10, 13] (by kernel_rfl) (by kernel_rfl)
                    (fun d => by cases d <;> exact fun _ _ _ _ h => h) (fun W hW => ?_)
                  have H8 := hide (H7.out.drew)
                  rw [← hW] at H8
                  clear hW H7
                  refine ⟨H8.out.blk 3 rfl, ?_⟩
                  iterate 12 (refine take_run rfl rfl (fun W hW => by (have z1 := hW.cell 1; have z2 := hW.cell 2; clear hW; go_simp; try rfl)) ?_; (simp only [Act.put, List.setIfInBounds_toArray, List.set_cons_succ, List.set_cons_zero]))
                  refine take_nil ?_
                  refine seq_call (f := 49) (args := #[.pointer (some ⟨g, 0, none⟩), .int .i64 (q : Int), .int .i64 rI]) rfl rfl (by go_simp; try rfl) ?_
                  refine (modeK_st (g := g) T1 q rI _ O1.out H8.out).mono ?_
                  rintro e w4 ⟨rfl, h4⟩
                  refine ⟨_, rfl, fun _ => h4.blk 3 rfl, ?_⟩
                  (simp only [Act.put, List.setIfInBounds_toArray, List.set_cons_succ, List.set_cons_zero])
                  generalize modeOf T1 (q : Int) rI = md at K2 ⊢
                  have H9 := hide (h4.sub (L' := blkR gh 99 (h4cells H) :: tabR g T1 :: blkR gc 96 (ckC ck) :: blkR gs 101 #[.int .i64 d, .int .i64 (q : Int), .int .i64 rI, .int .i64 mI, .int .i64 nI] :: rowsR 5 StepR (.slice (some ad) n c) l :: L) (by (repeat (first | with_reducible exact Sub.refl _ | (with_reducible apply Sub.take; focus (repeat (first | with_reducible exact At.here | with_reducible apply At.there))) | with_reducible apply Sub.drop))))
                  clear h4 H8
                  refine seq_call (f := 48) (args := #[.pointer (some ⟨gh, q * 16, none⟩), .int .i64 rI, .int .i64 md, .int .u64 tk, .int .u64 u1]) rfl rfl (by go_simp; try rfl) ?_
                  refine (took4_st (H := H) (c := q) rI md tk u1 _ hq4 H9.out).mono ?_
                  rintro e w5 ⟨rfl, h5⟩
                  refine ⟨_, rfl, fun _ => h5.blk 3 rfl, ?_⟩
                  (simp only [Act.put, List.setIfInBounds_toArray, List.set_cons_succ, List.set_cons_zero])
                  have H10 := hide h5
                  clear h5 H9
                  refine seq_nil ?_
                  go_wp2_with fail
                  go_meet
                  exact ⟨T1, updH H q ((H q).tookS rI md tk u1), ck, now, rfl, HI.out.next O1.out K2.out N1.out, H10.out.sub (by (repeat (first | with_reducible exact Sub.refl _ | (with_reducible apply Sub.take; focus (repeat (first | with_reducible exact At.here | with_reducible apply At.there))) | with_reducible apply Sub.drop)))⟩
                · have b3 := isF he
                  clear he
                  go_wp2_with fail
                  go_meet
                  exact ⟨T1, H, ck, now, rfl, HI.out.next O1.out K1.out N1.out, H7.out⟩
            have b2 : (d == 2) = false := isF c2
            by_cases c3 : d = 3
            · as_aux_lemma =>
                have b3 : (d == 3) = true := isT c3
                clear c1 c2 c3
                go_wp2_with fail
                refine region_tail 5 (by kernel_rfl) (by kernel_rfl) (fun W hW => ?_)
                have H7 := hide (H6.out.drew)
                rw [← hW] at H7
                have y1 : W.cell? ⟨gs, 1, none⟩ = some (.int .i64 (q : Int)) := by rw [hW]; exact x1
                have y2 : W.cell? ⟨gs, 2, none⟩ = some (.int .i64 rI) := by rw [hW]; exact x2
                clear hW H6 x0 x1 x2 x3 x4
                simp only [List.take_succ_cons, List.take_zero, List.drop_succ_cons, List.drop_zero]
                repeat still_step
                try refine wpStill_nil ?_
                go_wp2_with fail
                refine (gone4_st (H := H) (c := q) rI _ hq4 (H7.out.sub (L' := blkR gh 99 (h4cells H) :: tabR g T :: blkR gc 96 (ckC ck) :: blkR gs 101 #[.int .i64 d, .int .i64 (q : Int), .int .i64 rI, .int .i64 mI, .int .i64 nI] :: rowsR 5 StepR (.slice (some ad) n c) l :: L) (by (repeat (first | with_reducible exact Sub.refl _ | (with_reducible apply Sub.take; focus (repeat (first | with_reducible exact At.here | with_reducible apply At.there))) | with_reducible apply Sub.drop))))).mono ?_
                rintro e w3 ⟨rfl, h3⟩
                have K1 := hide (HI.out.k.gone (c := q) (r := rI))
                have K2 := hide (K1.out.release tk)
                generalize updH H q ((H q).goneS rI) = H1 at h3 K1 K2
                have H8 := hide (h3.sub (L' := tabR g T :: blkR gh 99 (h4cells H1) :: blkR gc 96 (ckC ck) :: blkR gs 101 #[.int .i64 d, .int .i64 (q : Int), .int .i64 rI, .int .i64 mI, .int .i64 nI] :: rowsR 5 StepR (.slice (some ad) n c) l :: L) (by (repeat (first | with_reducible exact Sub.refl _ | (with_reducible apply Sub.take; focus (repeat (first | with_reducible exact At.here | with_reducible apply At.there))) | with_reducible apply Sub.drop))))
                clear h3 H7 y1 y2
                have x0 := (H8.out.blkA (g := gs) (t := 101) (cs := #[.int .i64 d, .int .i64 (q : Int), .int .i64 rI, .int .i64 mI, .int .i64 nI]) (by (repeat (first | with_reducible exact At.here | with_reducible apply At.there)))).cell 0
                have x1 := (H8.out.blkA (g := gs) (t := 101) (cs := #[.int .i64 d, .int .i64 (q : Int), .int .i64 rI, .int .i64 mI, .int .i64 nI]) (by (repeat (first | with_reducible exact At.here | with_reducible apply At.there)))).cell 1
                have x2 := (H8.out.blkA (g := gs) (t := 101) (cs := #[.int .i64 d, .int .i64 (q : Int), .int .i64 rI, .int .i64 mI, .int .i64 nI]) (by (repeat (first | with_reducible exact At.here | with_reducible apply At.there)))).cell 2
                have x3 := (H8.out.blkA (g := gs) (t := 101) (cs := #[.int .i64 d, .int .i64 (q : Int), .int .i64 rI, .int .i64 mI, .int .i64 nI]) (by (repeat (first | with_reducible exact At.here | with_reducible apply At.there)))).cell 3
                have x4 := (H8.out.blkA (g := gs) (t := 101) (cs := #[.int .i64 d, .int .i64 (q : Int), .int .i64 rI, .int .i64 mI, .int .i64 nI]) (by (repeat (first | with_reducible exact At.here | with_reducible apply At.there)))).cell 4
                go_wp2_with fail
                refine (release_st g T q rI tk _ HI.out.ok H8.out).mono ?_
                rintro e w4 ⟨rfl, h4⟩
                have O2 := hide (HI.out.ok.release q rI tk)
                have N2 := hide ((release_now T q rI tk).trans HI.out.tn)
                generalize T.release (q : Int) rI tk = rv at h4 O2 N2 K2 ⊢
                obtain ⟨T2, e2⟩ := rv
                have H9 := hide h4
                clear h4 H8 x0 x1 x2 x3 x4
                go_wp2_with fail
                go_meet
                exact ⟨T2, H1, ck, now, rfl, HI.out.next O2.out K2.out N2.out, H9.out⟩
            have b3 : (d == 3) = false := isF c3
            by_cases c4 : d = 4
            · as_aux_lemma =>
                have b4 : (d == 4) = true := isT c4
                have ew : IntKind.u64.wrap (now + nI) = now + nI := by
                  have h0 := HI.out.n0
                  have h1 := HI.out.n1
                  simp only [IntKind.wrap, IntKind.bits, IntKind.signed, Bool.false_and, Bool.false_eq_true, if_false]
                  omega
                have ew2 : IntKind.u64.wrap nI = nI := by
                  simp only [IntKind.wrap, IntKind.bits, IntKind.signed, Bool.false_and, Bool.false_eq_true, if_false]
                  omega
                have K1 := hide (HI.out.k.time (now := now + nI) (by have := HI.out.tn; omega) (by have := HI.out.n1; omega))
                have O1 := hide (HI.out.ok.time (now := now + nI) (by have := HI.out.n1; omega))
                have N1 := hide (time_now (T := T) (now := now + nI) (by have := HI.out.tn; omega))
                have hle : now + nI ≤ 18446744073709551615 := by have := HI.out.n1; omega
                have HLE := hide hle
                have HNI := hide hin
                clear c1 c2 c3 c4 hle
                go_wp2_with fail
                refine (time_st g T (now + nI) _ HI.out.ok HLE.out H6.out).mono ?_
                rintro e w3 ⟨rfl, h3⟩
                have H7 := hide h3
                clear h3 H6 x0 x1 x2 x3 x4
                go_wp2_with fail
                go_meet
                exact ⟨T.time (now + nI), H, ck, now + nI, rfl, ⟨O1.out, K1.out, N1.out, by have := HI.out.n0; have := HNI.out; omega, by have := HI.out.n1; have := HNI.out; omega, fun c hc => by have := HI.out.c c hc; omega⟩, H7.out⟩
            have b4 : (d == 4) = false := isF c4
            by_cases c5 : d = 5
            · as_aux_lemma =>
                have b5 : (d == 5) = true := isT c5
                have hcq := HI.out.c q hq4
                have hn100 : (i : Int) ≤ 100 := by omega
                obtain ⟨kv, hkv⟩ : ∃ kv, kv = ck q := ⟨_, rfl⟩
                have cc := ((H6.out.blkA (g := gc) (t := 96) (cs := ckC ck) (by (repeat (first | with_reducible exact At.here | with_reducible apply At.there)))).cell q).trans (ckC_at ck hq4)
                rw [← hkv] at cc hcq
                have HKV := hide hkv
                have ew2 : IntKind.u64.wrap nI = nI := by
                  simp only [IntKind.wrap, IntKind.bits, IntKind.signed, Bool.false_and, Bool.false_eq_true, if_false]
                  omega
                have ew : IntKind.u64.wrap (kv + nI) = kv + nI := by
                  simp only [IntKind.wrap, IntKind.bits, IntKind.signed, Bool.false_and, Bool.false_eq_true, if_false]
                  omega
                have HNI := hide hin
                have HCQ := hide hcq
                clear c1 c2 c3 c4 c5 hkv hcq
                go_wp2_with fail
                refine region_tail 11 (by kernel_rfl) (by kernel_rfl) (fun W hW => ?_)
                have H7 := hide ((H6.out.drew).sub (L' := blkR gc 96 (ckC ck) :: tabR g T :: blkR gh 99 (h4cells H) :: blkR gs 101 #[.int .i64 d, .int .i64 (q : Int), .int .i64 rI, .int .i64 mI, .int .i64 nI] :: rowsR 5 StepR (.slice (some ad) n c) l :: L) (by (repeat (first | with_reducible exact Sub.refl _ | (with_reducible apply Sub.take; focus (repeat (first | with_reducible exact At.here | with_reducible apply At.there))) | with_reducible apply Sub.drop))))
                rw [← hW] at H7
                have y1 : W.cell? ⟨gs, 1, none⟩ = some (.int .i64 (q : Int)) := by rw [hW]; exact x1
                have y4 : W.cell? ⟨gs, 4, none⟩ = some (.int .i64 nI) := by rw [hW]; exact x4
                have yc : W.cell? ⟨gc, q, none⟩ = some (.int .u64 kv) := by rw [hW]; exact cc
                clear hW H6 x0 x1 x2 x3 x4 cc
                simp only [List.take_succ_cons, List.take_zero, List.drop_succ_cons, List.drop_zero]
                repeat still_step
                try refine wpStill_nil ?_
                have fq := (H7.out.blk 0 rfl).frozen q
                have H8 := hide (H7.out.put_ q (.int .u64 (kv + nI)) (ckC (upd ck q (kv + nI))) (ckC_set ck hq4 _))
                clear H7
                go_wp2_with fail
                go_meet
                refine ⟨T, H, upd ck q (kv + nI), now, rfl, ⟨HI.out.ok, HI.out.k, HI.out.tn, HI.out.n0, by have := HI.out.n1; omega, fun c hc => ?_⟩, H8.out.sub (by (repeat (first | with_reducible exact Sub.refl _ | (with_reducible apply Sub.take; focus (repeat (first | with_reducible exact At.here | with_reducible apply At.there))) | with_reducible apply Sub.drop)))⟩
                have h1 := HI.out.c c hc
                have h2 := HNI.out
                have h3 := HCQ.out
                unfold upd
                split <;> omega
            have b5 : (d == 5) = false := isF c5
            by_cases c6 : d = 6
            · as_aux_lemma =>
                have b6 : (d == 6) = true := isT c6
                clear c1 c2 c3 c4 c5 c6
                go_wp2_with fail
                refine region_tail 5 (by kernel_rfl) (by kernel_rfl) (fun W hW => ?_)
                have H7 := hide (H6.out.drew)
                rw [← hW] at H7
                have y1 : W.cell? ⟨gs, 1, none⟩ = some (.int .i64 (q : Int)) := by rw [hW]; exact x1
                have y2 : W.cell? ⟨gs, 2, none⟩ = some (.int .i64 rI) := by rw [hW]; exact x2
                clear hW H6 x0 x1 x2 x3 x4
                simp only [List.take_succ_cons, List.take_zero, List.drop_succ_cons, List.drop_zero]
                repeat still_step
                try refine wpStill_nil ?_
                go_wp2_with fail
                refine (gone4_st (H := H) (c := q) rI _ hq4 (H7.out.sub (L' := blkR gh 99 (h4cells H) :: tabR g T :: blkR gc 96 (ckC ck) :: blkR gs 101 #[.int .i64 d, .int .i64 (q : Int), .int .i64 rI, .int .i64 mI, .int .i64 nI] :: rowsR 5 StepR (.slice (some ad) n c) l :: L) (by (repeat (first | with_reducible exact Sub.refl _ | (with_reducible apply Sub.take; focus (repeat (first | with_reducible exact At.here | with_reducible apply At.there))) | with_reducible apply Sub.drop))))).mono ?_
                rintro e w3 ⟨rfl, h3⟩
                have K1 := hide (HI.out.k.gone (c := q) (r := rI))
                have H8 := hide (h3.sub (L' := tabR g T :: blkR gh 99 (h4cells (updH H q ((H q).goneS rI))) :: blkR gc 96 (ckC ck) :: blkR gs 101 #[.int .i64 d, .int .i64 (q : Int), .int .i64 rI, .int .i64 mI, .int .i64 nI] :: rowsR 5 StepR (.slice (some ad) n c) l :: L) (by (repeat (first | with_reducible exact Sub.refl _ | (with_reducible apply Sub.take; focus (repeat (first | with_reducible exact At.here | with_reducible apply At.there))) | with_reducible apply Sub.drop))))
                clear h3 H7 y1 y2
                go_wp2_with fail
                go_meet
                exact ⟨T, _, ck, now, rfl, HI.out.next HI.out.ok K1.out HI.out.tn, H8.out⟩
            have b6 : (d == 6) = false := isF c6
            clear c1 c2 c3 c4 c5 c6
            go_wp2_with fail
            go_meet
            exact ⟨T, H, ck, now, rfl, HI.out.next HI.out.ok HI.out.k HI.out.tn, H6.out⟩
          case rest =>
            as_aux_lemma =>
              clear H6 x0 x1 x2 x3 x4
              obtain ⟨T2, H2, ck2, now2, rfl, hinv2, h⟩ := hcut
              have HI2 := hide hinv2
              have H7 := hide (h.sub (L' := tabR g T2 :: blkR gh 99 (h4cells H2) :: blkR gc 96 (ckC ck2) :: rowsR 5 StepR (.slice (some ad) n c) l :: L) (by (repeat (first | with_reducible exact Sub.refl _ | (with_reducible apply Sub.take; focus (repeat (first | with_reducible exact At.here | with_reducible apply At.there))) | with_reducible apply Sub.drop))))
              have hn1 := hinv2.n1
              have hn0 := hinv2.n0
              clear h hinv2
              go_wp2_with fail
              go_loopg [17] 4 (fun gk2 cv wr => ∃ (k : Nat), gk2 = 4 - k ∧ k ≤ 4 ∧ cv = .int .i64 (k : Nat) ∧ (∀ j, j < k → now2 < ck2 j + 3) ∧ St M0 wr (tabR g T2 :: blkR gh 99 (h4cells H2) :: blkR gc 96 (ckC ck2) :: rowsR 5 StepR (.slice (some ad) n c) l :: L))
              case atStart => exact ⟨0, rfl, by omega, rfl, fun j hj => absurd hj (by omega), H7.out⟩
              case round =>
                clear H7
                obtain ⟨k, hgk2, hk, rfl, hall, h⟩ := hrel
                have HGK := hide hgk2
                have HALL := hide hall
                have H8 := hide h
                clear hgk2 hall h
                by_cases hk4 : k < 4
                · have k0 : (0 : Int) ≤ (k : Int) := by omega
                  have k1 : (k : Int) < 4 := by omega
                  have hcc := HI2.out.c k hk4
                  have cc := ((H8.out.blkA (g := gc) (t := 96) (cs := ckC ck2) (by (repeat (first | with_reducible exact At.here | with_reducible apply At.there)))).cell k).trans (ckC_at ck2 hk4)
                  obtain ⟨kv, hkv⟩ : ∃ kv, kv = ck2 k := ⟨_, rfl⟩
                  rw [← hkv] at cc hcc
                  have HKV := hide hkv
                  have ew : IntKind.u64.wrap (kv + 3) = kv + 3 := by
                    rw [u64_add kv 3 (by omega) (by omega) (by omega) (by omega), if_pos (by omega)]
                  clear hkv
                  by_cases hle : kv + 3 ≤ now2
                  · have c1 : decide (kv + 3 ≤ now2) = true := decide_eq_true hle
                    clear hle
                    go_wp2_with fail
                    go_ret
                    exact ⟨rfl, H8.out.tail.tail.tail.tail⟩
                  · have c1 : decide (kv + 3 ≤ now2) = false := decide_eq_false hle
                    have HLE := hide hle
                    clear hle
                    go_wp2_with fail
                    go_roundg (4 - (k + 1))
                    case measure => have := HGK.out; omega
                    case rel =>
                      refine ⟨k + 1, rfl, by omega, by go_num, fun j hj => ?_, H8.out⟩
                      by_cases e : j = k
                      · subst e
                        rw [← HKV.out]
                        have := HLE.out
                        omega
                      · exact HALL.out j (by omega)
                · obtain rfl : k = 4 := by omega
                  try rw [show ((4 : Nat) : Int) = 4 from rfl]
                  have HCL := hide (show ∀ c, c < 4 → T2.now < ck2 c + 3 by
                    intro c hc
                    rw [HI2.out.tn]
                    exact HALL.out c hc)
                  clear HALL
                  go_wp2_with fail
                  go_loopg [18] 4 (fun gk3 rv wr => ∃ (r : Nat), gk3 = 4 - r ∧ r ≤ 4 ∧ rv = .int .i64 (r : Nat) ∧ St M0 wr (tabR g T2 :: blkR gh 99 (h4cells H2) :: blkR gc 96 (ckC ck2) :: rowsR 5 StepR (.slice (some ad) n c) l :: L))
                  case atStart => exact ⟨0, rfl, by omega, rfl, H8.out⟩
                  case round =>
                    clear H8
                    obtain ⟨r, hgr, hr, rfl, h⟩ := hrel
                    have HGR := hide hgr
                    have H9 := hide h
                    clear hgr h
                    by_cases hr4 : r < 4
                    · have r0 : (0 : Int) ≤ (r : Int) := by omega
                      have r1 : (r : Int) < 4 := by omega
                      go_wp2_with fail
                      go_loopg [19, 20, 21] 4 (fun gk4 mv av cv wr => ∃ (k ma al : Nat), gk4 = 4 - k ∧ k ≤ 4 ∧ mv = .int .i64 (ma : Nat) ∧ av = .int .i64 (al : Nat) ∧ cv = .int .i64 (k : Nat) ∧ ma = cntB (anyB H2 ck2 r 1) k ∧ al = cntB (anyB H2 ck2 r 2) k ∧ St M0 wr (tabR g T2 :: blkR gh 99 (h4cells H2) :: blkR gc 96 (ckC ck2) :: rowsR 5 StepR (.slice (some ad) n c) l :: L))
                      case atStart => exact ⟨0, 0, 0, rfl, by omega, rfl, rfl, rfl, rfl, rfl, H9.out⟩
                      case round =>
                        clear H9
                        obtain ⟨k, ma, al, hgk4, hk, rfl, rfl, rfl, hma, hal, h⟩ := hrel
                        have hma4 : ma ≤ 4 := by
                          have := cntB_le (anyB H2 ck2 r 1) k
                          omega
                        have hal4 : al ≤ 4 := by
                          have := cntB_le (anyB H2 ck2 r 2) k
                          omega
                        have HMA := hide hma
                        have HAL := hide hal
                        have HGK4 := hide hgk4
                        have H9 := hide h
                        clear hgk4 hma hal h
                        by_cases hk4 : k < 4
                        · have k0 : (0 : Int) ≤ (k : Int) := by omega
                          have k1 : (k : Int) < 4 := by omega
                          have hcc := HI2.out.c k hk4
                          have cc := ((H9.out.blkA (g := gc) (t := 96) (cs := ckC ck2) (by (repeat (first | with_reducible exact At.here | with_reducible apply At.there)))).cell k).trans (ckC_at ck2 hk4)
                          have hkc1 : ck2 k ≤ 18446744073709551615 := by omega
                          have HK1 := hide hkc1
                          have HK0 := hide hcc.1
                          clear hkc1 hcc
                          go_wp2_with fail
                          refine region_tail 6 (by kernel_rfl) (by kernel_rfl) (fun W hW => ?_)
                          have H10 := hide (H9.out.drew)
                          rw [← hW] at H10
                          have cW : W.cell? ⟨gc, k, none⟩ = some (.int .u64 (ck2 k)) := by rw [hW]; exact cc
                          clear hW H9 cc
                          simp only [List.take_succ_cons, List.take_zero, List.drop_succ_cons, List.drop_zero]
                          repeat still_step
                          try refine wpStill_nil ?_
                          go_wp2_with fail
                          refine (believes4_st (H := H2) (c := k) r 1 (ck2 k) _ hk4 (HI2.out.k.ok k hk4) HK0.out HK1.out (H10.out.sub (L' := blkR gh 99 (h4cells H2) :: tabR g T2 :: blkR gc 96 (ckC ck2) :: rowsR 5 StepR (.slice (some ad) n c) l :: L) (by (repeat (first | with_reducible exact Sub.refl _ | (with_reducible apply Sub.take; focus (repeat (first | with_reducible exact At.here | with_reducible apply At.there))) | with_reducible apply Sub.drop))))).mono ?_
                          rintro e w3 ⟨rfl, h3⟩
                          obtain ⟨b1, hb1⟩ : ∃ b1, b1 = belB ((H2 k).mA r) ((H2 k).uA r) 1 (ck2 k) := ⟨_, rfl⟩
                          rw [← hb1]
                          have HB1 := hide hb1
                          have H11 := hide h3
                          clear h3 H10 cW hb1
                          have cc := ((H11.out.blkA (g := gc) (t := 96) (cs := ckC ck2) (by (repeat (first | with_reducible exact At.here | with_reducible apply At.there)))).cell k).trans (ckC_at ck2 hk4)
                          go_wp2_with fail
                          refine region_tail 6 (by kernel_rfl) (by kernel_rfl) (fun W hW => ?_)
                          have H12 := hide (H11.out.drew)
                          rw [← hW] at H12
                          have cW : W.cell? ⟨gc, k, none⟩ = some (.int .u64 (ck2 k)) := by rw [hW]; exact cc
                          clear hW H11 cc
                          simp only [List.take_succ_cons, List.take_zero, List.drop_succ_cons, List.drop_zero]
                          repeat still_step
                          try refine wpStill_nil ?_
                          go_wp2_with fail
                          refine (believes4_st (H := H2) (c := k) r 2 (ck2 k) _ hk4 (HI2.out.k.ok k hk4) HK0.out HK1.out H12.out).mono ?_
                          rintro e w4 ⟨rfl, h4⟩
                          obtain ⟨b2, hb2⟩ : ∃ b2, b2 = belB ((H2 k).mA r) ((H2 k).uA r) 2 (ck2 k) := ⟨_, rfl⟩
                          rw [← hb2]
                          have HB2 := hide hb2
                          have H13 := hide (h4.sub (L' := tabR g T2 :: blkR gh 99 (h4cells H2) :: blkR gc 96 (ckC ck2) :: rowsR 5 StepR (.slice (some ad) n c) l :: L) (by (repeat (first | with_reducible exact Sub.refl _ | (with_reducible apply Sub.take; focus (repeat (first | with_reducible exact At.here | with_reducible apply At.there))) | with_reducible apply Sub.drop))))
                          clear h4 H12 cW hb2
                          have N1 := hide (show cntB (anyB H2 ck2 r 1) (k + 1) = ma + if b1 = true then 1 else 0 by rw [HMA.out, HB1.out]; rfl)
                          have N2 := hide (show cntB (anyB H2 ck2 r 2) (k + 1) = al + if b2 = true then 1 else 0 by rw [HAL.out, HB2.out]; rfl)
                          have HMD := hide (show b1 = true → modeOf T2 k r ≠ 0 from fun e => HI2.out.k.mode hk4 hr4 (HCL.out k hk4) (by rw [← HB1.out]; exact e))
                          clear HB1 HB2 HMA HAL
                          cases b1 <;> cases b2
                          case' true.true =>
                            go_wp2_with fail
                            refine (modeK_st (g := g) T2 k r _ HI2.out.ok H13.out).mono ?_
                            rintro e w5 ⟨rfl, h5⟩
                            have hz := isF (HMD.out (by simp))
                            generalize modeOf T2 k r = md at hz ⊢
                            have H14 := hide h5
                            clear h5 H13 HMD
                          case' true.false =>
                            go_wp2_with fail
                            refine (modeK_st (g := g) T2 k r _ HI2.out.ok H13.out).mono ?_
                            rintro e w5 ⟨rfl, h5⟩
                            have hz := isF (HMD.out (by simp))
                            generalize modeOf T2 k r = md at hz ⊢
                            have H14 := hide h5
                            clear h5 H13 HMD
                          case' false.true => have H14 := H13; clear H13
                          case' false.false => have H14 := H13; clear H13
                          all_goals
                            go_wp2_with fail
                            go_roundg (4 - (k + 1))
                            case measure => have := HGK4.out; omega
                            case rel => exact ⟨k + 1, _, _, rfl, by omega, by rw [N1.out]; go_num, by rw [N2.out]; go_num, by go_num, rfl, rfl, H14.out⟩
                        · obtain rfl : k = 4 := by omega
                          have HNO := hide (show ¬ (0 < al ∧ 1 < ma) by rw [HAL.out, HMA.out]; exact HI2.out.k.alone hr4 HCL.out)
                          clear HMA HAL
                          by_cases hp : 0 < al
                          case' pos => have hq : ¬ 1 < ma := fun hq => HNO.out ⟨hp, hq⟩
                          all_goals
                            go_wp2_with fail
                            go_roundg (4 - (r + 1))
                            case measure => have := HGR.out; omega
                            case rel => exact ⟨r + 1, rfl, by omega, by go_num, H9.out⟩
                    · obtain rfl : r = 4 := by omega
                      go_wp2_with fail
                      go_roundg (n - (i + 1))
                      case measure => have := HG.out; omega
                      case rel => exact ⟨i + 1, T2, H2, ck2, now2, rfl, by omega, rfl, by go_num, HI2.out, H9.out⟩
        · obtain ⟨b1, hb1⟩ : ∃ b1, decide (cI < 0) = b1 := ⟨_, rfl⟩
          obtain ⟨b2, hb2⟩ : ∃ b2, decide (cI > 3) = b2 := ⟨_, rfl⟩
          have hb2' : decide (3 < cI) = b2 := hb2
          obtain ⟨b3, hb3⟩ : ∃ b3, decide (nI < 0) = b3 := ⟨_, rfl⟩
          obtain ⟨b4, hb4⟩ : ∃ b4, decide (nI > 50) = b4 := ⟨_, rfl⟩
          have hb4' : decide (50 < nI) = b4 := hb4
          have hbb : (b1 || b2 || b3 || b4) = true := by
            rw [← hb1, ← hb2, ← hb3, ← hb4]
            simp
            omega
          clear hin
          cases b1 <;> cases b2 <;> cases b3 <;> cases b4 <;> first | (exact absurd hbb (by decide)) | skip
          all_goals
            clear hbb
            go_wp2_with fail
            go_ret
            exact ⟨rfl, H1.out.tail.tail.tail.tail.tail⟩
      · obtain rfl : n = i := by omega
        have H4 := hide h.tail.tail.tail.tail
        clear h
        go_wp2_with fail
        go_ret
        exact ⟨rfl, H4.out⟩
  · have d1 : decide ((n : Int) > 100) = true := decide_eq_true (by omega)
    have d1' : decide ((100 : Int) < (n : Int)) = true := d1
    go_wp2_with fail
    go_ret
    exact ⟨rfl, H2.out.tail.tail.tail.tail⟩
end Go.Proofs.Ytbgknfdaaffeaaa
