/- Image.Check. Printed by gen_imgk.py. -/
import Derived.Test.YtpaelngpmbeedaaGreatDoorImgRZ
namespace Go.Proofs.YtpaelngpmbeedaaGreatDoor
open Go.RowKit

theorem Blk.six {w : World} {b : Nat} {t : TypeId} {v0 v1 v2 v3 v4 v5 : Value} (h : Blk w b t #[v0, v1, v2, v3, v4, v5]) : w.cell? ⟨b, 0, none⟩ = some v0 ∧ w.cell? ⟨b, 1, none⟩ = some v1 ∧ w.cell? ⟨b, 2, none⟩ = some v2 ∧ w.cell? ⟨b, 3, none⟩ = some v3 ∧ w.cell? ⟨b, 4, none⟩ = some v4 ∧ w.cell? ⟨b, 5, none⟩ = some v5 :=
  ⟨h.cell 0, h.cell 1, h.cell 2, h.cell 3, h.cell 4, h.cell 5⟩

set_option maxRecDepth 100000 in
set_option maxHeartbeats 4000000 in
theorem check_st {M0 : Imm} {L : List Res} (g : Nat) (m : Nat → Rg) (r : RQ) (A : Option Addr) (n c : Nat) (w : World) (hr : r.ok) (hm : ∀ k, (m k).ok) (hn : n = r.data.length) (h : St M0 w (imgR g m :: L)) :
    Calls Tryz.prog 24 #[.pointer (some ⟨g, 0, none⟩), reqV r (.slice A n c)] w fun e w' => e = .returned (.tuple #[.bool (checkI m r).1, .int .i64 (checkI m r).2]) ∧ St M0 w' (imgR g m :: L) := by
  have H := hide h
  have HR := hide hr
  have HW := hide (wrong_any r A n c)
  have HN := hide hn
  have key : ∀ x, checkI m r = x → Hid (checkI m r = x) := fun _ h => h
  clear h hr
  by_cases hw : r.wrong = 0
  · have hz := RQ.wrong_zero hw
    have HW0 := hide hw
    obtain ⟨op, region, index, token, seq, data⟩ := r
    obtain ⟨z0, z1, z2, z3, z4, z5, z6⟩ := hz
    simp only at z0 z1 z2 z3 z4 z5 z6 hn
    obtain ⟨k, rfl⟩ := Int.eq_ofNat_of_zero_le z2
    have HC := hide (fun w' => changes_any ⟨op, k, index, token, seq, data⟩ (.slice A n c) w')
    rw [hw] at HW
    have hww : ¬ RQ.wrong ⟨op, k, index, token, seq, data⟩ ≠ 0 := fun h => h hw
    clear hw z2 z3 hn z6
    by_cases hk : 4 ≤ k
    · have E := key (false, 93) (by unfold checkI; rw [if_neg hww, if_pos (by show (4 : Int) ≤ k; omega)])
      clear key hww
      have hk' : (4 : Int) ≤ (k : Int) := by omega
      go_enter Tryz.func24, Tryz.ntmps24
      go_wp2_with fail
      refine (HW.out _ HN.out).mono ?_
      rintro e w1 ⟨rfl, hf⟩
      have H1 := hide ((H.out.alloc 42 #[.int .i64 op, .int .i64 k, .int .i64 index, .int .u64 token, .int .u32 seq, .slice A n c]).grow hf)
      obtain ⟨e0, e1, e2, e3, e4, e5⟩ := (H1.out.blk 0 rfl).six
      clear H hf
      go_wp2_with fail
      go_ret2
      exact ⟨by rw [E.out]; rfl, H1.out.tail⟩
    have hk4 : k < 4 := by omega
    have hk' : ¬ (4 : Int) ≤ (k : Int) := by omega
    have hkr : ¬ (4 : Int) ≤ (RQ.mk op k index token seq data).region := hk'
    clear hk
    by_cases o2 : op ≤ 2
    · by_cases i4 : 4 ≤ index
      · have E := key (false, 101) (by unfold checkI; rw [if_neg hww, if_neg hkr, if_pos ⟨o2, i4⟩])
        clear key hww hkr
        go_enter Tryz.func24, Tryz.ntmps24
        go_wp2_with fail
        refine (HW.out _ HN.out).mono ?_
        rintro e w1 ⟨rfl, hf⟩
        have H1 := hide ((H.out.alloc 42 #[.int .i64 op, .int .i64 k, .int .i64 index, .int .u64 token, .int .u32 seq, .slice A n c]).grow hf)
        obtain ⟨e0, e1, e2, e3, e4, e5⟩ := (H1.out.blk 0 rfl).six
        clear H hf
        go_wp2_with fail
        go_ret2
        exact ⟨by rw [E.out]; rfl, H1.out.tail⟩
      have hno : ¬ ((RQ.mk op k index token seq data).op ≤ 2 ∧ 4 ≤ (RQ.mk op k index token seq data).index) := fun h => i4 h.2
      clear hno hkr hww
      go_enter Tryz.func24, Tryz.ntmps24
      go_wp2_with fail
      refine (HW.out _ HN.out).mono ?_
      rintro e w1 ⟨rfl, hf⟩
      have H1 := hide ((H.out.alloc 42 #[.int .i64 op, .int .i64 k, .int .i64 index, .int .u64 token, .int .u32 seq, .slice A n c]).grow hf)
      obtain ⟨e0, e1, e2, e3, e4, e5⟩ := (H1.out.blk 0 rfl).six
      clear H hf
      go_wp2_with fail
      have hbox := (H1.out.swap.img)
      obtain ⟨vs, hi⟩ := hbox
      have hb := hi.blk 0 rfl
      have x0 := img_cell hb (k := k) (j := 0) hk4 (by omega) rfl
      have hX := hm k
      have HI := hide hi
      clear hi hb
      have kn : (0 : Int) ≤ (k : Int) := by omega
      have k4 : (k : Int) < 4 := by omega
      simp only [Nat.add_zero] at x0
      by_cases ht : token < (m k).high
      · have E := key (false, 100) (by unfold checkI; rw [if_neg (fun h => h HW0.out), if_neg (Int.not_le.2 k4), if_neg (show ¬ (op ≤ 2 ∧ (4 : Int) ≤ index) by omega), if_pos (.inl ht)])
        have dt : decide (token < (m k).high) = true := decide_eq_true ht
        clear key
        go_wp2_with go_quiet (fail)
        go_ret2
        refine ⟨by rw [E.out]; rfl, ?_⟩
        repeat (with_reducible refine St.drewN ?_ _)
        exact H1.out.tail
      have dt : decide (token < (m k).high) = false := decide_eq_false ht
      by_cases t0 : token = 0
      · have bt := isT t0
        have E := key (false, if RQ.changes ⟨op, k, index, token, seq, data⟩ = true then 100 else 0) (by
          unfold checkI
          rw [if_neg (fun h => h HW0.out), if_neg (Int.not_le.2 k4), if_neg (show ¬ (op ≤ 2 ∧ (4 : Int) ≤ index) by omega)]
          cases hc : RQ.changes ⟨op, k, index, token, seq, data⟩ with
          | true => rw [if_pos (.inr ⟨t0, rfl⟩)]; rfl
          | false => rw [if_neg (fun h => h.elim ht (fun h => Bool.false_ne_true h.2)), if_neg Bool.false_ne_true, if_neg Bool.false_ne_true])
        clear key t0
        go_wp2_with go_quiet (fail)
        have hv := HI.out
        refine region_mix (fun W => St M0 W (imgB g vs m :: regsR vs m :: blkR w.heap.size 42 #[.int .i64 op, .int .i64 k, .int .i64 index, .int .u64 token, .int .u32 seq, .slice A n c] :: L)) 17 [0, 1, 2, 3, 4, 5, 6, 7, 8, 9, 10, 11, 12] [13, 14, 15, 16] (by kernel_rfl) (by kernel_rfl)
          (fun d => by cases d <;> exact fun _ _ _ _ h => h) (fun W hW => ?_)
        have hS := hide (show St M0 W (imgB g vs m :: regsR vs m :: blkR w.heap.size 42 #[.int .i64 op, .int .i64 k, .int .i64 index, .int .u64 token, .int .u32 seq, .slice A n c] :: L) by
          rw [hW]
          exact (hv.drewN _).drew)
        refine ⟨hS.out, ?_⟩
        clear hv
        refine take_run rfl rfl (fun W hW => by (have hb := hW.blk 0 rfl; have x0 := img_cell hb (k := k) (j := 0) hk4 (by omega) rfl; obtain ⟨e0, e1, e2, e3, e4, e5⟩ := (hW.blk 2 rfl).six; clear hb hW; simp only [Nat.add_zero] at x0; go_simp; try rfl)) ?_
        (simp only [Act.put, List.setIfInBounds_toArray, List.set_cons_succ, List.set_cons_zero])
        refine take_run rfl rfl (fun W hW => by (have hb := hW.blk 0 rfl; have x0 := img_cell hb (k := k) (j := 0) hk4 (by omega) rfl; obtain ⟨e0, e1, e2, e3, e4, e5⟩ := (hW.blk 2 rfl).six; clear hb hW; simp only [Nat.add_zero] at x0; go_simp; try rfl)) ?_
        (simp only [Act.put, List.setIfInBounds_toArray, List.set_cons_succ, List.set_cons_zero])
        refine take_run rfl rfl (fun W hW => by (have hb := hW.blk 0 rfl; have x0 := img_cell hb (k := k) (j := 0) hk4 (by omega) rfl; obtain ⟨e0, e1, e2, e3, e4, e5⟩ := (hW.blk 2 rfl).six; clear hb hW; simp only [Nat.add_zero] at x0; go_simp; try rfl)) ?_
        (simp only [Act.put, List.setIfInBounds_toArray, List.set_cons_succ, List.set_cons_zero])
        refine take_run rfl rfl (fun W hW => by (have hb := hW.blk 0 rfl; have x0 := img_cell hb (k := k) (j := 0) hk4 (by omega) rfl; obtain ⟨e0, e1, e2, e3, e4, e5⟩ := (hW.blk 2 rfl).six; clear hb hW; simp only [Nat.add_zero] at x0; go_simp; try rfl)) ?_
        (simp only [Act.put, List.setIfInBounds_toArray, List.set_cons_succ, List.set_cons_zero])
        refine take_run rfl rfl (fun W hW => by (have hb := hW.blk 0 rfl; have x0 := img_cell hb (k := k) (j := 0) hk4 (by omega) rfl; obtain ⟨e0, e1, e2, e3, e4, e5⟩ := (hW.blk 2 rfl).six; clear hb hW; simp only [Nat.add_zero] at x0; go_simp; try rfl)) ?_
        (simp only [Act.put, List.setIfInBounds_toArray, List.set_cons_succ, List.set_cons_zero])
        refine take_run rfl rfl (fun W hW => by (have hb := hW.blk 0 rfl; have x0 := img_cell hb (k := k) (j := 0) hk4 (by omega) rfl; obtain ⟨e0, e1, e2, e3, e4, e5⟩ := (hW.blk 2 rfl).six; clear hb hW; simp only [Nat.add_zero] at x0; go_simp; try rfl)) ?_
        (simp only [Act.put, List.setIfInBounds_toArray, List.set_cons_succ, List.set_cons_zero])
        refine take_run rfl rfl (fun W hW => by (have hb := hW.blk 0 rfl; have x0 := img_cell hb (k := k) (j := 0) hk4 (by omega) rfl; obtain ⟨e0, e1, e2, e3, e4, e5⟩ := (hW.blk 2 rfl).six; clear hb hW; simp only [Nat.add_zero] at x0; go_simp; try rfl)) ?_
        (simp only [Act.put, List.setIfInBounds_toArray, List.set_cons_succ, List.set_cons_zero])
        refine take_run rfl rfl (fun W hW => by (have hb := hW.blk 0 rfl; have x0 := img_cell hb (k := k) (j := 0) hk4 (by omega) rfl; obtain ⟨e0, e1, e2, e3, e4, e5⟩ := (hW.blk 2 rfl).six; clear hb hW; simp only [Nat.add_zero] at x0; go_simp; try rfl)) ?_
        (simp only [Act.put, List.setIfInBounds_toArray, List.set_cons_succ, List.set_cons_zero])
        refine take_on rfl (by go_simp; try rfl) (fun W hW => by (have hb := hW.blk 0 rfl; have x0 := img_cell hb (k := k) (j := 0) hk4 (by omega) rfl; obtain ⟨e0, e1, e2, e3, e4, e5⟩ := (hW.blk 2 rfl).six; clear hb hW; simp only [Nat.add_zero] at x0; go_simp; try rfl)) ?_
        (simp only [Act.put, List.setIfInBounds_toArray, List.set_cons_succ, List.set_cons_zero])
        refine take_on rfl (by go_simp; try rfl) (fun W hW => by (have hb := hW.blk 0 rfl; have x0 := img_cell hb (k := k) (j := 0) hk4 (by omega) rfl; obtain ⟨e0, e1, e2, e3, e4, e5⟩ := (hW.blk 2 rfl).six; clear hb hW; simp only [Nat.add_zero] at x0; go_simp; try rfl)) ?_
        (simp only [Act.put, List.setIfInBounds_toArray, List.set_cons_succ, List.set_cons_zero])
        refine take_on rfl (by go_simp; try rfl) (fun W hW => by (have hb := hW.blk 0 rfl; have x0 := img_cell hb (k := k) (j := 0) hk4 (by omega) rfl; obtain ⟨e0, e1, e2, e3, e4, e5⟩ := (hW.blk 2 rfl).six; clear hb hW; simp only [Nat.add_zero] at x0; go_simp; try rfl)) ?_
        (simp only [Act.put, List.setIfInBounds_toArray, List.set_cons_succ, List.set_cons_zero])
        refine take_on rfl (by go_simp; try rfl) (fun W hW => by (have hb := hW.blk 0 rfl; have x0 := img_cell hb (k := k) (j := 0) hk4 (by omega) rfl; obtain ⟨e0, e1, e2, e3, e4, e5⟩ := (hW.blk 2 rfl).six; clear hb hW; simp only [Nat.add_zero] at x0; go_simp; try rfl)) ?_
        (simp only [Act.put, List.setIfInBounds_toArray, List.set_cons_succ, List.set_cons_zero])
        refine take_on rfl (by go_simp; try rfl) (fun W hW => by (have hb := hW.blk 0 rfl; have x0 := img_cell hb (k := k) (j := 0) hk4 (by omega) rfl; obtain ⟨e0, e1, e2, e3, e4, e5⟩ := (hW.blk 2 rfl).six; clear hb hW; simp only [Nat.add_zero] at x0; go_simp; try rfl)) ?_
        (simp only [Act.put, List.setIfInBounds_toArray, List.set_cons_succ, List.set_cons_zero])
        refine take_nil ?_
        refine seq_call_on rfl (by go_simp; try rfl) (by go_simp; exact ⟨rfl, rfl⟩) ?_
        refine (HC.out _).mono ?_
        rintro e w2 ⟨rfl, hf⟩
        have H2 := hide (hS.out.grow hf)
        clear hf
        refine ⟨_, rfl, fun _ => H2.out, ?_⟩
        (simp only [Act.put, List.setIfInBounds_toArray, List.set_cons_succ, List.set_cons_zero])
        refine seq_read_on rfl (by go_simp; try rfl) (by go_simp; try rfl) (fun _ => H2.out) ?_
        (simp only [Act.put, List.setIfInBounds_toArray, List.set_cons_succ, List.set_cons_zero])
        refine seq_read_on rfl (by go_simp; try rfl) (by go_simp; try rfl) (fun _ => H2.out) ?_
        (simp only [Act.put, List.setIfInBounds_toArray, List.set_cons_succ, List.set_cons_zero])
        refine seq_read_on rfl (by go_simp; try rfl) (by go_simp; try rfl) (fun _ => H2.out) ?_
        (simp only [Act.put, List.setIfInBounds_toArray, List.set_cons_succ, List.set_cons_zero])
        refine seq_nil ?_
        clear hS hW
        cases ch : RQ.changes ⟨op, k, index, token, seq, data⟩ with
        | true =>
          rw [ch, if_pos rfl] at E
          clear ch HC
          go_wp2_with fail
          go_ret2
          exact ⟨by rw [E.out]; rfl, St.addImg H2.out.del2⟩
        | false =>
          rw [ch, if_neg Bool.false_ne_true] at E
          rw [ch] at HC
          clear ch
          obtain ⟨f0, f1, f2, f3, f4, f5⟩ := (H2.out.blk 2 rfl).six
          go_wp2_with fail
          refine (HC.out _).mono ?_
          rintro e w3 ⟨rfl, hf⟩
          have H3 := hide (H2.out.grow hf)
          clear hf
          go_wp2_with fail
          go_ret2
          exact ⟨by rw [E.out]; rfl, St.addImg H3.out.del2⟩
      have bt := isF t0
      cases ch : RQ.changes ⟨op, k, index, token, seq, data⟩ with
      | false =>
        have E := key (false, 0) (by unfold checkI; rw [if_neg (fun h => h HW0.out), if_neg (Int.not_le.2 k4), if_neg (show ¬ (op ≤ 2 ∧ (4 : Int) ≤ index) by omega), if_neg (fun h => h.elim ht (fun h => t0 h.1)), if_neg (by rw [ch]; exact Bool.false_ne_true)])
        rw [ch] at HC
        clear key ch
        go_wp2_with go_quiet (fail)
        refine (HC.out _).mono ?_
        rintro e w2 ⟨rfl, hf⟩
        have h2 : St M0 w2 (imgR g m :: L) := by
          refine St.grow ?_ hf
          repeat (with_reducible refine St.drewN ?_ _)
          exact H1.out.tail
        have H2 := hide h2
        clear hf h2
        go_wp2_with fail
        go_ret2
        exact ⟨by rw [E.out]; rfl, H2.out⟩
      | true =>
        have E := key ((m k).next ⟨op, k, index, token, seq, data⟩) (by unfold checkI; rw [if_neg (fun h => h HW0.out), if_neg (Int.not_le.2 k4), if_neg (show ¬ (op ≤ 2 ∧ (4 : Int) ≤ index) by omega), if_neg (fun h => h.elim ht (fun h => t0 h.1)), if_pos ch]; rfl)
        rw [ch] at HC
        clear key ch
        go_wp2_with go_quiet (fail)
        refine (HC.out _).mono ?_
        rintro e w2 ⟨rfl, hf⟩
        have h2 : St M0 w2 (imgB g vs m :: regsR vs m :: blkR w.heap.size 42 #[.int .i64 op, .int .i64 k, .int .i64 index, .int .u64 token, .int .u32 seq, .slice A n c] :: L) := by
          refine St.grow ?_ hf
          repeat (with_reducible refine St.drewN ?_ _)
          exact HI.out
        have hb := h2.blk 0 rfl
        obtain ⟨A6, c6, hv6, _, _⟩ := Rows.slice ⟨_, ((h2.get 1 rfl) k hk4).log⟩
        have y0 := img_cell hb (k := k) (j := 0) hk4 (by omega) rfl
        have y1 := img_cell hb (k := k) (j := 1) hk4 (by omega) rfl
        have y6 := img_cell hb (k := k) (j := 6) hk4 (by omega) rfl
        rw [hv6] at y6
        have HNX := hide (next_any g (k * 7) ⟨op, k, index, token, seq, data⟩ (.slice A n c) (m k).high (m k).seq A6 (m k).log.length c6 w2 ⟨HR.out.s0, HR.out.s1⟩ ⟨hX.s0, hX.s1⟩ hb.lt y0 y1 y6)
        have H2 := hide h2
        obtain ⟨f0, f1, f2, f3, f4, f5⟩ := (h2.blk 2 rfl).six
        clear hf h2 hv6 hb y0 y1 y6
        go_wp2_with fail
        refine HNX.out.mono ?_
        rintro e w3 ⟨rfl, hf⟩
        have H3 := hide (H2.out.grow hf)
        clear hf
        go_wp2_with fail
        go_ret2
        refine ⟨by rw [E.out]; rfl, ?_⟩
        exact St.addImg H3.out.del2
    have hno : ¬ ((RQ.mk op k index token seq data).op ≤ 2 ∧ 4 ≤ (RQ.mk op k index token seq data).index) := fun h => o2 h.1
    clear hno hkr hww
    go_enter Tryz.func24, Tryz.ntmps24
    go_wp2_with fail
    refine (HW.out _ HN.out).mono ?_
    rintro e w1 ⟨rfl, hf⟩
    have H1 := hide ((H.out.alloc 42 #[.int .i64 op, .int .i64 k, .int .i64 index, .int .u64 token, .int .u32 seq, .slice A n c]).grow hf)
    obtain ⟨e0, e1, e2, e3, e4, e5⟩ := (H1.out.blk 0 rfl).six
    clear H hf
    go_wp2_with fail
    have hbox := (H1.out.swap.img)
    obtain ⟨vs, hi⟩ := hbox
    have hb := hi.blk 0 rfl
    have x0 := img_cell hb (k := k) (j := 0) hk4 (by omega) rfl
    have hX := hm k
    have HI := hide hi
    clear hi hb
    have kn : (0 : Int) ≤ (k : Int) := by omega
    have k4 : (k : Int) < 4 := by omega
    simp only [Nat.add_zero] at x0
    by_cases ht : token < (m k).high
    · have E := key (false, 100) (by unfold checkI; rw [if_neg (fun h => h HW0.out), if_neg (Int.not_le.2 k4), if_neg (show ¬ (op ≤ 2 ∧ (4 : Int) ≤ index) by omega), if_pos (.inl ht)])
      have dt : decide (token < (m k).high) = true := decide_eq_true ht
      clear key
      go_wp2_with go_quiet (fail)
      go_ret2
      refine ⟨by rw [E.out]; rfl, ?_⟩
      repeat (with_reducible refine St.drewN ?_ _)
      exact H1.out.tail
    have dt : decide (token < (m k).high) = false := decide_eq_false ht
    by_cases t0 : token = 0
    · have bt := isT t0
      have E := key (false, if RQ.changes ⟨op, k, index, token, seq, data⟩ = true then 100 else 0) (by
        unfold checkI
        rw [if_neg (fun h => h HW0.out), if_neg (Int.not_le.2 k4), if_neg (show ¬ (op ≤ 2 ∧ (4 : Int) ≤ index) by omega)]
        cases hc : RQ.changes ⟨op, k, index, token, seq, data⟩ with
        | true => rw [if_pos (.inr ⟨t0, rfl⟩)]; rfl
        | false => rw [if_neg (fun h => h.elim ht (fun h => Bool.false_ne_true h.2)), if_neg Bool.false_ne_true, if_neg Bool.false_ne_true])
      clear key t0
      go_wp2_with go_quiet (fail)
      have hv := HI.out
      refine region_mix (fun W => St M0 W (imgB g vs m :: regsR vs m :: blkR w.heap.size 42 #[.int .i64 op, .int .i64 k, .int .i64 index, .int .u64 token, .int .u32 seq, .slice A n c] :: L)) 17 [0, 1, 2, 3, 4, 5, 6, 7, 8, 9, 10, 11, 12] [13, 14, 15, 16] (by kernel_rfl) (by kernel_rfl)
        (fun d => by cases d <;> exact fun _ _ _ _ h => h) (fun W hW => ?_)
      have hS := hide (show St M0 W (imgB g vs m :: regsR vs m :: blkR w.heap.size 42 #[.int .i64 op, .int .i64 k, .int .i64 index, .int .u64 token, .int .u32 seq, .slice A n c] :: L) by
        rw [hW]
        exact (hv.drewN _).drew)
      refine ⟨hS.out, ?_⟩
      clear hv
      refine take_run rfl rfl (fun W hW => by (have hb := hW.blk 0 rfl; have x0 := img_cell hb (k := k) (j := 0) hk4 (by omega) rfl; obtain ⟨e0, e1, e2, e3, e4, e5⟩ := (hW.blk 2 rfl).six; clear hb hW; simp only [Nat.add_zero] at x0; go_simp; try rfl)) ?_
      (simp only [Act.put, List.setIfInBounds_toArray, List.set_cons_succ, List.set_cons_zero])
      refine take_run rfl rfl (fun W hW => by (have hb := hW.blk 0 rfl; have x0 := img_cell hb (k := k) (j := 0) hk4 (by omega) rfl; obtain ⟨e0, e1, e2, e3, e4, e5⟩ := (hW.blk 2 rfl).six; clear hb hW; simp only [Nat.add_zero] at x0; go_simp; try rfl)) ?_
      (simp only [Act.put, List.setIfInBounds_toArray, List.set_cons_succ, List.set_cons_zero])
      refine take_run rfl rfl (fun W hW => by (have hb := hW.blk 0 rfl; have x0 := img_cell hb (k := k) (j := 0) hk4 (by omega) rfl; obtain ⟨e0, e1, e2, e3, e4, e5⟩ := (hW.blk 2 rfl).six; clear hb hW; simp only [Nat.add_zero] at x0; go_simp; try rfl)) ?_
      (simp only [Act.put, List.setIfInBounds_toArray, List.set_cons_succ, List.set_cons_zero])
      refine take_run rfl rfl (fun W hW => by (have hb := hW.blk 0 rfl; have x0 := img_cell hb (k := k) (j := 0) hk4 (by omega) rfl; obtain ⟨e0, e1, e2, e3, e4, e5⟩ := (hW.blk 2 rfl).six; clear hb hW; simp only [Nat.add_zero] at x0; go_simp; try rfl)) ?_
      (simp only [Act.put, List.setIfInBounds_toArray, List.set_cons_succ, List.set_cons_zero])
      refine take_run rfl rfl (fun W hW => by (have hb := hW.blk 0 rfl; have x0 := img_cell hb (k := k) (j := 0) hk4 (by omega) rfl; obtain ⟨e0, e1, e2, e3, e4, e5⟩ := (hW.blk 2 rfl).six; clear hb hW; simp only [Nat.add_zero] at x0; go_simp; try rfl)) ?_
      (simp only [Act.put, List.setIfInBounds_toArray, List.set_cons_succ, List.set_cons_zero])
      refine take_run rfl rfl (fun W hW => by (have hb := hW.blk 0 rfl; have x0 := img_cell hb (k := k) (j := 0) hk4 (by omega) rfl; obtain ⟨e0, e1, e2, e3, e4, e5⟩ := (hW.blk 2 rfl).six; clear hb hW; simp only [Nat.add_zero] at x0; go_simp; try rfl)) ?_
      (simp only [Act.put, List.setIfInBounds_toArray, List.set_cons_succ, List.set_cons_zero])
      refine take_run rfl rfl (fun W hW => by (have hb := hW.blk 0 rfl; have x0 := img_cell hb (k := k) (j := 0) hk4 (by omega) rfl; obtain ⟨e0, e1, e2, e3, e4, e5⟩ := (hW.blk 2 rfl).six; clear hb hW; simp only [Nat.add_zero] at x0; go_simp; try rfl)) ?_
      (simp only [Act.put, List.setIfInBounds_toArray, List.set_cons_succ, List.set_cons_zero])
      refine take_run rfl rfl (fun W hW => by (have hb := hW.blk 0 rfl; have x0 := img_cell hb (k := k) (j := 0) hk4 (by omega) rfl; obtain ⟨e0, e1, e2, e3, e4, e5⟩ := (hW.blk 2 rfl).six; clear hb hW; simp only [Nat.add_zero] at x0; go_simp; try rfl)) ?_
      (simp only [Act.put, List.setIfInBounds_toArray, List.set_cons_succ, List.set_cons_zero])
      refine take_on rfl (by go_simp; try rfl) (fun W hW => by (have hb := hW.blk 0 rfl; have x0 := img_cell hb (k := k) (j := 0) hk4 (by omega) rfl; obtain ⟨e0, e1, e2, e3, e4, e5⟩ := (hW.blk 2 rfl).six; clear hb hW; simp only [Nat.add_zero] at x0; go_simp; try rfl)) ?_
      (simp only [Act.put, List.setIfInBounds_toArray, List.set_cons_succ, List.set_cons_zero])
      refine take_on rfl (by go_simp; try rfl) (fun W hW => by (have hb := hW.blk 0 rfl; have x0 := img_cell hb (k := k) (j := 0) hk4 (by omega) rfl; obtain ⟨e0, e1, e2, e3, e4, e5⟩ := (hW.blk 2 rfl).six; clear hb hW; simp only [Nat.add_zero] at x0; go_simp; try rfl)) ?_
      (simp only [Act.put, List.setIfInBounds_toArray, List.set_cons_succ, List.set_cons_zero])
      refine take_on rfl (by go_simp; try rfl) (fun W hW => by (have hb := hW.blk 0 rfl; have x0 := img_cell hb (k := k) (j := 0) hk4 (by omega) rfl; obtain ⟨e0, e1, e2, e3, e4, e5⟩ := (hW.blk 2 rfl).six; clear hb hW; simp only [Nat.add_zero] at x0; go_simp; try rfl)) ?_
      (simp only [Act.put, List.setIfInBounds_toArray, List.set_cons_succ, List.set_cons_zero])
      refine take_on rfl (by go_simp; try rfl) (fun W hW => by (have hb := hW.blk 0 rfl; have x0 := img_cell hb (k := k) (j := 0) hk4 (by omega) rfl; obtain ⟨e0, e1, e2, e3, e4, e5⟩ := (hW.blk 2 rfl).six; clear hb hW; simp only [Nat.add_zero] at x0; go_simp; try rfl)) ?_
      (simp only [Act.put, List.setIfInBounds_toArray, List.set_cons_succ, List.set_cons_zero])
      refine take_on rfl (by go_simp; try rfl) (fun W hW => by (have hb := hW.blk 0 rfl; have x0 := img_cell hb (k := k) (j := 0) hk4 (by omega) rfl; obtain ⟨e0, e1, e2, e3, e4, e5⟩ := (hW.blk 2 rfl).six; clear hb hW; simp only [Nat.add_zero] at x0; go_simp; try rfl)) ?_
      (simp only [Act.put, List.setIfInBounds_toArray, List.set_cons_succ, List.set_cons_zero])
      refine take_nil ?_
      refine seq_call_on rfl (by go_simp; try rfl) (by go_simp; exact ⟨rfl, rfl⟩) ?_
      refine (HC.out _).mono ?_
      rintro e w2 ⟨rfl, hf⟩
      have H2 := hide (hS.out.grow hf)
      clear hf
      refine ⟨_, rfl, fun _ => H2.out, ?_⟩
      (simp only [Act.put, List.setIfInBounds_toArray, List.set_cons_succ, List.set_cons_zero])
      refine seq_read_on rfl (by go_simp; try rfl) (by go_simp; try rfl) (fun _ => H2.out) ?_
      (simp only [Act.put, List.setIfInBounds_toArray, List.set_cons_succ, List.set_cons_zero])
      refine seq_read_on rfl (by go_simp; try rfl) (by go_simp; try rfl) (fun _ => H2.out) ?_
      (simp only [Act.put, List.setIfInBounds_toArray, List.set_cons_succ, List.set_cons_zero])
      refine seq_read_on rfl (by go_simp; try rfl) (by go_simp; try rfl) (fun _ => H2.out) ?_
      (simp only [Act.put, List.setIfInBounds_toArray, List.set_cons_succ, List.set_cons_zero])
      refine seq_nil ?_
      clear hS hW
      cases ch : RQ.changes ⟨op, k, index, token, seq, data⟩ with
      | true =>
        rw [ch, if_pos rfl] at E
        clear ch HC
        go_wp2_with fail
        go_ret2
        exact ⟨by rw [E.out]; rfl, St.addImg H2.out.del2⟩
      | false =>
        rw [ch, if_neg Bool.false_ne_true] at E
        rw [ch] at HC
        clear ch
        obtain ⟨f0, f1, f2, f3, f4, f5⟩ := (H2.out.blk 2 rfl).six
        go_wp2_with fail
        refine (HC.out _).mono ?_
        rintro e w3 ⟨rfl, hf⟩
        have H3 := hide (H2.out.grow hf)
        clear hf
        go_wp2_with fail
        go_ret2
        exact ⟨by rw [E.out]; rfl, St.addImg H3.out.del2⟩
    have bt := isF t0
    cases ch : RQ.changes ⟨op, k, index, token, seq, data⟩ with
    | false =>
      have E := key (false, 0) (by unfold checkI; rw [if_neg (fun h => h HW0.out), if_neg (Int.not_le.2 k4), if_neg (show ¬ (op ≤ 2 ∧ (4 : Int) ≤ index) by omega), if_neg (fun h => h.elim ht (fun h => t0 h.1)), if_neg (by rw [ch]; exact Bool.false_ne_true)])
      rw [ch] at HC
      clear key ch
      go_wp2_with go_quiet (fail)
      refine (HC.out _).mono ?_
      rintro e w2 ⟨rfl, hf⟩
      have h2 : St M0 w2 (imgR g m :: L) := by
        refine St.grow ?_ hf
        repeat (with_reducible refine St.drewN ?_ _)
        exact H1.out.tail
      have H2 := hide h2
      clear hf h2
      go_wp2_with fail
      go_ret2
      exact ⟨by rw [E.out]; rfl, H2.out⟩
    | true =>
      have E := key ((m k).next ⟨op, k, index, token, seq, data⟩) (by unfold checkI; rw [if_neg (fun h => h HW0.out), if_neg (Int.not_le.2 k4), if_neg (show ¬ (op ≤ 2 ∧ (4 : Int) ≤ index) by omega), if_neg (fun h => h.elim ht (fun h => t0 h.1)), if_pos ch]; rfl)
      rw [ch] at HC
      clear key ch
      go_wp2_with go_quiet (fail)
      refine (HC.out _).mono ?_
      rintro e w2 ⟨rfl, hf⟩
      have h2 : St M0 w2 (imgB g vs m :: regsR vs m :: blkR w.heap.size 42 #[.int .i64 op, .int .i64 k, .int .i64 index, .int .u64 token, .int .u32 seq, .slice A n c] :: L) := by
        refine St.grow ?_ hf
        repeat (with_reducible refine St.drewN ?_ _)
        exact HI.out
      have hb := h2.blk 0 rfl
      obtain ⟨A6, c6, hv6, _, _⟩ := Rows.slice ⟨_, ((h2.get 1 rfl) k hk4).log⟩
      have y0 := img_cell hb (k := k) (j := 0) hk4 (by omega) rfl
      have y1 := img_cell hb (k := k) (j := 1) hk4 (by omega) rfl
      have y6 := img_cell hb (k := k) (j := 6) hk4 (by omega) rfl
      rw [hv6] at y6
      have HNX := hide (next_any g (k * 7) ⟨op, k, index, token, seq, data⟩ (.slice A n c) (m k).high (m k).seq A6 (m k).log.length c6 w2 ⟨HR.out.s0, HR.out.s1⟩ ⟨hX.s0, hX.s1⟩ hb.lt y0 y1 y6)
      have H2 := hide h2
      obtain ⟨f0, f1, f2, f3, f4, f5⟩ := (h2.blk 2 rfl).six
      clear hf h2 hv6 hb y0 y1 y6
      go_wp2_with fail
      refine HNX.out.mono ?_
      rintro e w3 ⟨rfl, hf⟩
      have H3 := hide (H2.out.grow hf)
      clear hf
      go_wp2_with fail
      go_ret2
      refine ⟨by rw [E.out]; rfl, ?_⟩
      exact St.addImg H3.out.del2
  · have E := key (false, r.wrong) (by unfold checkI; rw [if_pos hw])
    have hb : (r.wrong != 0) = true := by simp [hw]
    generalize r.wrong = x at *
    clear key hn
    go_enter Tryz.func24, Tryz.ntmps24
    go_wp2_with fail
    refine (HW.out _ HN.out).mono ?_
    rintro e w1 ⟨rfl, hf⟩
    have H1 := hide ((H.out.junk _).grow hf)
    clear H hf
    go_wp2_with fail
    go_ret2
    exact ⟨by rw [E.out]; rfl, H1.out⟩

end Go.Proofs.YtpaelngpmbeedaaGreatDoor
