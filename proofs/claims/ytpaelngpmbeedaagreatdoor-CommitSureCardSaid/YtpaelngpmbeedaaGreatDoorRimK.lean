/- The document's Image: what it holds; Check. Printed by gen_rim.py. -/
import Derived.Test.YtpaelngpmbeedaaGreatDoorImgRZ
import Derived.Test.YtpaelngpmbeedaaGreatDoorImgPZ
namespace Go.Proofs.YtpaelngpmbeedaaGreatDoor
open Go.RowKit

def rimC (m : Nat → Rg) (vs : Nat → RV) : Array Value :=
  #[.int .u64 (m 0).high, .int .u64 (m 1).high, .int .u64 (m 2).high, .int .u64 (m 3).high, .int .u32 (m 0).seq, .int .u32 (m 1).seq, .int .u32 (m 2).seq, .int .u32 (m 3).seq,
    (vs 0).b 0, (vs 0).b 1, (vs 0).b 2, (vs 0).b 3, (vs 1).b 0, (vs 1).b 1, (vs 1).b 2, (vs 1).b 3, (vs 2).b 0, (vs 2).b 1, (vs 2).b 2, (vs 2).b 3, (vs 3).b 0, (vs 3).b 1, (vs 3).b 2, (vs 3).b 3,
    (vs 0).log, (vs 1).log, (vs 2).log, (vs 3).log]
theorem rimC_high (m : Nat → Rg) (vs : Nat → RV) {k : Nat} (hk : k < 4) : (rimC m vs)[k]? = some (.int .u64 (m k).high) := by
  rcases below4 hk with rfl | rfl | rfl | rfl <;> rfl
theorem rimC_seq (m : Nat → Rg) (vs : Nat → RV) {k : Nat} (hk : k < 4) : (rimC m vs)[4 + k]? = some (.int .u32 (m k).seq) := by
  rcases below4 hk with rfl | rfl | rfl | rfl <;> rfl
theorem rimC_b (m : Nat → Rg) (vs : Nat → RV) {k j : Nat} (hk : k < 4) (hj : j < 4) : (rimC m vs)[8 + k * 4 + j]? = some ((vs k).b j) := by
  rcases below4 hk with rfl | rfl | rfl | rfl <;> rcases below4 hj with rfl | rfl | rfl | rfl <;> rfl
theorem rimC_log (m : Nat → Rg) (vs : Nat → RV) {k : Nat} (hk : k < 4) : (rimC m vs)[24 + k]? = some ((vs k).log) := by
  rcases below4 hk with rfl | rfl | rfl | rfl <;> rfl
theorem rimC_congr {m m' : Nat → Rg} {vs vs' : Nat → RV} (h : ∀ i, (m i).high = (m' i).high ∧ (m i).seq = (m' i).seq ∧ vs i = vs' i) : rimC m vs = rimC m' vs' := by
  unfold rimC
  rw [(h 0).1, (h 1).1, (h 2).1, (h 3).1, (h 0).2.1, (h 1).2.1, (h 2).2.1, (h 3).2.1, (h 0).2.2, (h 1).2.2, (h 2).2.2, (h 3).2.2]
abbrev rimB (g : Nat) (vs : Nat → RV) (m : Nat → Rg) : Res := blkR g 40 (rimC m vs)
def rimR (g : Nat) (m : Nat → Rg) : Res := exR fun vs : Nat → RV => starR (rimB g vs m) (regsR vs m)
section
variable {M0 : Imm} {w : World} {L : List Res} {g : Nat} {m : Nat → Rg}
theorem St.rim (h : St M0 w (rimR g m :: L)) : ∃ vs, St M0 w (rimB g vs m :: regsR vs m :: L) := by
  obtain ⟨vs, h⟩ := h.ex
  exact ⟨vs, h.star⟩
theorem St.addRim {vs : Nat → RV} (h : St M0 w (rimB g vs m :: regsR vs m :: L)) : St M0 w (rimR g m :: L) :=
  St.addEx (f := fun vs : Nat → RV => starR (rimB g vs m) (regsR vs m)) vs h.addStar
theorem St.newRim {M0 : Imm} {w : World} {L : List Res} (h : St M0 w L) : St M0 (w.alloc (.cells (rimC aw0 (fun _ => nilRV)) 40)) (rimR w.heap.size aw0 :: L) :=
  St.addRim (vs := fun _ => nilRV) (((h.pers0 (R := fun w => ∀ k, k < 4 → RegR w nilRV (aw0 k)) (fun w' _ _k _ => ⟨fun _ _ => Ints.none_ w' _, RowsC.none_ _ _ _ _⟩)).alloc 40 _))
end

set_option maxRecDepth 100000 in
set_option maxHeartbeats 4000000 in
theorem rcheck_st {M0 : Imm} {L : List Res} (g : Nat) (m : Nat → Rg) (r : RQ) (A : Option Addr) (n c : Nat) (w : World) (hr : r.ok) (hm : ∀ k, (m k).ok) (hn : n = r.data.length) (h : St M0 w (rimR g m :: L)) :
    Calls Tryz.prog 66 #[.pointer (some ⟨g, 0, none⟩), reqV r (.slice A n c)] w fun e w' => e = .returned (.tuple #[.bool (checkI m r).1, .int .i64 (checkI m r).2]) ∧ St M0 w' (rimR g m :: L) := by
  have H := hide h
  have HR := hide hr
  have HW := hide (rwrong_any r A n c)
  have HN := hide hn
  have key : ∀ x, checkI m r = x → Hid (checkI m r = x) := fun _ h => h
  clear h hr
  by_cases hw : r.wrong = 0
  · have hz := RQ.wrong_zero hw
    have HW0 := hide hw
    obtain ⟨op, region, index, token, seq, data⟩ := r
    obtain ⟨z0, z1, z2, z3, z4, z5, z6⟩ := hz
    simp only at z0 z1 z2 z3 z4 z5 z6 hn
    obtain ⟨k, rfl⟩ := Int.eq_ofNat_of_zero_le z2
    have HC := hide (fun w' => rchanges_any ⟨op, k, index, token, seq, data⟩ (.slice A n c) w')
    rw [hw] at HW
    have hww : ¬ RQ.wrong ⟨op, k, index, token, seq, data⟩ ≠ 0 := fun h => h hw
    clear hw z2 z3 hn z6
    by_cases hk : 4 ≤ k
    · have E := key (false, 93) (by unfold checkI; rw [if_neg hww, if_pos (by show (4 : Int) ≤ k; omega)])
      clear key hww
      have hk' : decide ((3 : Int) < (k : Int)) = true := decide_eq_true (by omega)
      go_enter Tryz.func66, Tryz.ntmps66
      go_wp2_with fail
      refine (HW.out _ HN.out).mono ?_
      rintro e w1 ⟨rfl, hf⟩
      have H1 := hide ((H.out.alloc 51 #[.int .i64 op, .int .i64 k, .int .i64 index, .int .u64 token, .int .u32 seq, .slice A n c]).grow hf)
      obtain ⟨e0, e1, e2, e3, e4, e5⟩ := (H1.out.blk 0 rfl).six
      clear H hf
      go_wp2_with fail
      go_ret2
      exact ⟨by rw [E.out]; rfl, H1.out.tail⟩
    have hk4 : k < 4 := by omega
    have hk' : decide ((3 : Int) < (k : Int)) = false := decide_eq_false (by omega)
    have hkr : ¬ (4 : Int) ≤ (RQ.mk op k index token seq data).region := by show ¬ (4 : Int) ≤ (k : Int); omega
    clear hk
    by_cases o2 : op ≤ 2
    · by_cases i4 : 4 ≤ index
      · have E := key (false, 101) (by unfold checkI; rw [if_neg hww, if_neg hkr, if_pos ⟨o2, i4⟩])
        clear key hww hkr
        have d2 : decide (op ≤ 2) = true := decide_eq_true o2
        have d4 : decide (3 < index) = true := decide_eq_true (by omega)
        go_enter Tryz.func66, Tryz.ntmps66
        go_wp2_with fail
        refine (HW.out _ HN.out).mono ?_
        rintro e w1 ⟨rfl, hf⟩
        have H1 := hide ((H.out.alloc 51 #[.int .i64 op, .int .i64 k, .int .i64 index, .int .u64 token, .int .u32 seq, .slice A n c]).grow hf)
        obtain ⟨e0, e1, e2, e3, e4, e5⟩ := (H1.out.blk 0 rfl).six
        clear H hf
        go_wp2_with fail
        go_ret2
        exact ⟨by rw [E.out]; rfl, H1.out.tail⟩
      have d2 : decide (op ≤ 2) = true := decide_eq_true o2
      have d4 : decide (3 < index) = false := decide_eq_false (by omega)
      have hno : ¬ ((RQ.mk op k index token seq data).op ≤ 2 ∧ 4 ≤ (RQ.mk op k index token seq data).index) := fun h => i4 h.2
      clear hno hkr hww
      go_enter Tryz.func66, Tryz.ntmps66
      go_wp2_with fail
      refine (HW.out _ HN.out).mono ?_
      rintro e w1 ⟨rfl, hf⟩
      have H1 := hide ((H.out.alloc 51 #[.int .i64 op, .int .i64 k, .int .i64 index, .int .u64 token, .int .u32 seq, .slice A n c]).grow hf)
      obtain ⟨e0, e1, e2, e3, e4, e5⟩ := (H1.out.blk 0 rfl).six
      clear H hf
      go_wp2_with fail
      obtain ⟨vs, hi⟩ := H1.out.swap.rim
      have hX := hm k
      have xh := ((hi.blk 0 rfl).cell k).trans (rimC_high m vs hk4)
      have HI := hide hi
      clear hi
      have kn : (0 : Int) ≤ (k : Int) := by omega
      have k4 : (k : Int) < 4 := by omega
      obtain ⟨q0, q1, q2, q3, _, _, _⟩ := hX
      obtain ⟨r0, r1, r2, r3⟩ := HR.out
      simp only at r0 r1 r2 r3
      by_cases ht : token < (m k).high
      · have E := key (false, 100) (by unfold checkI; rw [if_neg (fun h => h HW0.out), if_neg (Int.not_le.2 k4), if_neg (show ¬ (op ≤ 2 ∧ (4 : Int) ≤ index) by omega), if_pos (.inl ht)])
        have dt : decide (token < (m k).high) = true := decide_eq_true ht
        clear key
        go_wp2_with go_quiet (fail)
        go_ret2
        refine ⟨by rw [E.out]; rfl, ?_⟩
        repeat (with_reducible refine St.drewN ?_ _)
        exact H1.out.tail
      have dt : decide (token < (m k).high) = false := decide_eq_false ht
      cases ch : RQ.changes ⟨op, k, index, token, seq, data⟩ with
      | false =>
        have E := key (false, 0) (by unfold checkI; rw [if_neg (fun h => h HW0.out), if_neg (Int.not_le.2 k4), if_neg (show ¬ (op ≤ 2 ∧ (4 : Int) ≤ index) by omega), if_neg (fun h => h.elim ht (fun h => Bool.false_ne_true (ch ▸ h.2))), if_neg (by rw [ch]; exact Bool.false_ne_true)])
        rw [ch] at HC
        clear key ch
        go_wp2_with go_quiet (fail)
        refine (HC.out _).mono ?_
        rintro e w2 ⟨rfl, hf⟩
        have h2 : St M0 w2 (rimR g m :: L) := by
          refine St.grow ?_ hf
          repeat (with_reducible refine St.drewN ?_ _)
          exact H1.out.tail
        have H2 := hide h2
        clear hf h2
        go_wp2_with fail
        go_ret2
        exact ⟨by rw [E.out]; rfl, H2.out⟩
      | true =>
        rw [ch] at HC
        go_wp2_with go_quiet (fail)
        refine (HC.out _).mono ?_
        rintro e w2 ⟨rfl, hf⟩
        have h2 : St M0 w2 (rimB g vs m :: regsR vs m :: blkR w.heap.size 51 #[.int .i64 op, .int .i64 k, .int .i64 index, .int .u64 token, .int .u32 seq, .slice A n c] :: L) := by
          refine St.grow ?_ hf
          repeat (with_reducible refine St.drewN ?_ _)
          exact HI.out
        have xh := ((h2.blk 0 rfl).cell k).trans (rimC_high m vs hk4)
        have xs := ((h2.blk 0 rfl).cell (4 + k)).trans (rimC_seq m vs hk4)
        have xl := ((h2.blk 0 rfl).cell (24 + k)).trans (rimC_log m vs hk4)
        obtain ⟨A6, c6, hv6, _, _⟩ := Rows.slice ⟨_, ((h2.get 1 rfl) k hk4).log⟩
        rw [hv6] at xl
        obtain ⟨f0, f1, f2, f3, f4, f5⟩ := (h2.blk 2 rfl).six
        have H2 := hide (h2.pick (L' := rimB g vs m :: regsR vs m :: L) 3 [0, 1])
        clear hf h2 hv6 HI H1 HC
        by_cases t0 : token = 0
        · have bt := isT t0
          have E := key (false, 100) (by unfold checkI; rw [if_neg (fun h => h HW0.out), if_neg (Int.not_le.2 k4), if_neg (show ¬ (op ≤ 2 ∧ (4 : Int) ≤ index) by omega), if_pos (.inr ⟨t0, ch⟩)])
          clear key
          go_wp2_with go_quiet (fail)
          go_ret2
          refine ⟨by rw [E.out]; rfl, ?_⟩
          repeat (with_reducible refine St.drewN ?_ _)
          exact St.addRim H2.out
        have bt := isF t0
        by_cases hgt : (m k).high < token
        · have dg : decide ((m k).high < token) = true := decide_eq_true hgt
          by_cases s1 : seq = 1
          · have b1 : (seq != 1) = false := by rw [s1]; rfl
            have bt2 : (token == (m k).high) = false := isF (by omega)
            have g1 : decide (seq ≤ 0) = false := decide_eq_false (by omega)
            have g2 : decide (1 < seq) = false := decide_eq_false (by omega)
            have o4 : op ≠ 4 := by omega
            have o5 : op ≠ 5 := by omega
            have b4 := isF o4
            have b5 := isF o5
            have E := key (true, 0) (by unfold checkI; rw [if_neg (fun h => h HW0.out), if_neg (Int.not_le.2 k4), if_neg (show ¬ (op ≤ 2 ∧ (4 : Int) ≤ index) by omega), if_neg (fun h => h.elim (show ¬ token < (m k).high by omega) (fun h => t0 h.1)), if_pos ch]; show Rg.nextA (m k).high (m k).seq (m k).log.length _ = _; unfold Rg.nextA; rw [if_pos hgt, if_neg (fun h => h s1)]; unfold Rg.next2; rw [if_neg (fun h => o4 h.1), if_neg (fun h => o5 h.1)])
            clear key
            go_wp2_with go_quiet (fail)
            go_ret2
            refine ⟨by rw [E.out]; rfl, ?_⟩
            repeat (with_reducible refine St.drewN ?_ _)
            exact St.addRim H2.out
          have b1 : (seq != 1) = true := by simp [s1]
          have E := key (false, 60) (by unfold checkI; rw [if_neg (fun h => h HW0.out), if_neg (Int.not_le.2 k4), if_neg (show ¬ (op ≤ 2 ∧ (4 : Int) ≤ index) by omega), if_neg (fun h => h.elim (show ¬ token < (m k).high by omega) (fun h => t0 h.1)), if_pos ch]; show Rg.nextA (m k).high (m k).seq (m k).log.length _ = _; unfold Rg.nextA; rw [if_pos hgt, if_pos s1])
          clear key
          go_wp2_with go_quiet (fail)
          go_ret2
          refine ⟨by rw [E.out]; rfl, ?_⟩
          repeat (with_reducible refine St.drewN ?_ _)
          exact St.addRim H2.out
        have dg : decide ((m k).high < token) = false := decide_eq_false hgt
        have bt2 : (token == (m k).high) = true := isT (by omega)
        by_cases s1 : seq = (m k).seq
        · have b1 := isT s1
          have E := key (false, 0) (by unfold checkI; rw [if_neg (fun h => h HW0.out), if_neg (Int.not_le.2 k4), if_neg (show ¬ (op ≤ 2 ∧ (4 : Int) ≤ index) by omega), if_neg (fun h => h.elim (show ¬ token < (m k).high by omega) (fun h => t0 h.1)), if_pos ch]; show Rg.nextA (m k).high (m k).seq (m k).log.length _ = _; unfold Rg.nextA; rw [if_neg hgt, if_pos s1])
          clear key
          go_wp2_with go_quiet (fail)
          go_ret2
          refine ⟨by rw [E.out]; rfl, ?_⟩
          repeat (with_reducible refine St.drewN ?_ _)
          exact St.addRim H2.out
        have b1 := isF s1
        by_cases s2 : seq ≤ (m k).seq
        · have g1 : decide (seq ≤ (m k).seq) = true := decide_eq_true s2
          have E := key (false, 80) (by unfold checkI; rw [if_neg (fun h => h HW0.out), if_neg (Int.not_le.2 k4), if_neg (show ¬ (op ≤ 2 ∧ (4 : Int) ≤ index) by omega), if_neg (fun h => h.elim (show ¬ token < (m k).high by omega) (fun h => t0 h.1)), if_pos ch]; show Rg.nextA (m k).high (m k).seq (m k).log.length _ = _; unfold Rg.nextA; rw [if_neg hgt, if_neg s1, if_pos s2])
          clear key
          go_wp2_with go_quiet (fail)
          go_ret2
          refine ⟨by rw [E.out]; rfl, ?_⟩
          repeat (with_reducible refine St.drewN ?_ _)
          exact St.addRim H2.out
        have g1 : decide (seq ≤ (m k).seq) = false := decide_eq_false s2
        by_cases s3 : seq = (m k).seq + 1
        · have g2 : decide ((m k).seq + 1 < seq) = false := decide_eq_false (by omega)
          have o4 : op ≠ 4 := by omega
          have o5 : op ≠ 5 := by omega
          have b4 := isF o4
          have b5 := isF o5
          have E := key (true, 0) (by unfold checkI; rw [if_neg (fun h => h HW0.out), if_neg (Int.not_le.2 k4), if_neg (show ¬ (op ≤ 2 ∧ (4 : Int) ≤ index) by omega), if_neg (fun h => h.elim (show ¬ token < (m k).high by omega) (fun h => t0 h.1)), if_pos ch]; show Rg.nextA (m k).high (m k).seq (m k).log.length _ = _; unfold Rg.nextA; rw [if_neg hgt, if_neg s1, if_neg s2, if_neg (fun h => h s3)]; unfold Rg.next2; rw [if_neg (fun h => o4 h.1), if_neg (fun h => o5 h.1)])
          clear key
          go_wp2_with go_quiet (fail)
          go_ret2
          refine ⟨by rw [E.out]; rfl, ?_⟩
          repeat (with_reducible refine St.drewN ?_ _)
          exact St.addRim H2.out
        have g2 : decide ((m k).seq + 1 < seq) = true := decide_eq_true (by omega)
        have E := key (false, 60) (by unfold checkI; rw [if_neg (fun h => h HW0.out), if_neg (Int.not_le.2 k4), if_neg (show ¬ (op ≤ 2 ∧ (4 : Int) ≤ index) by omega), if_neg (fun h => h.elim (show ¬ token < (m k).high by omega) (fun h => t0 h.1)), if_pos ch]; show Rg.nextA (m k).high (m k).seq (m k).log.length _ = _; unfold Rg.nextA; rw [if_neg hgt, if_neg s1, if_neg s2, if_pos s3])
        clear key
        go_wp2_with go_quiet (fail)
        go_ret2
        refine ⟨by rw [E.out]; rfl, ?_⟩
        repeat (with_reducible refine St.drewN ?_ _)
        exact St.addRim H2.out
    have d2 : decide (op ≤ 2) = false := decide_eq_false o2
    clear hkr hww
    go_enter Tryz.func66, Tryz.ntmps66
    go_wp2_with fail
    refine (HW.out _ HN.out).mono ?_
    rintro e w1 ⟨rfl, hf⟩
    have H1 := hide ((H.out.alloc 51 #[.int .i64 op, .int .i64 k, .int .i64 index, .int .u64 token, .int .u32 seq, .slice A n c]).grow hf)
    obtain ⟨e0, e1, e2, e3, e4, e5⟩ := (H1.out.blk 0 rfl).six
    clear H hf
    go_wp2_with fail
    obtain ⟨vs, hi⟩ := H1.out.swap.rim
    have hX := hm k
    have xh := ((hi.blk 0 rfl).cell k).trans (rimC_high m vs hk4)
    have HI := hide hi
    clear hi
    have kn : (0 : Int) ≤ (k : Int) := by omega
    have k4 : (k : Int) < 4 := by omega
    obtain ⟨q0, q1, q2, q3, _, _, _⟩ := hX
    obtain ⟨r0, r1, r2, r3⟩ := HR.out
    simp only at r0 r1 r2 r3
    by_cases ht : token < (m k).high
    · have E := key (false, 100) (by unfold checkI; rw [if_neg (fun h => h HW0.out), if_neg (Int.not_le.2 k4), if_neg (show ¬ (op ≤ 2 ∧ (4 : Int) ≤ index) by omega), if_pos (.inl ht)])
      have dt : decide (token < (m k).high) = true := decide_eq_true ht
      clear key
      go_wp2_with go_quiet (fail)
      go_ret2
      refine ⟨by rw [E.out]; rfl, ?_⟩
      repeat (with_reducible refine St.drewN ?_ _)
      exact H1.out.tail
    have dt : decide (token < (m k).high) = false := decide_eq_false ht
    cases ch : RQ.changes ⟨op, k, index, token, seq, data⟩ with
    | false =>
      have E := key (false, 0) (by unfold checkI; rw [if_neg (fun h => h HW0.out), if_neg (Int.not_le.2 k4), if_neg (show ¬ (op ≤ 2 ∧ (4 : Int) ≤ index) by omega), if_neg (fun h => h.elim ht (fun h => Bool.false_ne_true (ch ▸ h.2))), if_neg (by rw [ch]; exact Bool.false_ne_true)])
      rw [ch] at HC
      clear key ch
      go_wp2_with go_quiet (fail)
      refine (HC.out _).mono ?_
      rintro e w2 ⟨rfl, hf⟩
      have h2 : St M0 w2 (rimR g m :: L) := by
        refine St.grow ?_ hf
        repeat (with_reducible refine St.drewN ?_ _)
        exact H1.out.tail
      have H2 := hide h2
      clear hf h2
      go_wp2_with fail
      go_ret2
      exact ⟨by rw [E.out]; rfl, H2.out⟩
    | true =>
      rw [ch] at HC
      go_wp2_with go_quiet (fail)
      refine (HC.out _).mono ?_
      rintro e w2 ⟨rfl, hf⟩
      have h2 : St M0 w2 (rimB g vs m :: regsR vs m :: blkR w.heap.size 51 #[.int .i64 op, .int .i64 k, .int .i64 index, .int .u64 token, .int .u32 seq, .slice A n c] :: L) := by
        refine St.grow ?_ hf
        repeat (with_reducible refine St.drewN ?_ _)
        exact HI.out
      have xh := ((h2.blk 0 rfl).cell k).trans (rimC_high m vs hk4)
      have xs := ((h2.blk 0 rfl).cell (4 + k)).trans (rimC_seq m vs hk4)
      have xl := ((h2.blk 0 rfl).cell (24 + k)).trans (rimC_log m vs hk4)
      obtain ⟨A6, c6, hv6, _, _⟩ := Rows.slice ⟨_, ((h2.get 1 rfl) k hk4).log⟩
      rw [hv6] at xl
      obtain ⟨f0, f1, f2, f3, f4, f5⟩ := (h2.blk 2 rfl).six
      have H2 := hide (h2.pick (L' := rimB g vs m :: regsR vs m :: L) 3 [0, 1])
      clear hf h2 hv6 HI H1 HC
      by_cases t0 : token = 0
      · have bt := isT t0
        have E := key (false, 100) (by unfold checkI; rw [if_neg (fun h => h HW0.out), if_neg (Int.not_le.2 k4), if_neg (show ¬ (op ≤ 2 ∧ (4 : Int) ≤ index) by omega), if_pos (.inr ⟨t0, ch⟩)])
        clear key
        go_wp2_with go_quiet (fail)
        go_ret2
        refine ⟨by rw [E.out]; rfl, ?_⟩
        repeat (with_reducible refine St.drewN ?_ _)
        exact St.addRim H2.out
      have bt := isF t0
      by_cases hgt : (m k).high < token
      · have dg : decide ((m k).high < token) = true := decide_eq_true hgt
        by_cases s1 : seq = 1
        · have b1 : (seq != 1) = false := by rw [s1]; rfl
          have bt2 : (token == (m k).high) = false := isF (by omega)
          have g1 : decide (seq ≤ 0) = false := decide_eq_false (by omega)
          have g2 : decide (1 < seq) = false := decide_eq_false (by omega)
          by_cases o4 : op = 4
          · have b4 := isT o4
            by_cases n4 : 4 ≤ (m k).log.length
            · have l4 : decide ((4 : Int) ≤ ((m k).log.length : Int)) = true := decide_eq_true (by omega)
              have E := key (false, 42) (by unfold checkI; rw [if_neg (fun h => h HW0.out), if_neg (Int.not_le.2 k4), if_neg (show ¬ (op ≤ 2 ∧ (4 : Int) ≤ index) by omega), if_neg (fun h => h.elim (show ¬ token < (m k).high by omega) (fun h => t0 h.1)), if_pos ch]; show Rg.nextA (m k).high (m k).seq (m k).log.length _ = _; unfold Rg.nextA; rw [if_pos hgt, if_neg (fun h => h s1)]; unfold Rg.next2; rw [if_pos ⟨o4, n4⟩])
              clear key
              go_wp2_with go_quiet (fail)
              go_ret2
              refine ⟨by rw [E.out]; rfl, ?_⟩
              repeat (with_reducible refine St.drewN ?_ _)
              exact St.addRim H2.out
            have l4 : decide ((4 : Int) ≤ ((m k).log.length : Int)) = false := decide_eq_false (by omega)
            have b5 : (op == 5) = false := isF (by omega)
            have E := key (true, 0) (by unfold checkI; rw [if_neg (fun h => h HW0.out), if_neg (Int.not_le.2 k4), if_neg (show ¬ (op ≤ 2 ∧ (4 : Int) ≤ index) by omega), if_neg (fun h => h.elim (show ¬ token < (m k).high by omega) (fun h => t0 h.1)), if_pos ch]; show Rg.nextA (m k).high (m k).seq (m k).log.length _ = _; unfold Rg.nextA; rw [if_pos hgt, if_neg (fun h => h s1)]; unfold Rg.next2; rw [if_neg (fun h => n4 h.2), if_neg (fun h => by have := h.1; simp only at this; omega)])
            clear key
            go_wp2_with go_quiet (fail)
            go_ret2
            refine ⟨by rw [E.out]; rfl, ?_⟩
            repeat (with_reducible refine St.drewN ?_ _)
            exact St.addRim H2.out
          have b4 := isF o4
          by_cases o5 : op = 5
          · have b5 := isT o5
            by_cases n5 : ((m k).log.length : Int) < index
            · have l5 : decide (((m k).log.length : Int) < index) = true := decide_eq_true n5
              have E := key (false, 1) (by unfold checkI; rw [if_neg (fun h => h HW0.out), if_neg (Int.not_le.2 k4), if_neg (show ¬ (op ≤ 2 ∧ (4 : Int) ≤ index) by omega), if_neg (fun h => h.elim (show ¬ token < (m k).high by omega) (fun h => t0 h.1)), if_pos ch]; show Rg.nextA (m k).high (m k).seq (m k).log.length _ = _; unfold Rg.nextA; rw [if_pos hgt, if_neg (fun h => h s1)]; unfold Rg.next2; rw [if_neg (fun h => o4 h.1), if_pos ⟨o5, n5⟩])
              clear key
              go_wp2_with go_quiet (fail)
              go_ret2
              refine ⟨by rw [E.out]; rfl, ?_⟩
              repeat (with_reducible refine St.drewN ?_ _)
              exact St.addRim H2.out
            have l5 : decide (((m k).log.length : Int) < index) = false := decide_eq_false n5
            have E := key (true, 0) (by unfold checkI; rw [if_neg (fun h => h HW0.out), if_neg (Int.not_le.2 k4), if_neg (show ¬ (op ≤ 2 ∧ (4 : Int) ≤ index) by omega), if_neg (fun h => h.elim (show ¬ token < (m k).high by omega) (fun h => t0 h.1)), if_pos ch]; show Rg.nextA (m k).high (m k).seq (m k).log.length _ = _; unfold Rg.nextA; rw [if_pos hgt, if_neg (fun h => h s1)]; unfold Rg.next2; rw [if_neg (fun h => o4 h.1), if_neg (fun h => n5 h.2)])
            clear key
            go_wp2_with go_quiet (fail)
            go_ret2
            refine ⟨by rw [E.out]; rfl, ?_⟩
            repeat (with_reducible refine St.drewN ?_ _)
            exact St.addRim H2.out
          have b5 := isF o5
          have E := key (true, 0) (by unfold checkI; rw [if_neg (fun h => h HW0.out), if_neg (Int.not_le.2 k4), if_neg (show ¬ (op ≤ 2 ∧ (4 : Int) ≤ index) by omega), if_neg (fun h => h.elim (show ¬ token < (m k).high by omega) (fun h => t0 h.1)), if_pos ch]; show Rg.nextA (m k).high (m k).seq (m k).log.length _ = _; unfold Rg.nextA; rw [if_pos hgt, if_neg (fun h => h s1)]; unfold Rg.next2; rw [if_neg (fun h => o4 h.1), if_neg (fun h => o5 h.1)])
          clear key
          go_wp2_with go_quiet (fail)
          go_ret2
          refine ⟨by rw [E.out]; rfl, ?_⟩
          repeat (with_reducible refine St.drewN ?_ _)
          exact St.addRim H2.out
        have b1 : (seq != 1) = true := by simp [s1]
        have E := key (false, 60) (by unfold checkI; rw [if_neg (fun h => h HW0.out), if_neg (Int.not_le.2 k4), if_neg (show ¬ (op ≤ 2 ∧ (4 : Int) ≤ index) by omega), if_neg (fun h => h.elim (show ¬ token < (m k).high by omega) (fun h => t0 h.1)), if_pos ch]; show Rg.nextA (m k).high (m k).seq (m k).log.length _ = _; unfold Rg.nextA; rw [if_pos hgt, if_pos s1])
        clear key
        go_wp2_with go_quiet (fail)
        go_ret2
        refine ⟨by rw [E.out]; rfl, ?_⟩
        repeat (with_reducible refine St.drewN ?_ _)
        exact St.addRim H2.out
      have dg : decide ((m k).high < token) = false := decide_eq_false hgt
      have bt2 : (token == (m k).high) = true := isT (by omega)
      by_cases s1 : seq = (m k).seq
      · have b1 := isT s1
        have E := key (false, 0) (by unfold checkI; rw [if_neg (fun h => h HW0.out), if_neg (Int.not_le.2 k4), if_neg (show ¬ (op ≤ 2 ∧ (4 : Int) ≤ index) by omega), if_neg (fun h => h.elim (show ¬ token < (m k).high by omega) (fun h => t0 h.1)), if_pos ch]; show Rg.nextA (m k).high (m k).seq (m k).log.length _ = _; unfold Rg.nextA; rw [if_neg hgt, if_pos s1])
        clear key
        go_wp2_with go_quiet (fail)
        go_ret2
        refine ⟨by rw [E.out]; rfl, ?_⟩
        repeat (with_reducible refine St.drewN ?_ _)
        exact St.addRim H2.out
      have b1 := isF s1
      by_cases s2 : seq ≤ (m k).seq
      · have g1 : decide (seq ≤ (m k).seq) = true := decide_eq_true s2
        have E := key (false, 80) (by unfold checkI; rw [if_neg (fun h => h HW0.out), if_neg (Int.not_le.2 k4), if_neg (show ¬ (op ≤ 2 ∧ (4 : Int) ≤ index) by omega), if_neg (fun h => h.elim (show ¬ token < (m k).high by omega) (fun h => t0 h.1)), if_pos ch]; show Rg.nextA (m k).high (m k).seq (m k).log.length _ = _; unfold Rg.nextA; rw [if_neg hgt, if_neg s1, if_pos s2])
        clear key
        go_wp2_with go_quiet (fail)
        go_ret2
        refine ⟨by rw [E.out]; rfl, ?_⟩
        repeat (with_reducible refine St.drewN ?_ _)
        exact St.addRim H2.out
      have g1 : decide (seq ≤ (m k).seq) = false := decide_eq_false s2
      by_cases s3 : seq = (m k).seq + 1
      · have g2 : decide ((m k).seq + 1 < seq) = false := decide_eq_false (by omega)
        by_cases o4 : op = 4
        · have b4 := isT o4
          by_cases n4 : 4 ≤ (m k).log.length
          · have l4 : decide ((4 : Int) ≤ ((m k).log.length : Int)) = true := decide_eq_true (by omega)
            have E := key (false, 42) (by unfold checkI; rw [if_neg (fun h => h HW0.out), if_neg (Int.not_le.2 k4), if_neg (show ¬ (op ≤ 2 ∧ (4 : Int) ≤ index) by omega), if_neg (fun h => h.elim (show ¬ token < (m k).high by omega) (fun h => t0 h.1)), if_pos ch]; show Rg.nextA (m k).high (m k).seq (m k).log.length _ = _; unfold Rg.nextA; rw [if_neg hgt, if_neg s1, if_neg s2, if_neg (fun h => h s3)]; unfold Rg.next2; rw [if_pos ⟨o4, n4⟩])
            clear key
            go_wp2_with go_quiet (fail)
            go_ret2
            refine ⟨by rw [E.out]; rfl, ?_⟩
            repeat (with_reducible refine St.drewN ?_ _)
            exact St.addRim H2.out
          have l4 : decide ((4 : Int) ≤ ((m k).log.length : Int)) = false := decide_eq_false (by omega)
          have b5 : (op == 5) = false := isF (by omega)
          have E := key (true, 0) (by unfold checkI; rw [if_neg (fun h => h HW0.out), if_neg (Int.not_le.2 k4), if_neg (show ¬ (op ≤ 2 ∧ (4 : Int) ≤ index) by omega), if_neg (fun h => h.elim (show ¬ token < (m k).high by omega) (fun h => t0 h.1)), if_pos ch]; show Rg.nextA (m k).high (m k).seq (m k).log.length _ = _; unfold Rg.nextA; rw [if_neg hgt, if_neg s1, if_neg s2, if_neg (fun h => h s3)]; unfold Rg.next2; rw [if_neg (fun h => n4 h.2), if_neg (fun h => by have := h.1; simp only at this; omega)])
          clear key
          go_wp2_with go_quiet (fail)
          go_ret2
          refine ⟨by rw [E.out]; rfl, ?_⟩
          repeat (with_reducible refine St.drewN ?_ _)
          exact St.addRim H2.out
        have b4 := isF o4
        by_cases o5 : op = 5
        · have b5 := isT o5
          by_cases n5 : ((m k).log.length : Int) < index
          · have l5 : decide (((m k).log.length : Int) < index) = true := decide_eq_true n5
            have E := key (false, 1) (by unfold checkI; rw [if_neg (fun h => h HW0.out), if_neg (Int.not_le.2 k4), if_neg (show ¬ (op ≤ 2 ∧ (4 : Int) ≤ index) by omega), if_neg (fun h => h.elim (show ¬ token < (m k).high by omega) (fun h => t0 h.1)), if_pos ch]; show Rg.nextA (m k).high (m k).seq (m k).log.length _ = _; unfold Rg.nextA; rw [if_neg hgt, if_neg s1, if_neg s2, if_neg (fun h => h s3)]; unfold Rg.next2; rw [if_neg (fun h => o4 h.1), if_pos ⟨o5, n5⟩])
            clear key
            go_wp2_with go_quiet (fail)
            go_ret2
            refine ⟨by rw [E.out]; rfl, ?_⟩
            repeat (with_reducible refine St.drewN ?_ _)
            exact St.addRim H2.out
          have l5 : decide (((m k).log.length : Int) < index) = false := decide_eq_false n5
          have E := key (true, 0) (by unfold checkI; rw [if_neg (fun h => h HW0.out), if_neg (Int.not_le.2 k4), if_neg (show ¬ (op ≤ 2 ∧ (4 : Int) ≤ index) by omega), if_neg (fun h => h.elim (show ¬ token < (m k).high by omega) (fun h => t0 h.1)), if_pos ch]; show Rg.nextA (m k).high (m k).seq (m k).log.length _ = _; unfold Rg.nextA; rw [if_neg hgt, if_neg s1, if_neg s2, if_neg (fun h => h s3)]; unfold Rg.next2; rw [if_neg (fun h => o4 h.1), if_neg (fun h => n5 h.2)])
          clear key
          go_wp2_with go_quiet (fail)
          go_ret2
          refine ⟨by rw [E.out]; rfl, ?_⟩
          repeat (with_reducible refine St.drewN ?_ _)
          exact St.addRim H2.out
        have b5 := isF o5
        have E := key (true, 0) (by unfold checkI; rw [if_neg (fun h => h HW0.out), if_neg (Int.not_le.2 k4), if_neg (show ¬ (op ≤ 2 ∧ (4 : Int) ≤ index) by omega), if_neg (fun h => h.elim (show ¬ token < (m k).high by omega) (fun h => t0 h.1)), if_pos ch]; show Rg.nextA (m k).high (m k).seq (m k).log.length _ = _; unfold Rg.nextA; rw [if_neg hgt, if_neg s1, if_neg s2, if_neg (fun h => h s3)]; unfold Rg.next2; rw [if_neg (fun h => o4 h.1), if_neg (fun h => o5 h.1)])
        clear key
        go_wp2_with go_quiet (fail)
        go_ret2
        refine ⟨by rw [E.out]; rfl, ?_⟩
        repeat (with_reducible refine St.drewN ?_ _)
        exact St.addRim H2.out
      have g2 : decide ((m k).seq + 1 < seq) = true := decide_eq_true (by omega)
      have E := key (false, 60) (by unfold checkI; rw [if_neg (fun h => h HW0.out), if_neg (Int.not_le.2 k4), if_neg (show ¬ (op ≤ 2 ∧ (4 : Int) ≤ index) by omega), if_neg (fun h => h.elim (show ¬ token < (m k).high by omega) (fun h => t0 h.1)), if_pos ch]; show Rg.nextA (m k).high (m k).seq (m k).log.length _ = _; unfold Rg.nextA; rw [if_neg hgt, if_neg s1, if_neg s2, if_pos s3])
      clear key
      go_wp2_with go_quiet (fail)
      go_ret2
      refine ⟨by rw [E.out]; rfl, ?_⟩
      repeat (with_reducible refine St.drewN ?_ _)
      exact St.addRim H2.out
  · have E := key (false, r.wrong) (by unfold checkI; rw [if_pos hw])
    have hb : (r.wrong != 0) = true := by simp [hw]
    generalize r.wrong = x at *
    clear key hn
    go_enter Tryz.func66, Tryz.ntmps66
    go_wp2_with fail
    refine (HW.out _ HN.out).mono ?_
    rintro e w1 ⟨rfl, hf⟩
    have H1 := hide ((H.out.junk _).grow hf)
    clear H hf
    go_wp2_with fail
    go_ret2
    exact ⟨by rw [E.out]; rfl, H1.out⟩

end Go.Proofs.YtpaelngpmbeedaaGreatDoor
