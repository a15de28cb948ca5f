/- StoreSure: the law's walk. Printed by gen_stg.py. -/
import Derived.Test.YtpaelngpmbeedaaDoorStoE
import Derived.Test.YtpaelngpmbeedaaDoorOpG
namespace Go.Proofs.YtpaelngpmbeedaaDoor
open Go.RowKit

/-! ### plain -/
def rS (tk rg bl : Int) (b : List Int) : RQ := ⟨2, rg, bl, tk, 1, b⟩
def rT (tk rg bl : Int) : RQ := ⟨1, rg, bl, tk, 0, []⟩
theorem rS_ok {tk : Int} (h : (18446744073709551615 : Int) = tk) (rg bl : Int) (b : List Int) : (rS tk rg bl b).ok := ⟨by show 0 ≤ tk; omega, by show tk < _; omega, by show (0 : Int) ≤ 1; decide, by show (1 : Int) < _; decide⟩
theorem rT_ok {tk : Int} (h : (18446744073709551615 : Int) = tk) (rg bl : Int) : (rT tk rg bl).ok := ⟨by show 0 ≤ tk; omega, by show tk < _; omega, by show (0 : Int) ≤ 0; decide, by show (0 : Int) < _; decide⟩
theorem rS_w {tk rg bl : Int} {b : List Int} (h1 : 0 ≤ rg ∧ rg ≤ 3) (h2 : 0 ≤ bl ∧ bl ≤ 3) (h3 : b.length ≤ 24) : (rS tk rg bl b).wrong = 0 := by
  unfold RQ.wrong rS
  rw [if_neg (by show ¬ ((2 : Int) < 1 ∨ (5 : Int) < 2 ∨ rg < 0 ∨ 255 < rg ∨ bl < 0 ∨ 255 < bl); omega), if_neg (by show ¬ 24 < b.length; omega)]
theorem rT_w {tk rg bl : Int} (h1 : 0 ≤ rg ∧ rg ≤ 3) (h2 : 0 ≤ bl ∧ bl ≤ 3) : (rT tk rg bl).wrong = 0 := by
  unfold RQ.wrong rT
  rw [if_neg (by show ¬ ((1 : Int) < 1 ∨ (5 : Int) < 1 ∨ rg < 0 ∨ 255 < rg ∨ bl < 0 ∨ 255 < bl); omega), if_neg (by show ¬ 24 < ([] : List Int).length; decide)]
theorem sure_read {m : Nat → Rg} {tk rg bl : Int} {b : List Int} (h1 : 0 ≤ rg ∧ rg ≤ 3) (h2 : 0 ≤ bl ∧ bl ≤ 3) (c0 : (checkI m (rS tk rg bl b)).2 = 0) (c1 : (checkI m (rS tk rg bl b)).1 = true) :
    (checkI (doM m (rS tk rg bl b)) (rT tk rg bl)).2 = 0 ∧ doO (doM m (rS tk rg bl b)) (rT tk rg bl) = [b] := by
  have hm : doM m (rS tk rg bl b) = upd m rg.toNat ((m rg.toNat).act (rS tk rg bl b)) := if_pos ⟨c0, c1⟩
  have hk : checkI (doM m (rS tk rg bl b)) (rT tk rg bl) = (false, 0) := by
    unfold checkI
    rw [if_neg (fun h => h (rT_w h1 h2)), if_neg (by show ¬ (4 : Int) ≤ rg; omega), if_neg (by show ¬ ((1 : Int) ≤ 2 ∧ (4 : Int) ≤ bl); omega), if_neg ?_, if_neg (by show ¬ RQ.changes (rT tk rg bl) = true; exact Bool.false_ne_true)]
    rintro (h | h)
    · have h : tk < (doM m (rS tk rg bl b) rg.toNat).high := h
      rw [hm, upd_at] at h
      exact absurd h (Int.lt_irrefl _)
    · exact absurd h.2 Bool.false_ne_true
  have h0 : (checkI (doM m (rS tk rg bl b)) (rT tk rg bl)).2 = 0 := by rw [hk]
  have hd : doM (doM m (rS tk rg bl b)) (rT tk rg bl) = doM m (rS tk rg bl b) := if_neg (by rw [hk]; exact fun h => absurd h.2 Bool.false_ne_true)
  refine ⟨h0, ?_⟩
  unfold doO
  rw [if_pos h0, hd, hm]
  show Rg.out (upd m rg.toNat ((m rg.toNat).act (rS tk rg bl b)) rg.toNat) (rT tk rg bl) = [b]
  rw [upd_at]
  show (if (1 : Int) = 1 then [(upd (m rg.toNat).b bl.toNat b) bl.toNat] else _) = [b]
  rw [if_pos rfl, upd_at]
theorem at_build6 {P : Program} {ops : Array Oper} {rest : List Oper} {o : Oper} {ac : Act} {Q : Exit → Act → World → Prop} {w w' : World} {v : Value} (hgd : o.guard = none) (t : TypeId) (k0 k1 k2 k3 k4 k5 : Nat) (x0 x1 x2 x3 x4 x5 : Operand) (u0 u1 u2 u3 u4 u5 : Value) (ho : o.op = .build t #[(k0, x0), (k1, x1), (k2, x2), (k3, x3), (k4, x4), (k5, x5)]) (e0 : ac.eval x0 = u0) (e1 : ac.eval x1 = u1) (e2 : ac.eval x2 = u2) (e3 : ac.eval x3 = u3) (e4 : ac.eval x4 = u4) (e5 : ac.eval x5 = u5)
    (hrun : (Instr.build t #[(k0, u0), (k1, u1), (k2, u2), (k3, u3), (k4, u4), (k5, u5)]).run P w = .ok v w') (h : wpList P ops Q rest (ac.put o.dst v) w') : wpList P ops Q (o :: rest) ac w := by
  refine wpList_plain hgd fun K hK => ?_
  unfold Oper.wp execOp
  simp only [ho, e0, e1, e2, e3, e4, e5, List.map_toArray, List.map_cons, List.map_nil, Sem.run_bind, Sem.run_pure, Result.andThen_ok, hrun]
  exact hK _ _ h
theorem at_build4 {P : Program} {ops : Array Oper} {rest : List Oper} {o : Oper} {ac : Act} {Q : Exit → Act → World → Prop} {w w' : World} {v : Value} (hgd : o.guard = none) (t : TypeId) (k0 k1 k2 k3 : Nat) (x0 x1 x2 x3 : Operand) (u0 u1 u2 u3 : Value) (ho : o.op = .build t #[(k0, x0), (k1, x1), (k2, x2), (k3, x3)]) (e0 : ac.eval x0 = u0) (e1 : ac.eval x1 = u1) (e2 : ac.eval x2 = u2) (e3 : ac.eval x3 = u3)
    (hrun : (Instr.build t #[(k0, u0), (k1, u1), (k2, u2), (k3, u3)]).run P w = .ok v w') (h : wpList P ops Q rest (ac.put o.dst v) w') : wpList P ops Q (o :: rest) ac w := by
  refine wpList_plain hgd fun K hK => ?_
  unfold Oper.wp execOp
  simp only [ho, e0, e1, e2, e3, List.map_toArray, List.map_cons, List.map_nil, Sem.run_bind, Sem.run_pure, Result.andThen_ok, hrun]
  exact hK _ _ h
set_option maxRecDepth 100000 in
theorem build_rS (tk rg bl : Int) (B : Option Addr) (nb db : Nat) (w : World) : (Instr.build 39 #[(0, .int .i64 2), (1, .int .i64 rg), (2, .int .i64 bl), (3, .int .u64 tk), (4, .int .u32 1), (5, .slice B nb db)]).run Tryd.prog w = .ok (.agg #[.int .i64 2, .int .i64 rg, .int .i64 bl, .int .u64 tk, .int .u32 1, .slice B nb db]) w := by kernel_rfl
set_option maxRecDepth 100000 in
theorem build_rT (tk rg bl : Int) (w : World) : (Instr.build 39 #[(0, .int .i64 1), (1, .int .i64 rg), (2, .int .i64 bl), (3, .int .u64 tk)]).run Tryd.prog w = .ok (.agg #[.int .i64 1, .int .i64 rg, .int .i64 bl, .int .u64 tk, .int .u32 0, .slice none 0 0]) w := by kernel_rfl
/-- a store: up, or down -/
def StI (gs : Nat) (s : SM) (p : Value) (K T : Int) : Prop := (p = .pointer (some ⟨gs, 0, none⟩) ∧ Up s 0 8 K T) ∨ (p = .pointer none ∧ ∃ N, Down s 0 8 N K T)
theorem StI.mono {gs : Nat} {s : SM} {p : Value} {K K' T T' : Int} (h : StI gs s p K T) (hk : K ≤ K') (ht : T ≤ T') : StI gs s p K' T' := by
  rcases h with ⟨e, h⟩ | ⟨e, N, h⟩
  · exact .inl ⟨e, h.mono hk ht⟩
  · exact .inr ⟨e, N, h.mono hk ht⟩
theorem StI.fuse {gs : Nat} {s : SM} {p : Value} {K T : Int} (h : StI gs s p K T) {n : Int} (hn : -9223372036854775808 ≤ n ∧ n ≤ 9223372036854775807) : StI gs { s with D := { s.D with fuse := n } } p K T := by
  rcases h with ⟨e, h⟩ | ⟨e, N, h⟩
  · exact .inl ⟨e, h.fuse hn⟩
  · exact .inr ⟨e, N, h.fuse hn⟩
theorem StI.crash {gs : Nat} {s : SM} {p : Value} {K T : Int} (h : StI gs s p K T) (hK : K ≤ 4000000000) (hT : T ≤ 250) (picks : List Int) :
    DsOk s.D 900000 ∧ OpOk (s.D.crash picks) 0 8 ∧ DsOk (s.D.crash picks) 10 ∧ Up ⟨openM (s.D.crash picks) 0 8, openD (s.D.crash picks) 0 8, openJ (s.D.crash picks) 0 8, false⟩ 0 8 (K + 1) (T + 1) := by
  rcases h with ⟨_, h⟩ | ⟨_, N, h⟩
  · obtain ⟨hC, hL, _, hR⟩ := h.crash picks
    obtain ⟨o1, _, o3, _⟩ := hR.open_ hC hL hK hT
    exact ⟨h.c.dsok _, o1, hC.dsok _, o3⟩
  · obtain ⟨hC, hL, _, hR⟩ := h.crash picks
    have hd : DsOk s.D 900000 := h.ok.d.mono (by omega)
    rcases hR with hR | hR
    · obtain ⟨o1, _, o3, _⟩ := hR.open_ hC hL hK hT
      exact ⟨hd, o1, hC.dsok _, o3⟩
    · obtain ⟨o1, _, o3, _⟩ := hR.open_ hC hL hK hT
      exact ⟨hd, o1, hC.dsok _, o3⟩
theorem Up.crashM {s : SM} {K T : Int} (h : Up s 0 8 K T) (hK : K ≤ 4000000000) (hT : T ≤ 250) (picks : List Int) :
    DsOk s.D 900000 ∧ OpOk (s.D.crash picks) 0 8 ∧ DsOk (s.D.crash picks) 10 ∧ openM (s.D.crash picks) 0 8 = s.M ∧ Up ⟨openM (s.D.crash picks) 0 8, openD (s.D.crash picks) 0 8, openJ (s.D.crash picks) 0 8, false⟩ 0 8 (K + 1) (T + 1) ∧ NF (openD (s.D.crash picks) 0 8) := by
  obtain ⟨hC, hL, _, hR⟩ := h.crash picks
  obtain ⟨o1, o2, o3, o4, _⟩ := hR.open_ hC hL hK hT
  exact ⟨h.c.dsok _, o1, hC.dsok _, o2, o3, o4.nf⟩

set_option maxHeartbeats 32000000 in
set_option maxRecDepth 100000 in
theorem sure_st {M0 : Imm} {L : List Res} (hT : Tbl M0) (v : Value) (l : List OpS) (rg bl : Int) (B : Option Addr) (nb db : Nat) (b : List Int) (v4 : Value) (picks : List Int) (w : World) (hl : ∀ x ∈ l, OpSQ x) (hb : Bytes b) (h : St M0 w (rowsR 19 OpSR v l :: intsR .u8 (.slice B nb db) b :: intsR .i64 v4 picks :: L)) :
    Calls Tryd.prog 5 #[v, .int .i64 rg, .int .i64 bl, .slice B nb db, v4] w fun e w' => e = .returned (.bool true) ∧ St M0 w' L := by
  obtain ⟨A, c, rfl, hc, hcm⟩ := (h.getRows 0 rfl).slice
  obtain ⟨PA, pc, rfl, _, _, _⟩ := h.get 2 rfl
  have hnb : nb = b.length := (h.get 1 rfl).sl.1
  generalize hn : l.length = n at *
  have HN := hide hn
  have HQ := hide hl
  have HB := hide hb
  have HNB := hide hnb
  have H := hide h
  clear hn h hb hl hnb
  go_enter Tryd.func5, Tryd.ntmps5
  go_wp2_with fail
  refine (awake23_st hT _ H.out).mono ?_
  rintro e w1 ⟨rfl, h⟩
  have H1 := hide h
  clear h H
  go_wp2_with fail
  refine (begun_st hT _ H1.out).mono ?_
  rintro e w2 ⟨gd, g, gs, gj, gi, rfl, h⟩
  have H2 := hide h
  clear h H1
  by_cases t0 : 20 < n
  · as_aux_lemma =>
      have t0a0 : decide ((20 : Int) < (n : Int)) = true := decide_eq_true (by omega)
      go_wp2_with fail
      go_ret
      exact ⟨rfl, H2.out.tail.tail.tail.tail.tail.tail.tail.tail⟩
  have t0b0 : decide ((20 : Int) < (n : Int)) = false := decide_eq_false (by omega)
  by_cases t1 : rg < 0
  · as_aux_lemma =>
      have t1a0 : decide (rg < 0) = true := decide_eq_true (by omega)
      go_wp2_with fail
      go_ret
      exact ⟨rfl, H2.out.tail.tail.tail.tail.tail.tail.tail.tail⟩
  have t1b0 : decide (rg < 0) = false := decide_eq_false (by omega)
  by_cases t2 : 3 < rg
  · as_aux_lemma =>
      have t2a0 : decide (3 < rg) = true := decide_eq_true (by omega)
      have t2a1 : decide (rg > 3) = true := decide_eq_true (by omega)
      go_wp2_with fail
      go_ret
      exact ⟨rfl, H2.out.tail.tail.tail.tail.tail.tail.tail.tail⟩
  have t2b0 : decide (3 < rg) = false := decide_eq_false (by omega)
  have t2b1 : decide (rg > 3) = false := decide_eq_false (by omega)
  by_cases t3 : bl < 0
  · as_aux_lemma =>
      have t3a0 : decide (bl < 0) = true := decide_eq_true (by omega)
      go_wp2_with fail
      go_ret
      exact ⟨rfl, H2.out.tail.tail.tail.tail.tail.tail.tail.tail⟩
  have t3b0 : decide (bl < 0) = false := decide_eq_false (by omega)
  by_cases t4 : 3 < bl
  · as_aux_lemma =>
      have t4a0 : decide (3 < bl) = true := decide_eq_true (by omega)
      have t4a1 : decide (bl > 3) = true := decide_eq_true (by omega)
      go_wp2_with fail
      go_ret
      exact ⟨rfl, H2.out.tail.tail.tail.tail.tail.tail.tail.tail⟩
  have t4b0 : decide (3 < bl) = false := decide_eq_false (by omega)
  have t4b1 : decide (bl > 3) = false := decide_eq_false (by omega)
  by_cases t5 : 24 < nb
  · as_aux_lemma =>
      have t5a0 : decide ((24 : Int) < (nb : Int)) = true := decide_eq_true (by omega)
      go_wp2_with fail
      go_ret
      exact ⟨rfl, H2.out.tail.tail.tail.tail.tail.tail.tail.tail⟩
  have t5b0 : decide ((24 : Int) < (nb : Int)) = false := decide_eq_false (by omega)
  go_wp2_with fail
  have HRG := hide (show 0 ≤ rg ∧ rg ≤ 3 by omega)
  have HBL := hide (show 0 ≤ bl ∧ bl ≤ 3 by omega)
  have HNN := hide (show n ≤ 20 by omega)
  have HN24 := hide (show b.length ≤ 24 by have := HNB.out; omega)
  clear t0b0 t1b0 t2b0 t2b1 t3b0 t4b0 t4b1 t5b0 t0 t1 t2 t3 t4 t5
  go_loopg [14] n (fun gh i wr => ∃ (k : Nat) (s : SM) (gs gj gi : Nat) (p : Value), gh = n - k ∧ k ≤ n ∧ i = .int .i64 (k : Nat) ∧ StI gs s p (10 + 4 * (k : Int)) (1 + (k : Int)) ∧ St M0 wr (blkR g 96 (stoC 2 gd p) :: srvR gs gd gj gi 0 8 s (rowsR 19 OpSR (.slice A n c) l :: intsR .u8 (.slice B nb db) b :: intsR .i64 (.slice PA picks.length pc) picks :: L)))
  case atStart => exact ⟨0, st0, gs, gj, gi, .pointer (some ⟨gs, 0, none⟩), rfl, by omega, rfl, .inl ⟨rfl, st0_up.2.2.1⟩, H2.out⟩
  case round =>
    clear H2
    obtain ⟨k, s, gs, gj, gi, p, hg, hk, rfl, hI, h⟩ := hrel
    have HG := hide hg
    have HI := hide hI
    clear hg hI
    by_cases hlt : k < n
    · have hx := List.getElem?_eq_getElem (l := l) (i := k) (by rw [HN.out]; exact hlt)
      generalize l[k]'(by rw [HN.out]; exact hlt) = x at hx
      obtain ⟨ad, B1, d1, p1, p2, rfl, hxo, h1⟩ := h.opS 5 rfl hx
      have HXQ := hide (HQ.out x (List.mem_of_getElem? hx))
      have HXO := hide hxo
      have HKK := hide (show k < 20 by have := HNN.out; omega)
      have hcell := h1.get 0 rfl
      obtain ⟨e0, e1, e2, e3, e4, e5, e6, e7⟩ := cells8 hcell.1
      have e18 : wr.cell? ⟨(ad.add (k * 19)).block, (ad.add (k * 19)).off + 18, none⟩ = some (.slice p1 x.p.length p2) := hcell.2.1
      have HX := hide (((h1.copy 0 rfl).pers1 (R' := fun w' => Ints w' .i64 (.slice p1 x.p.length p2) x.p) (fun w' hi => hi.2.2.2)).swap.pers1 (R' := fun w' => Ints w' .u8 (.slice B1 x.r.data.length d1) x.r.data) (fun w' hi => hi.2.2.1))
      obtain ⟨xd, xn, xr, xp⟩ := x
      have HXQ : Hid (Bytes xr.data ∧ -9223372036854775808 ≤ xn ∧ xn ≤ 9223372036854775807) := HXQ
      have HXO : Hid xr.ok := HXO
      have e0 : wr.cell? (ad.add (k * 19)) = some (.int .i64 xd) := e0
      have e1 : wr.cell? ⟨(ad.add (k * 19)).block, (ad.add (k * 19)).off + 1, none⟩ = some (.int .i64 xn) := e1
      have e2 : wr.cell? ⟨(ad.add (k * 19)).block, (ad.add (k * 19)).off + 2, none⟩ = some (.int .i64 xr.op) := e2
      have e3 : wr.cell? ⟨(ad.add (k * 19)).block, (ad.add (k * 19)).off + 2 + 1, none⟩ = some (.int .i64 xr.region) := e3
      have e4 : wr.cell? ⟨(ad.add (k * 19)).block, (ad.add (k * 19)).off + 2 + 2, none⟩ = some (.int .i64 xr.index) := e4
      have e5 : wr.cell? ⟨(ad.add (k * 19)).block, (ad.add (k * 19)).off + 2 + 3, none⟩ = some (.int .u64 xr.token) := e5
      have e6 : wr.cell? ⟨(ad.add (k * 19)).block, (ad.add (k * 19)).off + 2 + 4, none⟩ = some (.int .u32 xr.seq) := e6
      have e7 : wr.cell? ⟨(ad.add (k * 19)).block, (ad.add (k * 19)).off + 2 + 5, none⟩ = some (.slice B1 xr.data.length d1) := e7
      have e18 : wr.cell? ⟨(ad.add (k * 19)).block, (ad.add (k * 19)).off + 18, none⟩ = some (.slice p1 xp.length p2) := e18
      have HX : Hid (St M0 wr (intsR .u8 (.slice B1 xr.data.length d1) xr.data :: intsR .i64 (.slice p1 xp.length p2) xp :: blkR g 96 (stoC 2 gd p) :: srvR gs gd gj gi 0 8 s (rowsR 19 OpSR (.slice (some ad) n c) l :: intsR .u8 (.slice B nb db) b :: intsR .i64 (.slice PA picks.length pc) picks :: L))) := HX
      clear hx h h1 hxo hcell
      by_cases hd1 : xd = 1
      · as_aux_lemma =>
          have b1 : (xd == 1) = true := by simpa using hd1
          clear hd1
          rcases HI.out with ⟨rfl, hU⟩ | ⟨rfl, N, hD⟩
          · have HU := hide hU
            clear HI hU
            by_cases hw : xr.wrong = 0
            · have HW := hide hw
              clear hw
              have H3 := hide (HX.out.sub (L' := intsR .u8 (.slice B1 xr.data.length d1) xr.data :: blkR g 96 (stoC 2 gd (.pointer (some ⟨gs, 0, none⟩))) :: srvR gs gd gj gi 0 8 s (rowsR 19 OpSR (.slice (some ad) n c) l :: intsR .u8 (.slice B nb db) b :: intsR .i64 (.slice PA picks.length pc) picks :: L)) (by unfold srvR; (repeat (first | with_reducible exact Sub.refl _ | (with_reducible apply Sub.take; focus (repeat (first | with_reducible exact At.here | with_reducible apply At.there))) | with_reducible apply Sub.drop))))
              clear HX
              go_wp2_with fail
              refine (ask_ok 1 2 1 xr B1 xr.data.length d1 _ HXO.out HW.out H3.out).mono ?_
              rintro e w3 ⟨A2, c2, rfl, h⟩
              generalize hnq : (encQ xr).length = nq at *
              clear hnq
              have h3 := h.alloc 51 (msgC 11 1 2 1 false (.slice A2 nq c2))
              obtain ⟨m0, m1', m2, m3, m4, m5, m6, m7, m8, m9⟩ := (h3.blk 0 rfl).ten
              have H4 := hide h3.tail
              clear h h3 H3 e0 e1 e2 e3 e4 e5 e6 e7 e18
              go_wp2_with fail
              refine (hear_st hT g gs gd gj gi 2 1 1 false s (10 + 4 * (k : Int)) (1 + (k : Int)) xr A2 nq c2 _ HU.out (by have := HKK.out; omega) (by have := HKK.out; omega) HXO.out HXQ.out.1 HW.out H4.out).mono ?_
              rintro e w4 (⟨ga, A3, c3, rfl, hU1, _, h⟩ | ⟨rfl, _, hD1, _, h⟩)
              · have H5 := hide h
                have HU1 := hide hU1
                clear h H4 hU1 m0 m1' m2 m3 m4 m5 m6 m7 m8 m9
                go_wp2_with fail
                go_roundg (n - (k + 1))
                case measure => have := HG.out; omega
                case rel => exact ⟨k + 1, s.doS 0 8 xr, gs, gj, gi, _, rfl, by omega, by go_num, .inl ⟨rfl, HU1.out.mono (by omega) (by omega)⟩, H5.out.sub (by unfold srvR; (repeat (first | with_reducible exact Sub.refl _ | (with_reducible apply Sub.take; focus (repeat (first | with_reducible exact At.here | with_reducible apply At.there))) | with_reducible apply Sub.drop)))⟩
              · have H5 := hide h
                have HD1 := hide hD1
                clear h H4 hD1 m0 m1' m2 m3 m4 m5 m6 m7 m8 m9
                go_wp2_with fail
                go_roundg (n - (k + 1))
                case measure => have := HG.out; omega
                case rel => exact ⟨k + 1, s.doS 0 8 xr, gs, gj, gi, _, rfl, by omega, by go_num, .inr ⟨rfl, _, HD1.out.mono (by omega) (by omega)⟩, H5.out.sub (by unfold srvR; (repeat (first | with_reducible exact Sub.refl _ | (with_reducible apply Sub.take; focus (repeat (first | with_reducible exact At.here | with_reducible apply At.there))) | with_reducible apply Sub.drop)))⟩
            · have HW := hide hw
              clear hw
              have H3 := hide (HX.out.sub (L' := intsR .u8 (.slice B1 xr.data.length d1) xr.data :: blkR g 96 (stoC 2 gd (.pointer (some ⟨gs, 0, none⟩))) :: srvR gs gd gj gi 0 8 s (rowsR 19 OpSR (.slice (some ad) n c) l :: intsR .u8 (.slice B nb db) b :: intsR .i64 (.slice PA picks.length pc) picks :: L)) (by unfold srvR; (repeat (first | with_reducible exact Sub.refl _ | (with_reducible apply Sub.take; focus (repeat (first | with_reducible exact At.here | with_reducible apply At.there))) | with_reducible apply Sub.drop))))
              clear HX
              go_wp2_with fail
              refine (ask_no 1 2 1 xr B1 xr.data.length d1 _ HXO.out HW.out H3.out).mono ?_
              rintro e w3 ⟨rfl, h⟩
              have h3 := h.alloc 51 (msgC 0 0 0 0 false (.slice none 0 0))
              obtain ⟨m0, m1', m2, m3, m4, m5, m6, m7, m8, m9⟩ := (h3.blk 0 rfl).ten
              have H4 := hide h3.tail
              clear h h3 H3 e0 e1 e2 e3 e4 e5 e6 e7 e18
              go_wp2_with fail
              refine (hear_not g gd gs 2 0 0 0 false none 0 0 _ H4.out).mono ?_
              rintro e w4 ⟨rfl, h⟩
              have H5 := hide h
              clear h H4 m0 m1' m2 m3 m4 m5 m6 m7 m8 m9
              go_wp2_with fail
              go_roundg (n - (k + 1))
              case measure => have := HG.out; omega
              case rel => exact ⟨k + 1, s, gs, gj, gi, _, rfl, by omega, by go_num, .inl ⟨rfl, HU.out.mono (by omega) (by omega)⟩, H5.out⟩
          · have HD := hide hD
            clear HI hD
            by_cases hw : xr.wrong = 0
            · have HW := hide hw
              clear hw
              have H3 := hide (HX.out.sub (L' := intsR .u8 (.slice B1 xr.data.length d1) xr.data :: blkR g 96 (stoC 2 gd (.pointer none)) :: srvR gs gd gj gi 0 8 s (rowsR 19 OpSR (.slice (some ad) n c) l :: intsR .u8 (.slice B nb db) b :: intsR .i64 (.slice PA picks.length pc) picks :: L)) (by unfold srvR; (repeat (first | with_reducible exact Sub.refl _ | (with_reducible apply Sub.take; focus (repeat (first | with_reducible exact At.here | with_reducible apply At.there))) | with_reducible apply Sub.drop))))
              clear HX
              go_wp2_with fail
              refine (ask_ok 1 2 1 xr B1 xr.data.length d1 _ HXO.out HW.out H3.out).mono ?_
              rintro e w3 ⟨A2, c2, rfl, h⟩
              generalize hnq : (encQ xr).length = nq at *
              clear hnq
              have h3 := h.alloc 51 (msgC 11 1 2 1 false (.slice A2 nq c2))
              obtain ⟨m0, m1', m2, m3, m4, m5, m6, m7, m8, m9⟩ := (h3.blk 0 rfl).ten
              have H4 := hide h3.tail
              clear h h3 H3 e0 e1 e2 e3 e4 e5 e6 e7 e18
              go_wp2_with fail
              refine (hear_nil g gd 2 11 1 2 1 false A2 nq c2 _ H4.out.tail).mono ?_
              rintro e w4 ⟨rfl, h⟩
              have H5 := hide h
              clear h H4 m0 m1' m2 m3 m4 m5 m6 m7 m8 m9
              go_wp2_with fail
              go_roundg (n - (k + 1))
              case measure => have := HG.out; omega
              case rel => exact ⟨k + 1, s, gs, gj, gi, _, rfl, by omega, by go_num, .inr ⟨rfl, N, HD.out.mono (by omega) (by omega)⟩, H5.out⟩
            · have HW := hide hw
              clear hw
              have H3 := hide (HX.out.sub (L' := intsR .u8 (.slice B1 xr.data.length d1) xr.data :: blkR g 96 (stoC 2 gd (.pointer none)) :: srvR gs gd gj gi 0 8 s (rowsR 19 OpSR (.slice (some ad) n c) l :: intsR .u8 (.slice B nb db) b :: intsR .i64 (.slice PA picks.length pc) picks :: L)) (by unfold srvR; (repeat (first | with_reducible exact Sub.refl _ | (with_reducible apply Sub.take; focus (repeat (first | with_reducible exact At.here | with_reducible apply At.there))) | with_reducible apply Sub.drop))))
              clear HX
              go_wp2_with fail
              refine (ask_no 1 2 1 xr B1 xr.data.length d1 _ HXO.out HW.out H3.out).mono ?_
              rintro e w3 ⟨rfl, h⟩
              have h3 := h.alloc 51 (msgC 0 0 0 0 false (.slice none 0 0))
              obtain ⟨m0, m1', m2, m3, m4, m5, m6, m7, m8, m9⟩ := (h3.blk 0 rfl).ten
              have H4 := hide h3.tail
              clear h h3 H3 e0 e1 e2 e3 e4 e5 e6 e7 e18
              go_wp2_with fail
              refine (hear_nil g gd 2 0 0 0 0 false none 0 0 _ H4.out).mono ?_
              rintro e w4 ⟨rfl, h⟩
              have H5 := hide h
              clear h H4 m0 m1' m2 m3 m4 m5 m6 m7 m8 m9
              go_wp2_with fail
              go_roundg (n - (k + 1))
              case measure => have := HG.out; omega
              case rel => exact ⟨k + 1, s, gs, gj, gi, _, rfl, by omega, by go_num, .inr ⟨rfl, N, HD.out.mono (by omega) (by omega)⟩, H5.out⟩
      by_cases hd2 : xd = 2
      · as_aux_lemma =>
          have b1 : (xd == 1) = false := by simpa using hd1
          have b2 : (xd == 2) = true := by simpa using hd2
          clear hd1 hd2
          obtain ⟨c1, c2, c3, c4⟩ := HI.out.crash (by have := HKK.out; omega) (by have := HKK.out; omega) xp
          have HC1 := hide c1
          have HC2 := hide c2
          have HC3 := hide c3
          have HC4 := hide c4
          obtain ⟨M, D, J, dn⟩ := s
          have H3 := hide (HX.out.sub (L' := blkR g 96 (stoC 2 gd p) :: dsR gd D :: intsR .i64 (.slice p1 xp.length p2) xp :: rowsR 19 OpSR (.slice (some ad) n c) l :: intsR .u8 (.slice B nb db) b :: intsR .i64 (.slice PA picks.length pc) picks :: L) (by unfold srvR; (repeat (first | with_reducible exact Sub.refl _ | (with_reducible apply Sub.take; focus (repeat (first | with_reducible exact At.here | with_reducible apply At.there))) | with_reducible apply Sub.drop))))
          clear c1 c2 c3 c4 HX HI
          go_wp2_with fail
          refine (scrash_st hT g gd 2 p D (.slice p1 xp.length p2) xp _ HC1.out HC2.out HC3.out H3.out).mono ?_
          rintro e w5 ⟨gs5, gj5, gi5, rfl, h⟩
          have H5 := hide h
          clear h H3 e0 e1 e2 e3 e4 e5 e6 e7 e18
          go_wp2_with fail
          go_roundg (n - (k + 1))
          case measure => have := HG.out; omega
          case rel => exact ⟨k + 1, _, gs5, gj5, gi5, _, rfl, by omega, by go_num, .inl ⟨rfl, HC4.out.mono (by omega) (by omega)⟩, H5.out.sub (by unfold srvR; (repeat (first | with_reducible exact Sub.refl _ | (with_reducible apply Sub.take; focus (repeat (first | with_reducible exact At.here | with_reducible apply At.there))) | with_reducible apply Sub.drop)))⟩
      by_cases hd3 : xd = 3
      · as_aux_lemma =>
          have b1 : (xd == 1) = false := by simpa using hd1
          have b2 : (xd == 2) = false := by simpa using hd2
          have b3 : (xd == 3) = true := by simpa using hd3
          clear hd1 hd2 hd3
          have HF := hide (HI.out.fuse HXQ.out.2)
          obtain ⟨M, D, J, dn⟩ := s
          have H3 := hide (HX.out.sub (L' := dsR gd D :: blkR g 96 (stoC 2 gd p) :: blkR gs 76 (srvC gd gj gi 0 8 dn) :: jR gj gd J :: imgR gi M :: rowsR 19 OpSR (.slice (some ad) n c) l :: intsR .u8 (.slice B nb db) b :: intsR .i64 (.slice PA picks.length pc) picks :: L) (by unfold srvR; (repeat (first | with_reducible exact Sub.refl _ | (with_reducible apply Sub.take; focus (repeat (first | with_reducible exact At.here | with_reducible apply At.there))) | with_reducible apply Sub.drop))))
          clear HX
          go_wp2_with fail
          refine (fuse_ds xn H3.out).mono ?_
          rintro e w5 ⟨rfl, h⟩
          have H5 := hide h
          clear h H3 e0 e1 e2 e3 e4 e5 e6 e7 e18
          go_wp2_with fail
          go_roundg (n - (k + 1))
          case measure => have := HG.out; omega
          case rel => exact ⟨k + 1, _, gs, gj, gi, p, rfl, by omega, by go_num, HF.out.mono (by omega) (by omega), H5.out.sub (by unfold srvR; (repeat (first | with_reducible exact Sub.refl _ | (with_reducible apply Sub.take; focus (repeat (first | with_reducible exact At.here | with_reducible apply At.there))) | with_reducible apply Sub.drop)))⟩
      · as_aux_lemma =>
          have b1 : (xd == 1) = false := by simpa using hd1
          have b2 : (xd == 2) = false := by simpa using hd2
          have b3 : (xd == 3) = false := by simpa using hd3
          clear hd1 hd2 hd3
          go_wp2_with fail
          go_roundg (n - (k + 1))
          case measure => have := HG.out; omega
          case rel => exact ⟨k + 1, s, gs, gj, gi, p, rfl, by omega, by go_num, HI.out.mono (by omega) (by omega), HX.out.sub (by unfold srvR; (repeat (first | with_reducible exact Sub.refl _ | (with_reducible apply Sub.take; focus (repeat (first | with_reducible exact At.here | with_reducible apply At.there))) | with_reducible apply Sub.drop)))⟩
    · obtain rfl : k = n := by omega
      as_aux_lemma =>
        have HKT := hide (show k ≤ 20 from HNN.out)
        obtain ⟨tk, htk⟩ : ∃ tk, (18446744073709551615 : Int) = tk := ⟨_, rfl⟩
        have HTK := hide htk
        clear htk
        rcases HI.out with ⟨rfl, hU⟩ | ⟨rfl, N, hD⟩
        · have HU := hide hU
          have HMI := hide hU.mi
          clear HI hU
          obtain ⟨M, D, J, dn⟩ := s
          have HMI : Hid (MI M) := HMI
          obtain ⟨ce, hce⟩ : ∃ x, (checkI M (rS tk rg bl b)).2 = x := ⟨_, rfl⟩
          obtain ⟨cf, hcf⟩ : ∃ x, (checkI M (rS tk rg bl b)).1 = x := ⟨_, rfl⟩
          have HCE := hide hce
          have HCF := hide hcf
          clear hce hcf
          have h1 := (h.sub (L' := blkR g 96 (stoC 2 gd (.pointer (some ⟨gs, 0, none⟩))) :: blkR gs 76 (srvC gd gj gi 0 8 dn) :: jR gj gd J :: imgR gi M :: dsR gd D :: intsR .u8 (.slice B nb db) b :: intsR .i64 (.slice PA picks.length pc) picks :: L) (by unfold srvR; (repeat (first | with_reducible exact Sub.refl _ | (with_reducible apply Sub.take; focus (repeat (first | with_reducible exact At.here | with_reducible apply At.there))) | with_reducible apply Sub.drop)))).alloc 39 #[.int .i64 2, .int .i64 rg, .int .i64 bl, .int .u64 tk, .int .u32 1, .slice B nb db]
          obtain ⟨gr, hgr⟩ : ∃ gr, gr = wr.heap.size := ⟨_, rfl⟩
          have HGR := hide hgr
          rw [← hgr] at h1
          have H3 := hide h1
          clear h h1 hgr
          go_upto_region 16 with fail
          rw [HTK.out]
          go_wp2_with ((with_reducible apply at_build6 (t := 39)); (focus rfl); (focus rfl); (focus rfl); (focus rfl); (focus rfl); (focus rfl); (focus rfl); (focus rfl); (focus exact build_rS _ _ _ _ _ _ _))
          refine (simage_up g gs gd gj gi 2 dn _ (H3.out.blk 1 rfl) (H3.out.blk 2 rfl)).mono ?_
          rintro e w3 ⟨rfl, rfl⟩
          go_wp2_with fail
          rw [← HGR.out]
          refine region_flow (M0 := M0) (L0 := jR gj gd J :: dsR gd D :: intsR .u8 (.slice B nb db) b :: intsR .i64 (.slice PA picks.length pc) picks :: L) [⟨none, none, fun e => blkR g 96 (stoC 2 gd (.pointer (some ⟨gs, 0, none⟩)))⟩, ⟨none, none, fun e => blkR gs 76 (srvC gd gj gi 0 8 dn)⟩, ⟨none, none, fun e => imgR gi M⟩, ⟨none, none, fun e => blkR gr 39 #[.int .i64 2, .int .i64 rg, .int .i64 bl, .int .u64 tk, .int .u32 1, .slice B nb db]⟩] [[], [0], [], [0, 1, 2], [0, 1, 2, 3], [0, 1, 2, 3, 4], [0, 1, 2, 3, 4], [0, 1, 2, 3, 4, 5], [0, 1, 2, 3, 4, 5, 6, 7]] [0, 1, 2, 3, 4, 5, 6, 7, 8] rfl (by kernel_rfl) (by kernel_rfl) (by kernel_rfl) (by rfl) (fun _ => rfl) (show St M0 _ (blkR g 96 (stoC 2 gd (.pointer (some ⟨gs, 0, none⟩))) :: blkR gs 76 (srvC gd gj gi 0 8 dn) :: imgR gi M :: blkR gr 39 #[.int .i64 2, .int .i64 rg, .int .i64 bl, .int .u64 tk, .int .u32 1, .slice B nb db] :: jR gj gd J :: dsR gd D :: intsR .u8 (.slice B nb db) b :: intsR .i64 (.slice PA picks.length pc) picks :: L) from H3.out.sub (by (repeat (first | with_reducible exact Sub.refl _ | (with_reducible apply Sub.take; focus (repeat (first | with_reducible exact At.here | with_reducible apply At.there))) | with_reducible apply Sub.drop)))) ?_
          refine flow_run _ rfl (fun _ => rfl) (fun e wx Lx h => by (go_simp; try rfl)) (by intro e; rfl) (by intro e; rfl) (by intro e x; rfl) ?_
          (simp only [Act.put, List.setIfInBounds_toArray, List.set_cons_succ, List.set_cons_zero])
          refine flow_call 19 (fun e => #[.pointer (some ⟨g, 0, none⟩)]) (fun e => .pointer (some ⟨gi, 0, none⟩)) rfl (fun _ => rfl) (by intro e; rfl) (fun e wx => by (go_simp; try rfl)) (fun e wx Lx h => by (
            have h : St M0 wx (blkR g 96 (stoC 2 gd (.pointer (some ⟨gs, 0, none⟩))) :: blkR gs 76 (srvC gd gj gi 0 8 dn) :: imgR gi M :: blkR gr 39 #[.int .i64 2, .int .i64 rg, .int .i64 bl, .int .u64 tk, .int .u32 1, .slice B nb db] :: Lx) := h
            refine (simage_up g gs gd gj gi 2 dn _ (h.blkA (g := g) (t := 96) (cs := stoC 2 gd (.pointer (some ⟨gs, 0, none⟩))) (by (repeat (first | with_reducible exact At.here | with_reducible apply At.there)))) (h.blkA (g := gs) (t := 76) (cs := srvC gd gj gi 0 8 dn) (by (repeat (first | with_reducible exact At.here | with_reducible apply At.there))))).mono ?_
            rintro u wy ⟨rfl, hw⟩
            have hk : St M0 wy (blkR g 96 (stoC 2 gd (.pointer (some ⟨gs, 0, none⟩))) :: blkR gs 76 (srvC gd gj gi 0 8 dn) :: imgR gi M :: blkR gr 39 #[.int .i64 2, .int .i64 rg, .int .i64 bl, .int .u64 tk, .int .u32 1, .slice B nb db] :: Lx) := by rw [hw]; exact h
            exact ⟨⟨none, 0, default⟩, rfl, hk⟩)) ?_
          (simp only [Act.put, List.setIfInBounds_toArray, List.set_cons_succ, List.set_cons_zero])
          refine flow_run _ rfl (fun _ => rfl) (fun e wx Lx h => by (have h : St M0 wx (blkR g 96 (stoC 2 gd (.pointer (some ⟨gs, 0, none⟩))) :: blkR gs 76 (srvC gd gj gi 0 8 dn) :: imgR gi M :: blkR gr 39 #[.int .i64 2, .int .i64 rg, .int .i64 bl, .int .u64 tk, .int .u32 1, .slice B nb db] :: Lx) := h; obtain ⟨y0, y1, y2⟩ := (h.blkA (g := g) (t := 96) (cs := stoC 2 gd (.pointer (some ⟨gs, 0, none⟩))) (by (repeat (first | with_reducible exact At.here | with_reducible apply At.there)))).three; obtain ⟨r0, r1, r2, r3, r4, r5⟩ := (h.blkA (g := gr) (t := 39) (cs := #[.int .i64 2, .int .i64 rg, .int .i64 bl, .int .u64 tk, .int .u32 1, .slice B nb db]) (by (repeat (first | with_reducible exact At.here | with_reducible apply At.there)))).six; go_simp; try rfl)) (by intro e; rfl) (by intro e; rfl) (by intro e x; rfl) ?_
          (simp only [Act.put, List.setIfInBounds_toArray, List.set_cons_succ, List.set_cons_zero])
          refine flow_call 23 (fun e => #[.pointer (some ⟨gi, 0, none⟩), reqV (rS tk rg bl b) (.slice B nb db)]) (fun e => .tuple #[.bool cf, .int .i64 ce]) rfl (fun _ => rfl) (by intro e; rfl) (fun e wx => by (go_simp; exact ⟨rfl, rfl, rfl, rfl, rfl⟩)) (fun e wx Lx h => by (
            have h : St M0 wx (blkR g 96 (stoC 2 gd (.pointer (some ⟨gs, 0, none⟩))) :: blkR gs 76 (srvC gd gj gi 0 8 dn) :: imgR gi M :: blkR gr 39 #[.int .i64 2, .int .i64 rg, .int .i64 bl, .int .u64 tk, .int .u32 1, .slice B nb db] :: Lx) := h
            refine (check_st gi M (rS tk rg bl b) B nb db _ (rS_ok HTK.out rg bl b) HMI.out.ok HNB.out (h.front (X := imgR gi M) (by (repeat (first | with_reducible exact At.here | with_reducible apply At.there))))).mono ?_
            rintro u wy ⟨rfl, h1⟩
            rw [HCF.out, HCE.out]
            have hk : St M0 wy (blkR g 96 (stoC 2 gd (.pointer (some ⟨gs, 0, none⟩))) :: blkR gs 76 (srvC gd gj gi 0 8 dn) :: imgR gi M :: blkR gr 39 #[.int .i64 2, .int .i64 rg, .int .i64 bl, .int .u64 tk, .int .u32 1, .slice B nb db] :: Lx) := h1.sub (by (repeat (first | with_reducible exact Sub.refl _ | (with_reducible apply Sub.take; focus (repeat (first | with_reducible exact At.here | with_reducible apply At.there))) | with_reducible apply Sub.drop)))
            exact ⟨⟨none, 0, default⟩, rfl, hk⟩)) ?_
          (simp only [Act.put, List.setIfInBounds_toArray, List.set_cons_succ, List.set_cons_zero])
          refine flow_run _ rfl (fun _ => rfl) (fun e wx Lx h => by (go_simp; try rfl)) (by intro e; rfl) (by intro e; rfl) (by intro e x; rfl) ?_
          (simp only [Act.put, List.setIfInBounds_toArray, List.set_cons_succ, List.set_cons_zero])
          refine flow_run _ rfl (fun _ => rfl) (fun e wx Lx h => by (go_simp; try rfl)) (by intro e; rfl) (by intro e; rfl) (by intro e x; rfl) ?_
          (simp only [Act.put, List.setIfInBounds_toArray, List.set_cons_succ, List.set_cons_zero])
          refine flow_run _ rfl (fun _ => rfl) (fun e wx Lx h => by (go_simp; try rfl)) (by intro e; rfl) (by intro e; rfl) (by intro e x; rfl) ?_
          (simp only [Act.put, List.setIfInBounds_toArray, List.set_cons_succ, List.set_cons_zero])
          refine flow_run _ rfl (fun _ => rfl) (fun e wx Lx h => by (go_simp; try rfl)) (by intro e; rfl) (by intro e; rfl) (by intro e x; rfl) ?_
          (simp only [Act.put, List.setIfInBounds_toArray, List.set_cons_succ, List.set_cons_zero])
          refine flow_run _ rfl (fun _ => rfl) (fun e wx Lx h => by (go_simp; try rfl)) (by intro e; rfl) (by intro e; rfl) (by intro e x; rfl) ?_
          (simp only [Act.put, List.setIfInBounds_toArray, List.set_cons_succ, List.set_cons_zero])
          refine flow_nil ?_
          intro e w1 h
          have h : St M0 w1 (blkR g 96 (stoC 2 gd (.pointer (some ⟨gs, 0, none⟩))) :: blkR gs 76 (srvC gd gj gi 0 8 dn) :: imgR gi M :: blkR gr 39 #[.int .i64 2, .int .i64 rg, .int .i64 bl, .int .u64 tk, .int .u32 1, .slice B nb db] :: jR gj gd J :: dsR gd D :: intsR .u8 (.slice B nb db) b :: intsR .i64 (.slice PA picks.length pc) picks :: L) := h
          have H4 := hide h
          clear h H3
          obtain ⟨r0, r1, r2, r3, r4, r5⟩ := (H4.out.blk 3 rfl).six
          go_wp2_with fail
          refine (ask_ok 1 2 90 (rS tk rg bl b) B nb db _ (rS_ok HTK.out rg bl b) (rS_w HRG.out HBL.out HN24.out) ((H4.out.copyA (Q := fun w => Ints w .u8 (.slice B nb db) b) (by (repeat (first | with_reducible exact At.here | with_reducible apply At.there)))).sub (L' := intsR .u8 (.slice B nb db) b :: blkR g 96 (stoC 2 gd (.pointer (some ⟨gs, 0, none⟩))) :: srvR gs gd gj gi 0 8 ⟨M, D, J, dn⟩ (intsR .u8 (.slice B nb db) b :: intsR .i64 (.slice PA picks.length pc) picks :: L)) (by unfold srvR; (repeat (first | with_reducible exact Sub.refl _ | (with_reducible apply Sub.take; focus (repeat (first | with_reducible exact At.here | with_reducible apply At.there))) | with_reducible apply Sub.drop))))).mono ?_
          rintro e w4 ⟨A2, c2, rfl, h⟩
          generalize hnq : (encQ (rS tk rg bl b)).length = nq at *
          clear hnq
          have h3 := h.alloc 51 (msgC 11 1 2 90 false (.slice A2 nq c2))
          obtain ⟨m0, m1', m2, m3, m4, m5, m6, m7, m8, m9⟩ := (h3.blk 0 rfl).ten
          have H5 := hide h3.tail
          clear h h3 H4 r0 r1 r2 r3 r4 r5
          go_wp2_with fail
          refine (hear_st hT g gs gd gj gi 2 1 90 false ⟨M, D, J, dn⟩ (10 + 4 * (k : Int)) (1 + (k : Int)) (rS tk rg bl b) A2 nq c2 _ HU.out (by have := HKT.out; omega) (by have := HKT.out; omega) (rS_ok HTK.out rg bl b) HB.out (rS_w HRG.out HBL.out HN24.out) H5.out).mono ?_
          rintro e w5 (⟨ga, A3, c3, rfl, hU1, hM1, h⟩ | ⟨rfl, _, _, _, h⟩)
          · generalize SM.doS ⟨M, D, J, dn⟩ 0 8 (rS tk rg bl b) = s1 at *
            have hM1 : s1.M = doM M (rS tk rg bl b) := hM1
            have HU1 := hide hU1
            have HM1 := hide hM1
            obtain ⟨Ma, Da, Ja, da⟩ := s1
            have h : St M0 w5 (blkR ga 51 (msgC 12 2 1 90 ((checkI M (rS tk rg bl b)).2 == 0) (.slice A3 (ansM M (rS tk rg bl b)).length c3)) :: intsR .u8 (.slice A3 (ansM M (rS tk rg bl b)).length c3) (ansM M (rS tk rg bl b)) :: blkR g 96 (stoC 2 gd (.pointer (some ⟨gs, 0, none⟩))) :: blkR gs 76 (srvC gd gj gi 0 8 da) :: jR gj gd Ja :: imgR gi Ma :: dsR gd Da :: intsR .u8 (.slice B nb db) b :: intsR .i64 (.slice PA picks.length pc) picks :: L) := h
            rw [HCE.out] at h
            cases cf with
            | false =>
              have H6 := hide h
              clear h H5 hU1 hM1 m0 m1' m2 m3 m4 m5 m6 m7 m8 m9
              go_wp2_with fail
              go_ret
              exact ⟨rfl, H6.out.tail.tail.tail.tail.tail.tail.tail.tail.tail⟩
            | true =>
              by_cases hz : ce = 0
              · have hzb : (ce == 0) = true := by simpa using hz
                rw [hzb] at h
                obtain ⟨m0, m1', m2, m3, m4, m5, m6, m7, m8, m9⟩ := (h.blk 0 rfl).ten
                have hC0 : (checkI M (rS tk rg bl b)).2 = 0 := HCE.out.trans hz
                have HSR := hide (sure_read HRG.out HBL.out hC0 HCF.out)
                obtain ⟨k1, k2, k3, k4, k5, k6⟩ := hU1.crashM (by have := HKT.out; omega) (by have := HKT.out; omega) picks
                have K1 := hide k1
                have K2 := hide k2
                have K3 := hide k3
                have K4 := hide (k4.trans HM1.out)
                have K5 := hide k5
                have K6 := hide k6
                have H6 := hide (h.sub (L' := blkR g 96 (stoC 2 gd (.pointer (some ⟨gs, 0, none⟩))) :: dsR gd Da :: intsR .i64 (.slice PA picks.length pc) picks :: intsR .u8 (.slice B nb db) b :: L) (by (repeat (first | with_reducible exact Sub.refl _ | (with_reducible apply Sub.take; focus (repeat (first | with_reducible exact At.here | with_reducible apply At.there))) | with_reducible apply Sub.drop))))
                generalize ansM M (rS tk rg bl b) = aM at *
                generalize aM.length = naM at *
                clear h H5 hU1 hM1 hz hzb hC0 k1 k2 k3 k4 k5 k6 HM1 HCE HCF
                go_wp2_with fail
                refine (scrash_st hT g gd 2 (.pointer (some ⟨gs, 0, none⟩)) Da (.slice PA picks.length pc) picks _ K1.out K2.out K3.out H6.out).mono ?_
                rintro e w6 ⟨gs6, gj6, gi6, rfl, h⟩
                obtain ⟨t6, ht6⟩ : ∃ t, t = SM.mk (openM (Da.crash picks) 0 8) (openD (Da.crash picks) 0 8) (openJ (Da.crash picks) 0 8) false := ⟨_, rfl⟩
                have K5 : Hid (Up ⟨openM (Da.crash picks) 0 8, openD (Da.crash picks) 0 8, openJ (Da.crash picks) 0 8, false⟩ 0 8 (10 + 4 * (k : Int) + 3 + 1) (1 + (k : Int) + 1)) := K5
                have K6 : Hid (NF (SM.mk (openM (Da.crash picks) 0 8) (openD (Da.crash picks) 0 8) (openJ (Da.crash picks) 0 8) false).D) := K6
                have K4 : Hid ((SM.mk (openM (Da.crash picks) 0 8) (openD (Da.crash picks) 0 8) (openJ (Da.crash picks) 0 8) false).M = doM M (rS tk rg bl b)) := K4
                rw [← ht6] at h K4 K5 K6
                have H7 := hide ((h.sub (L' := blkR g 96 (stoC 2 gd (.pointer (some ⟨gs6, 0, none⟩))) :: srvR gs6 gd gj6 gi6 0 8 t6 (intsR .u8 (.slice B nb db) b :: L)) (by unfold srvR; (repeat (first | with_reducible exact Sub.refl _ | (with_reducible apply Sub.take; focus (repeat (first | with_reducible exact At.here | with_reducible apply At.there))) | with_reducible apply Sub.drop)))).pers0 (R := fun w => Ints w .u8 (.slice none 0 0) []) (fun w' _ => Ints.none_ w' _))
                clear h H6 ht6 K1 K2 K3 m0 m1' m2 m3 m4 m5 m6 m7 m8 m9
                go_upto_region 27 with fail
                rw [HTK.out]
                go_wp2_with ((with_reducible apply at_build4 (t := 39)); (focus rfl); (focus rfl); (focus rfl); (focus rfl); (focus rfl); (focus rfl); (focus exact build_rT _ _ _ _))
                refine (ask_ok 1 2 91 (rT tk rg bl) none 0 0 _ (rT_ok HTK.out rg bl) (rT_w HRG.out HBL.out) H7.out).mono ?_
                rintro e w7 ⟨A7, c7, rfl, h⟩
                generalize hnq : (encQ (rT tk rg bl)).length = nq7 at *
                clear hnq
                have h3 := h.alloc 51 (msgC 11 1 2 91 false (.slice A7 nq7 c7))
                obtain ⟨m0, m1', m2, m3, m4, m5, m6, m7, m8, m9⟩ := (h3.blk 0 rfl).ten
                have H8 := hide h3.tail
                clear h h3 H7
                go_wp2_with fail
                refine (hear_live hT g gs6 gd gj6 gi6 2 1 91 false t6 (10 + 4 * (k : Int) + 3 + 1) (1 + (k : Int) + 1) (rT tk rg bl) A7 nq7 c7 _ K5.out K6.out (by have := HKT.out; omega) (by have := HKT.out; omega) (rT_ok HTK.out rg bl) Bytes.nil (rT_w HRG.out HBL.out) H8.out).mono ?_
                rintro e w8 ⟨gc, A8, c8, rfl, _, _, _, h⟩
                rw [K4.out] at h
                have hcz : ((checkI (doM M (rS tk rg bl b)) (rT tk rg bl)).2 == 0) = true := by rw [HSR.out.1]; rfl
                have hans : ansM (doM M (rS tk rg bl b)) (rT tk rg bl) = ansB 0 [b] := by unfold ansM; rw [HSR.out.1, HSR.out.2]
                rw [hcz, hans] at h
                generalize t6.doS 0 8 (rT tk rg bl) = t8 at *
                obtain ⟨M8, D8, J8, dn8⟩ := t8
                have h : St M0 w8 (blkR gc 51 (msgC 12 2 1 91 true (.slice A8 (ansB 0 [b]).length c8)) :: intsR .u8 (.slice A8 (ansB 0 [b]).length c8) (ansB 0 [b]) :: blkR g 96 (stoC 2 gd (.pointer (some ⟨gs6, 0, none⟩))) :: blkR gs6 76 (srvC gd gj6 gi6 0 8 dn8) :: jR gj6 gd J8 :: imgR gi6 M8 :: dsR gd D8 :: intsR .u8 (.slice B nb db) b :: L) := h
                obtain ⟨m0, m1', m2, m3, m4, m5, m6, m7, m8, m9⟩ := (h.blk 0 rfl).ten
                have hb24 : ∀ x ∈ [b], x.length ≤ 24 := fun x hx => by rw [List.mem_singleton.1 hx]; exact HN24.out
                have HTB := hide (told_back 0 [b] (by omega) (show 1 < 256 by omega) hb24)
                have HAB := hide (show Bytes (ansB 0 [b]) ∧ (ansB 0 [b]).length ≤ 1000000 from ⟨ansB_bytes (fun x hx => by rw [List.mem_singleton.1 hx]; exact HB.out), by
                  have h5 := ans_len [b]
                  unfold ansB
                  simp only [List.length_append, numB_length]
                  have h6 : [b].length = 1 := rfl
                  omega⟩)
                have H9 := hide (h.sub (L' := intsR .u8 (.slice A8 (ansB 0 [b]).length c8) (ansB 0 [b]) :: intsR .u8 (.slice B nb db) b :: L) (by (repeat (first | with_reducible exact Sub.refl _ | (with_reducible apply Sub.take; focus (repeat (first | with_reducible exact At.here | with_reducible apply At.there))) | with_reducible apply Sub.drop))))
                generalize hna : (ansB 0 [b]).length = na at *
                have HNA := hide hna
                clear h H8 hcz hans hb24 hna
                go_wp2_with fail
                refine (told_st 2 1 91 true 0 0 0 (.slice none 0 0) ⟨none, 0, 0, rfl⟩ A8 na c8 (ansB 0 [b]) _ HAB.out.1 (by rw [HNA.out]; exact HAB.out.2) H9.out).mono ?_
                rintro e w9 ⟨hgood, _⟩
                obtain ⟨V, rfl, h⟩ := hgood HTB.out.2.2
                rw [HTB.out.1]
                rw [HTB.out.2.1] at h
                obtain ⟨AV, cV, rfl, _, _⟩ := (h.getRows 0 rfl).slice
                have h1 := (h.copyA (Q := fun w => Ints w .u8 (.slice B nb db) b) (by (repeat (first | with_reducible exact At.here | with_reducible apply At.there)))).pers1 (R' := fun w' => ∀ p ∈ [([Value.slice B nb db], b)], LogR w' p.1 p.2) (fun w' hi p hp => by rw [List.mem_singleton.1 hp]; exact ⟨_, rfl, hi⟩)
                have h2 := St.litFlat [([Value.slice B nb db], b)] 37 (fun p hp => by rw [List.mem_singleton.1 hp]) h1 (by simp) w9.heap.size rfl
                have HA := hide h2
                clear h h1 h2 H9 m0 m1' m2 m3 m4 m5 m6 m7 m8 m9
                go_wp2_with fail
                refine (sames_true _ _ [b] _ (HA.out.getRows 1 rfl) (HA.out.getRows 0 rfl) HA.out).mono ?_
                rintro e wb ⟨rfl, h⟩
                have HBB := hide h.tail.tail.tail
                clear h HA
                go_wp2_with fail
                go_ret
                exact ⟨rfl, HBB.out⟩
              · have hzb : (ce == 0) = false := by simpa using hz
                rw [hzb] at h
                obtain ⟨m0, m1', m2, m3, m4, m5, m6, m7, m8, m9⟩ := (h.blk 0 rfl).ten
                have H6 := hide h
                clear h H5 hU1 hM1 hz hzb
                go_wp2_with fail
                go_ret
                exact ⟨rfl, H6.out.tail.tail.tail.tail.tail.tail.tail.tail.tail⟩
          · generalize SM.doS ⟨M, D, J, dn⟩ 0 8 (rS tk rg bl b) = s1 at *
            obtain ⟨Ma, Da, Ja, da⟩ := s1
            have h : St M0 w5 (blkR g 96 (stoC 2 gd (.pointer none)) :: blkR gs 76 (srvC gd gj gi 0 8 da) :: jR gj gd Ja :: imgR gi Ma :: dsR gd Da :: intsR .u8 (.slice B nb db) b :: intsR .i64 (.slice PA picks.length pc) picks :: L) := h
            have H6 := hide h
            clear h H5 m0 m1' m2 m3 m4 m5 m6 m7 m8 m9
            cases cf with
            | false =>
              go_wp2_with fail
              go_ret
              exact ⟨rfl, H6.out.tail.tail.tail.tail.tail.tail.tail⟩
            | true =>
              go_wp2_with fail
              go_ret
              exact ⟨rfl, H6.out.tail.tail.tail.tail.tail.tail.tail⟩
        · clear HI hD
          have H3 := hide (h.sub (L' := blkR g 96 (stoC 2 gd (.pointer none)) :: L) (by unfold srvR; (repeat (first | with_reducible exact Sub.refl _ | (with_reducible apply Sub.take; focus (repeat (first | with_reducible exact At.here | with_reducible apply At.there))) | with_reducible apply Sub.drop))))
          clear h
          go_upto_region 16 with fail
          rw [HTK.out]
          go_wp2_with ((with_reducible apply at_build6 (t := 39)); (focus rfl); (focus rfl); (focus rfl); (focus rfl); (focus rfl); (focus rfl); (focus rfl); (focus rfl); (focus exact build_rS _ _ _ _ _ _ _))
          refine (simage_dn g gd 2 _ ((H3.out.junk _).blk 0 rfl)).mono ?_
          rintro e w3 ⟨rfl, rfl⟩
          go_wp2_with fail
          go_ret
          exact ⟨rfl, (H3.out.junk _).tail⟩
end Go.Proofs.YtpaelngpmbeedaaDoor
