/- CommitSure: the law's walk. Printed by gen_csul.py. -/
import Derived.Test.YtpaelngpmbeedaaGreatDoorCkAw
import Derived.Test.YtpaelngpmbeedaaGreatDoorCsuA
import Derived.Test.YtpaelngpmbeedaaGreatDoorCsuM
import Derived.Test.YtpaelngpmbeedaaGreatDoorOpY
namespace Go.Proofs.YtpaelngpmbeedaaGreatDoor
open Go.RowKit

theorem at_build2 {P : Program} {ops : Array Oper} {rest : List Oper} {o : Oper} {ac : Act} {Q : Exit → Act → World → Prop} {w w' : World} {v : Value} (hgd : o.guard = none) (t : TypeId) (k0 k1 : Nat) (x0 x1 : Operand) (u0 u1 : Value) (ho : o.op = .build t #[(k0, x0), (k1, x1)]) (e0 : ac.eval x0 = u0) (e1 : ac.eval x1 = u1)
    (hrun : (Instr.build t #[(k0, u0), (k1, u1)]).run P w = .ok v w') (h : wpList P ops Q rest (ac.put o.dst v) w') : wpList P ops Q (o :: rest) ac w := by
  refine wpList_plain hgd fun K hK => ?_
  unfold Oper.wp execOp
  simp only [ho, e0, e1, List.map_toArray, List.map_cons, List.map_nil, Sem.run_bind, Sem.run_pure, Result.andThen_ok, hrun]
  exact hK _ _ h
set_option maxRecDepth 100000 in
theorem build_o (B : Option Addr) (nb db : Nat) (w : World) : (Instr.build 44 #[(0, .int .i64 2), (3, .slice B nb db)]).run Tryz.prog w = .ok (.agg #[.int .i64 2, .int .i64 0, .int .i64 0, .int .i64 0, .int .i64 0, .int .u64 0, .int .u32 0, .slice none 0 0, .slice B nb db]) w := by kernel_rfl
abbrev opA (d n : Int) (r : RQ) (v pv : Value) : Array Value := #[.int .i64 d, .int .i64 n, .int .i64 r.op, .int .i64 r.region, .int .i64 r.index, .int .u64 r.token, .int .u32 r.seq, v, pv]
theorem Blk.nineO {w : World} {g : Nat} {t : TypeId} {a0 a1 a2 a3 a4 a5 a6 a7 a8 : Value} (h : Blk w g t #[a0, a1, a2, a3, a4, a5, a6, a7, a8]) :
    w.cell? ⟨g, 0, none⟩ = some a0 ∧ w.cell? ⟨g, 1, none⟩ = some a1 ∧ w.cell? ⟨g, 2, none⟩ = some a2 ∧ w.cell? ⟨g, 3, none⟩ = some a3 ∧ w.cell? ⟨g, 4, none⟩ = some a4 ∧ w.cell? ⟨g, 5, none⟩ = some a5 ∧ w.cell? ⟨g, 6, none⟩ = some a6 ∧ w.cell? ⟨g, 7, none⟩ = some a7 ∧ w.cell? ⟨g, 8, none⟩ = some a8 :=
  ⟨h.cell 0, h.cell 1, h.cell 2, h.cell 3, h.cell 4, h.cell 5, h.cell 6, h.cell 7, h.cell 8⟩
theorem SureI.sok {s : SM} {m q : Nat → Rg} {K T : Int} (h : SureI s m q K T) (hK : K ≤ 4000000000) : SOk s 1 6 60 := by
  obtain ⟨_, _, _, ⟨_, h⟩ | ⟨_, _, h⟩⟩ := h
  · exact h.sok hK 60
  · exact h.ok
def srvN (n : Nat) (a : Int) (ring : Nat) : SM := ⟨openM (DS.new n) a ring, openD (DS.new n) a ring, openJ (DS.new n) a ring, false⟩
theorem srvN_up {n : Nat} {a : Int} {ring : Nat} (h0 : 0 ≤ a) (hr : 1 ≤ ring ∧ ring ≤ 100) (h1 : a + 46 + (ring : Int) ≤ (n : Int)) (h2 : n ≤ 512) : (srvN n a ring).M = aw0 ∧ Up (srvN n a ring) a ring 10 1 := by
  obtain ⟨_, h1, h2, _⟩ := new_open h0 hr h1 h2
  exact ⟨h1, h2⟩
theorem sa0_srv : sa0 = srvN 60 1 6 := by
  unfold sa0 srvOf ds0 srvN
  rfl
theorem sa0_up : sa0.M = aw0 ∧ Up sa0 1 6 10 1 := by
  rw [sa0_srv]
  exact srvN_up (by omega) (by omega) (by omega) (by omega)

set_option maxHeartbeats 32000000 in
set_option maxRecDepth 100000 in
theorem commitSure_st {M0 : Imm} {L : List Res} (hT : Tbl M0) (v : Value) (l : List OpS) (v1 : Value) (picks : List Int) (w : World) (hl : ∀ x ∈ l, OpSQ x) (h : St M0 w (rowsR 9 OpSR v l :: intsR .i64 v1 picks :: L)) :
    Calls Tryz.prog 3 #[v, v1] w fun e w' => e = .returned (.bool true) ∧ St M0 w' L := by
  obtain ⟨A, c, rfl, hc, hcm⟩ := (h.getRows 0 rfl).slice
  obtain ⟨PA, pc, rfl, _, _, _⟩ := h.get 1 rfl
  generalize hn : l.length = n at *
  have HN := hide hn
  have HQ := hide hl
  have H := hide h
  clear hn h hl
  go_enter Tryz.func3, Tryz.ntmps3
  go_wp2_with fail
  refine (awake22_st hT _ H.out).mono ?_
  rintro e w1 ⟨rfl, h⟩
  have H1 := hide h
  clear h H
  go_wp2_with fail
  refine (opened_st hT _ H1.out).mono ?_
  rintro e w2 ⟨gd, gs, gj, gi, rfl, h⟩
  have H2 := hide h
  clear h H1
  by_cases t0 : 20 < n
  · as_aux_lemma =>
      have t0a0 : decide ((20 : Int) < (n : Int)) = true := decide_eq_true (by omega)
      go_wp2_with fail
      go_ret
      exact ⟨rfl, H2.out.tail.tail.tail.tail.tail.tail⟩
  have t0b0 : decide ((20 : Int) < (n : Int)) = false := decide_eq_false (by omega)
  have HNN := hide (show n ≤ 20 by omega)
  have h3 := H2.out.newRim
  obtain ⟨g8, hg8⟩ : ∃ g8, g8 = w2.heap.size := ⟨_, rfl⟩
  rw [← hg8] at h3
  have HG8 := hide hg8
  have H3 := hide h3.twoOne
  clear h3 hg8 H2
  go_wp2_with fail
  rw [← HG8.out]
  clear t0b0 t0
  go_loopg [7, 8, 9, 10] (n + 1) (fun gh t7 t8 t9 i wr => ∃ (k : Nat) (s : SM) (gs gj gi gsu gmb : Nat) (m q : Nat → Rg), gh = n + 1 - k ∧ k ≤ n + 1 ∧ i = .int .i64 (k : Nat) ∧ t7 = .pointer (some ⟨gs, 0, none⟩) ∧ t8 = .pointer (some ⟨gsu, 0, none⟩) ∧ t9 = .pointer (some ⟨gmb, 0, none⟩) ∧ SureI s m q (10 + 4 * (k : Int)) (1 + (k : Int)) ∧ St M0 wr (twoR gsu m gmb q :: srvR gs gd gj gi 1 6 s (rowsR 9 OpSR (.slice A n c) l :: intsR .i64 (.slice PA picks.length pc) picks :: L)))
  case atStart => exact ⟨0, sa0, gs, gj, gi, g8, g8, aw0, aw0, rfl, by omega, rfl, rfl, rfl, rfl, ⟨MI.aw0, MI.aw0, sa0_up.1, .inl ⟨rfl, sa0_up.2⟩⟩, H3.out⟩
  case round =>
    clear H3
    obtain ⟨k, s, gs, gj, gi, gsu, gmb, m, q, hg, hk, rfl, rfl, rfl, rfl, hI, h⟩ := hrel
    have HG := hide hg
    have HI := hide hI
    clear hg hI
    have HKK := hide (show k ≤ 21 by have := HNN.out; omega)
    by_cases hle : k ≤ n
    · by_cases hlt : k < n
      · have hx := List.getElem?_eq_getElem (l := l) (i := k) (by rw [HN.out]; exact hlt)
        generalize l[k]'(by rw [HN.out]; exact hlt) = x at hx
        obtain ⟨ad, B1, d1, p1, p2, rfl, hxo, h1⟩ := h.opS 5 rfl hx
        have HXQ := hide (HQ.out x (List.mem_of_getElem? hx))
        have HXO := hide hxo
        obtain ⟨xd, xn, xr, xp⟩ := x
        have HXQ : Hid (Bytes xr.data ∧ -9223372036854775808 ≤ xn ∧ xn ≤ 9223372036854775807) := HXQ
        have HXO : Hid xr.ok := HXO
        obtain ⟨go, hgo⟩ : ∃ go, go = wr.heap.size := ⟨_, rfl⟩
        have hA := h1.alloc 44 (opA 2 0 ⟨0, 0, 0, 0, 0, []⟩ (.slice none 0 0) (.slice PA picks.length pc))
        rw [← hgo] at hA
        have hcell := hA.get 1 rfl
        obtain ⟨e0, e1, e2, e3, e4, e5, e6, e7, e8⟩ := cells9 hcell.1
        have hB := h1.alloc 44 (opA xd xn xr (.slice B1 xr.data.length d1) (.slice p1 xp.length p2))
        rw [← hgo] at hB
        obtain ⟨f0, f1, f2, f3, f4, f5, f6, f7, f8⟩ := (hB.blk 0 rfl).nineO
        have HX := hide ((((hB.copy 1 rfl).pers1 (R' := fun w' => Ints w' .i64 (.slice p1 xp.length p2) xp) (fun w' hi => hi.2.2)).sub (L' := persR (fun w' => (∀ j u, [Value.int .i64 xd, .int .i64 xn, .int .i64 xr.op, .int .i64 xr.region, .int .i64 xr.index, .int .u64 xr.token, .int .u32 xr.seq, .slice B1 xr.data.length d1, .slice p1 xp.length p2][j]? = some u → w'.cell? ((ad.add (k * 9)).add j) = some u) ∧ Ints w' .u8 (.slice B1 xr.data.length d1) xr.data ∧ Ints w' .i64 (.slice p1 xp.length p2) xp) :: intsR .i64 (.slice p1 xp.length p2) xp :: blkR go 44 (opA xd xn xr (.slice B1 xr.data.length d1) (.slice p1 xp.length p2)) :: twoR gsu m gmb q :: srvR gs gd gj gi 1 6 s (rowsR 9 OpSR (.slice (some ad) n c) l :: intsR .i64 (.slice PA picks.length pc) picks :: L)) (by unfold srvR; (repeat (first | with_reducible exact Sub.refl _ | (with_reducible apply Sub.take; focus (repeat (first | with_reducible exact At.here | with_reducible apply At.there))) | with_reducible apply Sub.drop)))).pers1 (R' := fun w' => Ints w' .u8 (.slice B1 xr.data.length d1) xr.data) (fun w' hi => hi.2.1))
        generalize hnd : xr.data.length = nd at *
        generalize hnp : xp.length = np at *
        have HGO := hide hgo
        clear hxo hx h h1 hcell hA hB hnd hnp hgo
        by_cases hd1 : xd = 1
        · as_aux_lemma =>
            have b1 : (xd == 1) = true := by simpa using hd1
            clear hd1
            obtain ⟨ed, hed⟩ : ∃ x, s.doE 1 6 xr = x := ⟨_, rfl⟩
            obtain ⟨D1, D2, D3, D4⟩ := HI.out.do_ (by have := HKK.out; omega) (by have := HKK.out; omega) HXO.out HXQ.out.1
            rw [hed] at D1 D2 D3 D4
            have HD1 := hide D1
            have HD2 := hide D2
            have HD3 := hide D3
            have HD4 := hide D4
            have HMI := hide HI.out.1
            have HMQ := hide HI.out.2.1
            have HSO := hide (HI.out.sok (by have := HKK.out; omega))
            have HED := hide hed
            clear D1 D2 D3 D4 hed HI
            have H3 := hide ((HX.out.copyA (Q := fun w => Ints w .u8 (.slice B1 nd d1) xr.data) (by (repeat (first | with_reducible exact At.here | with_reducible apply At.there)))).sub (L' := intsR .u8 (.slice B1 nd d1) xr.data :: srvR gs gd gj gi 1 6 s (intsR .u8 (.slice B1 nd d1) xr.data :: blkR go 44 (opA xd xn xr (.slice B1 nd d1) (.slice p1 np p2)) :: twoR gsu m gmb q :: rowsR 9 OpSR (.slice (some ad) n c) l :: intsR .i64 (.slice PA picks.length pc) picks :: L)) (by unfold srvR; (repeat (first | with_reducible exact Sub.refl _ | (with_reducible apply Sub.take; focus (repeat (first | with_reducible exact At.here | with_reducible apply At.there))) | with_reducible apply Sub.drop))))
            clear HX
            go_wp2_with ((with_reducible apply at_build2 (t := 44)); (focus rfl); (focus rfl); (focus rfl); (focus rfl); (focus exact build_o _ _ _ _))
            rw [← HGO.out]
            refine (cDo_st hT gs gd gj gi 60 1 6 s xr B1 nd d1 _ (by decide) HSO.out HXO.out (encQ_bytes HXQ.out.1) (encQ_43 _) H3.out).mono ?_
            rintro e w5 ⟨V5, rfl, h⟩
            rw [HED.out]
            generalize s.doO 1 6 xr = o5 at *
            generalize s.doS 1 6 xr = s5 at *
            have h := h.sub (L' := twoR gsu m gmb q :: intsR .u8 (.slice B1 nd d1) xr.data :: blkR go 44 (opA xd xn xr (.slice B1 nd d1) (.slice p1 np p2)) :: srvR gs gd gj gi 1 6 s5 (rowsR 9 OpSR (.slice (some ad) n c) l :: intsR .i64 (.slice PA picks.length pc) picks :: L)) (by unfold srvR; (repeat (first | with_reducible exact Sub.refl _ | (with_reducible apply Sub.take; focus (repeat (first | with_reducible exact At.here | with_reducible apply At.there))) | with_reducible apply Sub.drop)))
            clear H3 f0 f1 f2 f3 f4 f5 f6 f7 f8
            have H4 := hide h
            clear h HSO HED
            by_cases h43 : ed = 43
            · subst h43
              go_wp2_with fail
              refine (packM_st HMQ.out.ok H4.out).mono ?_
              rintro e w6 ⟨A6, c6, rfl, h⟩
              generalize hn6 : (packI q).length = n6 at *
              have H5 := hide h.swap
              clear h H4 hn6
              go_wp2_with fail
              refine (packS_st HMI.out.ok H5.out).mono ?_
              rintro e w7 ⟨A7, c7, rfl, h⟩
              generalize hn7 : (packI m).length = n7 at *
              have H6 := hide h
              clear h H5 hn7
              go_wp2_with fail
              refine (same_st (.slice A6 n6 c6) (.slice A7 n7 c7) (packI q) (packI m) _ (H6.out.getA (Q := fun w => Ints w .u8 (.slice A6 n6 c6) (packI q)) (by (repeat (first | with_reducible exact At.here | with_reducible apply At.there)))) (H6.out.get 0 rfl) H6.out).mono ?_
              rintro e w8 ⟨rfl, h⟩
              have h9 := h.tail
              clear h H6
              by_cases hqm : q = m
              · have hb : decide (packI q = packI m) = true := decide_eq_true (by rw [hqm])
                rw [hb]
                have h9 := h9.sub (L' := intsR .u8 (.slice B1 nd d1) xr.data :: twoR gsu m gmb q :: blkR go 44 (opA xd xn xr (.slice B1 nd d1) (.slice p1 np p2)) :: srvR gs gd gj gi 1 6 s5 (rowsR 9 OpSR (.slice (some ad) n c) l :: intsR .i64 (.slice PA picks.length pc) picks :: L)) (by unfold srvR; (repeat (first | with_reducible exact Sub.refl _ | (with_reducible apply Sub.take; focus (repeat (first | with_reducible exact At.here | with_reducible apply At.there))) | with_reducible apply Sub.drop)))
                obtain ⟨f0, f1, f2, f3, f4, f5, f6, f7, f8⟩ := (h9.blk 2 rfl).nineO
                have H7 := hide h9
                have HQM := hide hqm
                clear h9 hb hqm
                go_wp2_with fail
                refine (doc22_any xr B1 nd d1 _).mono ?_
                rintro e w9 ⟨rfl, hf⟩
                have H8 := hide (H7.out.grow hf)
                clear H7 hf f0 f1 f2 f3 f4 f5 f6 f7 f8
                go_wp2_with fail
                refine (afterS_st xr B1 nd d1 HXO.out HMI.out H8.out).mono ?_
                rintro e wa ⟨ga, rfl, h⟩
                have H9 := hide (h.swap.twoTwo)
                clear h H8
                go_wp2_with fail
                go_roundg (n + 1 - (k + 1))
                case measure => have := HG.out; omega
                case rel => exact ⟨k + 1, s5, gs, gj, gi, gsu, ga, m, _, rfl, by omega, by go_num, rfl, rfl, rfl, (HD2.out (by trivial) HQM.out).mono (by omega) (by omega), H9.out.sub (by unfold srvR; (repeat (first | with_reducible exact Sub.refl _ | (with_reducible apply Sub.take; focus (repeat (first | with_reducible exact At.here | with_reducible apply At.there))) | with_reducible apply Sub.drop)))⟩
              · have hb : decide (packI q = packI m) = false := decide_eq_false (fun he => hqm (pack_inj HMQ.out HMI.out he))
                rw [hb]
                have H7 := hide h9
                have HQM := hide hqm
                clear h9 hb hqm
                go_wp2_with fail
                go_roundg (n + 1 - (k + 1))
                case measure => have := HG.out; omega
                case rel => exact ⟨k + 1, s5, gs, gj, gi, gsu, gmb, m, q, rfl, by omega, by go_num, rfl, rfl, rfl, (HD3.out (by trivial) HQM.out).mono (by omega) (by omega), H7.out.sub (by unfold srvR; (repeat (first | with_reducible exact Sub.refl _ | (with_reducible apply Sub.take; focus (repeat (first | with_reducible exact At.here | with_reducible apply At.there))) | with_reducible apply Sub.drop)))⟩
            by_cases h0 : ed = 0
            · subst h0
              have h9 := H4.out.sub (L' := intsR .u8 (.slice B1 nd d1) xr.data :: twoR gsu m gmb q :: blkR go 44 (opA xd xn xr (.slice B1 nd d1) (.slice p1 np p2)) :: srvR gs gd gj gi 1 6 s5 (rowsR 9 OpSR (.slice (some ad) n c) l :: intsR .i64 (.slice PA picks.length pc) picks :: L)) (by unfold srvR; (repeat (first | with_reducible exact Sub.refl _ | (with_reducible apply Sub.take; focus (repeat (first | with_reducible exact At.here | with_reducible apply At.there))) | with_reducible apply Sub.drop)))
              obtain ⟨f0, f1, f2, f3, f4, f5, f6, f7, f8⟩ := (h9.blk 2 rfl).nineO
              have H7 := hide h9
              clear h9 H4 h43
              go_wp2_with fail
              refine (doc22_any xr B1 nd d1 _).mono ?_
              rintro e w9 ⟨rfl, hf⟩
              have H8 := hide (H7.out.grow hf)
              clear H7 hf f0 f1 f2 f3 f4 f5 f6 f7 f8
              go_wp2_with fail
              refine (afterS_st xr B1 nd d1 HXO.out HMI.out H8.out).mono ?_
              rintro e wa ⟨ga, rfl, h⟩
              have H9 := hide ((h.swap.tail).twoOne)
              clear h H8
              go_wp2_with fail
              go_roundg (n + 1 - (k + 1))
              case measure => have := HG.out; omega
              case rel => exact ⟨k + 1, s5, gs, gj, gi, ga, ga, _, _, rfl, by omega, by go_num, rfl, rfl, rfl, (HD1.out (by trivial)).mono (by omega) (by omega), H9.out.sub (by unfold srvR; (repeat (first | with_reducible exact Sub.refl _ | (with_reducible apply Sub.take; focus (repeat (first | with_reducible exact At.here | with_reducible apply At.there))) | with_reducible apply Sub.drop)))⟩
            have b43 : (ed == 43) = false := by simpa using h43
            have b0 : (ed == 0) = false := by simpa using h0
            have H7 := hide H4.out
            have HN1 := hide h43
            have HN2 := hide h0
            clear h43 h0 H4
            go_wp2_with fail
            go_roundg (n + 1 - (k + 1))
            case measure => have := HG.out; omega
            case rel => exact ⟨k + 1, s5, gs, gj, gi, gsu, gmb, m, q, rfl, by omega, by go_num, rfl, rfl, rfl, (HD4.out HN2.out HN1.out).mono (by omega) (by omega), H7.out.sub (by unfold srvR; (repeat (first | with_reducible exact Sub.refl _ | (with_reducible apply Sub.take; focus (repeat (first | with_reducible exact At.here | with_reducible apply At.there))) | with_reducible apply Sub.drop)))⟩
        by_cases hd2 : xd = 2
        · as_aux_lemma =>
            have b1 : (xd == 1) = false := by simpa using hd1
            have b2 : (xd == 2) = true := by simpa using hd2
            clear hd1 hd2
            obtain ⟨c1, c2, c3, c4, c5⟩ := HI.out.crash (by have := HKK.out; omega) (by have := HKK.out; omega) xp
            have HC1 := hide c1
            have HC2 := hide c2
            have HC3 := hide c3
            have HMI := hide HI.out.1
            have HMQ := hide HI.out.2.1
            obtain ⟨M, D, J, dn⟩ := s
            obtain ⟨M', hM'⟩ : ∃ x, x = openM (D.crash xp) 1 6 := ⟨_, rfl⟩
            have c4 : openM (D.crash xp) 1 6 = m ∨ openM (D.crash xp) 1 6 = q := c4
            have c5 : Up ⟨openM (D.crash xp) 1 6, openD (D.crash xp) 1 6, openJ (D.crash xp) 1 6, false⟩ 1 6 (10 + 4 * (k : Int) + 1) (1 + (k : Int) + 1) := c5
            have HUP := hide c5
            rw [← hM'] at c4
            have HM' := hide hM'
            have H3 := hide (HX.out.sub (L' := dsR gd D :: intsR .i64 (.slice p1 np p2) xp :: twoR gsu m gmb q :: rowsR 9 OpSR (.slice (some ad) n c) l :: intsR .i64 (.slice PA picks.length pc) picks :: L) (by unfold srvR; (repeat (first | with_reducible exact Sub.refl _ | (with_reducible apply Sub.take; focus (repeat (first | with_reducible exact At.here | with_reducible apply At.there))) | with_reducible apply Sub.drop))))
            have HC4 := hide c4
            clear c1 c2 c3 c4 c5 HX HI hM'
            go_wp2_with ((with_reducible apply at_build2 (t := 44)); (focus rfl); (focus rfl); (focus rfl); (focus rfl); (focus exact build_o _ _ _ _))
            refine (crash_ds (D := D) (.slice p1 np p2) xp 0 HC1.out.ok (by have := HC1.out.p; omega) rfl H3.out).mono ?_
            rintro e w5 ⟨rfl, h⟩
            have H4 := hide h
            clear h H3
            go_wp2_with fail
            refine (cOpen_st hT gd 10 (D.crash xp) 1 6 _ HC3.out (by omega) HC2.out H4.out).mono ?_
            rintro e w6 ⟨gs6, gj6, gi6, rfl, h⟩
            rw [← HM'.out] at h
            have H5 := hide h
            clear h H4
            go_wp2_with fail
            refine (cImage_q gs6 gd gj6 gi6 1 6 false _ (H5.out.blk 0 rfl)).mono ?_
            rintro e w7 ⟨rfl, rfl⟩
            go_wp2_with fail
            refine (cImage_q gs6 gd gj6 gi6 1 6 false _ (H5.out.blk 0 rfl)).mono ?_
            rintro e w7 ⟨rfl, rfl⟩
            have HMP := hide (show MI M' from HC4.out.elim (fun e => by rw [e]; exact HMI.out) (fun e => by rw [e]; exact HMQ.out))
            go_wp2_with fail
            refine (pack_st gi6 M' _ HMP.out.ok (H5.out.front (X := imgR gi6 M') (by (repeat (first | with_reducible exact At.here | with_reducible apply At.there))))).mono ?_
            rintro e w8 ⟨v8, rfl, h⟩
            obtain ⟨A8, c8, rfl⟩ := h.slice
            have H6 := hide (h.ints.sub (L' := twoR gsu m gmb q :: intsR .u8 (.slice A8 (packI M').length c8) (packI M') :: blkR gs6 73 (srvC gd gj6 gi6 1 6 false) :: jR gj6 gd (openJ (D.crash xp) 1 6) :: imgR gi6 M' :: dsR gd (openD (D.crash xp) 1 6) :: rowsR 9 OpSR (.slice (some ad) n c) l :: intsR .i64 (.slice PA picks.length pc) picks :: L) (by (repeat (first | with_reducible exact Sub.refl _ | (with_reducible apply Sub.take; focus (repeat (first | with_reducible exact At.here | with_reducible apply At.there))) | with_reducible apply Sub.drop))))
            clear h H5
            generalize (packI M').length = n8 at *
            go_wp2_with fail
            refine (packM_st HMQ.out.ok H6.out).mono ?_
            rintro e w9 ⟨A9, c9, rfl, h⟩
            have H7 := hide h
            clear h H6
            generalize (packI q).length = n9 at *
            go_wp2_with fail
            refine (same_st (.slice A8 n8 c8) (.slice A9 n9 c9) (packI M') (packI q) _ (H7.out.getA (Q := fun w => Ints w .u8 (.slice A8 n8 c8) (packI M')) (by (repeat (first | with_reducible exact At.here | with_reducible apply At.there)))) (H7.out.get 0 rfl) H7.out).mono ?_
            rintro e wa ⟨rfl, h⟩
            have h9 := h.tail
            clear h H7
            by_cases hq : M' = q
            · have hb : decide (packI M' = packI q) = true := decide_eq_true (by rw [hq])
              rw [hb]
              have H8 := hide h9.twoMaybe.twoOne
              have HQ9 := hide hq
              clear h9 hb hq
              go_wp2_with fail
              refine (packS_st HMQ.out.ok H8.out).mono ?_
              rintro e wb ⟨Ab, cb, rfl, h⟩
              have H9 := hide h
              clear h H8
              generalize (packI q).length = nb at *
              go_wp2_with fail
              refine (same_true (.slice A8 n8 c8) (.slice Ab nb cb) (packI q) _ (by rw [← HQ9.out]; exact H9.out.getA (Q := fun w => Ints w .u8 (.slice A8 n8 c8) (packI M')) (by (repeat (first | with_reducible exact At.here | with_reducible apply At.there)))) (H9.out.get 0 rfl) H9.out).mono ?_
              rintro e wc ⟨rfl, h⟩
              have HZ := hide h
              clear h H9
              go_wp2_with fail
              go_roundg (n + 1 - (k + 1))
              case measure => have := HG.out; omega
              case rel =>
                have hU := HUP.out
                rw [← HM'.out] at hU
                have hk9 := HKK.out
                exact ⟨k + 1, ⟨M', openD (D.crash xp) 1 6, openJ (D.crash xp) 1 6, false⟩, gs6, gj6, gi6, gmb, gmb, q, q, rfl, by omega, (by first | go_num | (refine congrArg _ ?_; rw [IntWalk.wrap64_in _ ⟨by omega, by omega⟩]; omega)), rfl, rfl, rfl, ⟨HMQ.out, HMQ.out, HQ9.out, .inl ⟨rfl, hU.mono (by omega) (by omega)⟩⟩, HZ.out.sub (by unfold srvR; (repeat (first | with_reducible exact Sub.refl _ | (with_reducible apply Sub.take; focus (repeat (first | with_reducible exact At.here | with_reducible apply At.there))) | with_reducible apply Sub.drop)))⟩
            · have hm : M' = m := HC4.out.resolve_right hq
              have hb : decide (packI M' = packI q) = false := decide_eq_false (fun he => hq (pack_inj HMP.out HMQ.out he))
              rw [hb]
              have H8 := hide h9.twoSure.twoOne
              have HQ9 := hide hm
              clear h9 hb hq hm
              go_wp2_with fail
              refine (packS_st HMI.out.ok H8.out).mono ?_
              rintro e wb ⟨Ab, cb, rfl, h⟩
              have H9 := hide h
              clear h H8
              generalize (packI m).length = nb at *
              go_wp2_with fail
              refine (same_true (.slice A8 n8 c8) (.slice Ab nb cb) (packI m) _ (by rw [← HQ9.out]; exact H9.out.getA (Q := fun w => Ints w .u8 (.slice A8 n8 c8) (packI M')) (by (repeat (first | with_reducible exact At.here | with_reducible apply At.there)))) (H9.out.get 0 rfl) H9.out).mono ?_
              rintro e wc ⟨rfl, h⟩
              have HZ := hide h
              clear h H9
              go_wp2_with fail
              go_roundg (n + 1 - (k + 1))
              case measure => have := HG.out; omega
              case rel =>
                have hU := HUP.out
                rw [← HM'.out] at hU
                have hk9 := HKK.out
                exact ⟨k + 1, ⟨M', openD (D.crash xp) 1 6, openJ (D.crash xp) 1 6, false⟩, gs6, gj6, gi6, gsu, gsu, m, m, rfl, by omega, (by first | go_num | (refine congrArg _ ?_; rw [IntWalk.wrap64_in _ ⟨by omega, by omega⟩]; omega)), rfl, rfl, rfl, ⟨HMI.out, HMI.out, HQ9.out, .inl ⟨rfl, hU.mono (by omega) (by omega)⟩⟩, HZ.out.sub (by unfold srvR; (repeat (first | with_reducible exact Sub.refl _ | (with_reducible apply Sub.take; focus (repeat (first | with_reducible exact At.here | with_reducible apply At.there))) | with_reducible apply Sub.drop)))⟩
        by_cases hd3 : xd = 3
        · as_aux_lemma =>
            have b1 : (xd == 1) = false := by simpa using hd1
            have b2 : (xd == 2) = false := by simpa using hd2
            have b3 : (xd == 3) = true := by simpa using hd3
            clear hd1 hd2 hd3
            have HF := hide (HI.out.fuse HXQ.out.2)
            obtain ⟨M, D, J, dn⟩ := s
            have H3 := hide (HX.out.sub (L' := dsR gd D :: twoR gsu m gmb q :: blkR gs 73 (srvC gd gj gi 1 6 dn) :: jR gj gd J :: imgR gi M :: rowsR 9 OpSR (.slice (some ad) n c) l :: intsR .i64 (.slice PA picks.length pc) picks :: L) (by unfold srvR; (repeat (first | with_reducible exact Sub.refl _ | (with_reducible apply Sub.take; focus (repeat (first | with_reducible exact At.here | with_reducible apply At.there))) | with_reducible apply Sub.drop))))
            clear HX
            go_wp2_with ((with_reducible apply at_build2 (t := 44)); (focus rfl); (focus rfl); (focus rfl); (focus rfl); (focus exact build_o _ _ _ _))
            refine (fuse_ds xn H3.out).mono ?_
            rintro e w5 ⟨rfl, h⟩
            have H5 := hide h
            clear h H3
            go_wp2_with fail
            go_roundg (n + 1 - (k + 1))
            case measure => have := HG.out; omega
            case rel => exact ⟨k + 1, _, gs, gj, gi, gsu, gmb, m, q, rfl, by omega, by go_num, rfl, rfl, rfl, HF.out.mono (by omega) (by omega), H5.out.sub (by unfold srvR; (repeat (first | with_reducible exact Sub.refl _ | (with_reducible apply Sub.take; focus (repeat (first | with_reducible exact At.here | with_reducible apply At.there))) | with_reducible apply Sub.drop)))⟩
        by_cases hd4 : xd = 4
        · as_aux_lemma =>
            have b1 : (xd == 1) = false := by simpa using hd1
            have b2 : (xd == 2) = false := by simpa using hd2
            have b3 : (xd == 3) = false := by simpa using hd3
            have b4 : (xd == 4) = true := by simpa using hd4
            clear hd1 hd2 hd3 hd4
            obtain ⟨M, D, J, dn⟩ := s
            have H3 := hide (HX.out.sub (L' := blkR gs 73 (srvC gd gj gi 1 6 dn) :: jR gj gd J :: imgR gi M :: dsR gd D :: twoR gsu m gmb q :: rowsR 9 OpSR (.slice (some ad) n c) l :: intsR .i64 (.slice PA picks.length pc) picks :: L) (by unfold srvR; (repeat (first | with_reducible exact Sub.refl _ | (with_reducible apply Sub.take; focus (repeat (first | with_reducible exact At.here | with_reducible apply At.there))) | with_reducible apply Sub.drop))))
            clear HX
            cases dn with
            | true =>
              go_wp2_with ((with_reducible apply at_build2 (t := 44)); (focus rfl); (focus rfl); (focus rfl); (focus rfl); (focus exact build_o _ _ _ _))
              refine (cpDn_st gs gd gj gi 1 6 _ H3.out).mono ?_
              rintro e w5 ⟨rfl, h⟩
              have H5 := hide h
              clear h H3
              go_wp2_with fail
              go_roundg (n + 1 - (k + 1))
              case measure => have := HG.out; omega
              case rel => exact ⟨k + 1, ⟨M, D, J, true⟩, gs, gj, gi, gsu, gmb, m, q, rfl, by omega, by go_num, rfl, rfl, rfl, HI.out.mono (by omega) (by omega), H5.out.sub (by unfold srvR; (repeat (first | with_reducible exact Sub.refl _ | (with_reducible apply Sub.take; focus (repeat (first | with_reducible exact At.here | with_reducible apply At.there))) | with_reducible apply Sub.drop)))⟩
            | false =>
              have HSO := hide (HI.out.sok (by have := HKK.out; omega))
              have HCP := hide (HI.out.cp (by have := HKK.out; omega) rfl)
              go_wp2_with ((with_reducible apply at_build2 (t := 44)); (focus rfl); (focus rfl); (focus rfl); (focus rfl); (focus exact build_o _ _ _ _))
              refine (cp_st hT gs gd gj gi 60 1 6 M D J _ HSO.out.d (by decide) HSO.out.m HSO.out.j HSO.out.f HSO.out.a0 HSO.out.j0 H3.out).mono ?_
              rintro e w5 ⟨rfl, h⟩
              have h : St M0 w5 (srvR gs gd gj gi 1 6 (SM.cpS ⟨M, D, J, false⟩ 1) (twoR gsu m gmb q :: rowsR 9 OpSR (.slice (some ad) n c) l :: intsR .i64 (.slice PA picks.length pc) picks :: L)) := h
              generalize SM.cpS ⟨M, D, J, false⟩ 1 = s5 at *
              have H5 := hide h
              clear h H3
              go_wp2_with fail
              go_roundg (n + 1 - (k + 1))
              case measure => have := HG.out; omega
              case rel => exact ⟨k + 1, s5, gs, gj, gi, gsu, gmb, m, q, rfl, by omega, by go_num, rfl, rfl, rfl, HCP.out.mono (by omega) (by omega), H5.out.sub (by unfold srvR; (repeat (first | with_reducible exact Sub.refl _ | (with_reducible apply Sub.take; focus (repeat (first | with_reducible exact At.here | with_reducible apply At.there))) | with_reducible apply Sub.drop)))⟩
        · as_aux_lemma =>
            have b1 : (xd == 1) = false := by simpa using hd1
            have b2 : (xd == 2) = false := by simpa using hd2
            have b3 : (xd == 3) = false := by simpa using hd3
            have b4 : (xd == 4) = false := by simpa using hd4
            clear hd1 hd2 hd3 hd4
            go_wp2_with ((with_reducible apply at_build2 (t := 44)); (focus rfl); (focus rfl); (focus rfl); (focus rfl); (focus exact build_o _ _ _ _))
            go_roundg (n + 1 - (k + 1))
            case measure => have := HG.out; omega
            case rel => exact ⟨k + 1, s, gs, gj, gi, gsu, gmb, m, q, rfl, by omega, by go_num, rfl, rfl, rfl, HI.out.mono (by omega) (by omega), HX.out.sub (by unfold srvR; (repeat (first | with_reducible exact Sub.refl _ | (with_reducible apply Sub.take; focus (repeat (first | with_reducible exact At.here | with_reducible apply At.there))) | with_reducible apply Sub.drop)))⟩
      · as_aux_lemma =>
          obtain ⟨go, hgo⟩ : ∃ go, go = wr.heap.size := ⟨_, rfl⟩
          have hA := h.alloc 44 (opA 2 0 ⟨0, 0, 0, 0, 0, []⟩ (.slice none 0 0) (.slice PA picks.length pc))
          rw [← hgo] at hA
          obtain ⟨f0, f1, f2, f3, f4, f5, f6, f7, f8⟩ := (hA.blk 0 rfl).nineO
          have HX := hide ((hA.copyA (Q := fun w => Ints w .i64 (.slice PA picks.length pc) picks) (by unfold srvR; (repeat (first | with_reducible exact At.here | with_reducible apply At.there)))).sub (L' := intsR .i64 (.slice PA picks.length pc) picks :: blkR go 44 (opA 2 0 ⟨0, 0, 0, 0, 0, []⟩ (.slice none 0 0) (.slice PA picks.length pc)) :: twoR gsu m gmb q :: srvR gs gd gj gi 1 6 s (rowsR 9 OpSR (.slice A n c) l :: intsR .i64 (.slice PA picks.length pc) picks :: L)) (by unfold srvR; (repeat (first | with_reducible exact Sub.refl _ | (with_reducible apply Sub.take; focus (repeat (first | with_reducible exact At.here | with_reducible apply At.there))) | with_reducible apply Sub.drop))))
          have HGO := hide hgo
          clear h hA hgo
          obtain ⟨c1, c2, c3, c4, c5⟩ := HI.out.crash (by have := HKK.out; omega) (by have := HKK.out; omega) picks
          have HC1 := hide c1
          have HC2 := hide c2
          have HC3 := hide c3
          have HMI := hide HI.out.1
          have HMQ := hide HI.out.2.1
          obtain ⟨M, D, J, dn⟩ := s
          obtain ⟨M', hM'⟩ : ∃ x, x = openM (D.crash picks) 1 6 := ⟨_, rfl⟩
          have c4 : openM (D.crash picks) 1 6 = m ∨ openM (D.crash picks) 1 6 = q := c4
          have c5 : Up ⟨openM (D.crash picks) 1 6, openD (D.crash picks) 1 6, openJ (D.crash picks) 1 6, false⟩ 1 6 (10 + 4 * (k : Int) + 1) (1 + (k : Int) + 1) := c5
          have HUP := hide c5
          rw [← hM'] at c4
          have HM' := hide hM'
          have H3 := hide (HX.out.sub (L' := dsR gd D :: intsR .i64 (.slice PA picks.length pc) picks :: twoR gsu m gmb q :: rowsR 9 OpSR (.slice A n c) l :: intsR .i64 (.slice PA picks.length pc) picks :: L) (by unfold srvR; (repeat (first | with_reducible exact Sub.refl _ | (with_reducible apply Sub.take; focus (repeat (first | with_reducible exact At.here | with_reducible apply At.there))) | with_reducible apply Sub.drop))))
          have HC4 := hide c4
          clear c1 c2 c3 c4 c5 HX HI hM'
          go_wp2_with ((with_reducible apply at_build2 (t := 44)); (focus rfl); (focus rfl); (focus rfl); (focus rfl); (focus exact build_o _ _ _ _))
          refine (crash_ds (D := D) (.slice PA picks.length pc) picks 0 HC1.out.ok (by have := HC1.out.p; omega) rfl H3.out).mono ?_
          rintro e w5 ⟨rfl, h⟩
          have H4 := hide h
          clear h H3
          go_wp2_with fail
          refine (cOpen_st hT gd 10 (D.crash picks) 1 6 _ HC3.out (by omega) HC2.out H4.out).mono ?_
          rintro e w6 ⟨gs6, gj6, gi6, rfl, h⟩
          rw [← HM'.out] at h
          have H5 := hide h
          clear h H4
          go_wp2_with fail
          refine (cImage_q gs6 gd gj6 gi6 1 6 false _ (H5.out.blk 0 rfl)).mono ?_
          rintro e w7 ⟨rfl, rfl⟩
          go_wp2_with fail
          refine (cImage_q gs6 gd gj6 gi6 1 6 false _ (H5.out.blk 0 rfl)).mono ?_
          rintro e w7 ⟨rfl, rfl⟩
          have HMP := hide (show MI M' from HC4.out.elim (fun e => by rw [e]; exact HMI.out) (fun e => by rw [e]; exact HMQ.out))
          go_wp2_with fail
          refine (pack_st gi6 M' _ HMP.out.ok (H5.out.front (X := imgR gi6 M') (by (repeat (first | with_reducible exact At.here | with_reducible apply At.there))))).mono ?_
          rintro e w8 ⟨v8, rfl, h⟩
          obtain ⟨A8, c8, rfl⟩ := h.slice
          have H6 := hide (h.ints.sub (L' := twoR gsu m gmb q :: intsR .u8 (.slice A8 (packI M').length c8) (packI M') :: blkR gs6 73 (srvC gd gj6 gi6 1 6 false) :: jR gj6 gd (openJ (D.crash picks) 1 6) :: imgR gi6 M' :: dsR gd (openD (D.crash picks) 1 6) :: rowsR 9 OpSR (.slice A n c) l :: intsR .i64 (.slice PA picks.length pc) picks :: L) (by (repeat (first | with_reducible exact Sub.refl _ | (with_reducible apply Sub.take; focus (repeat (first | with_reducible exact At.here | with_reducible apply At.there))) | with_reducible apply Sub.drop))))
          clear h H5
          generalize (packI M').length = n8 at *
          go_wp2_with fail
          refine (packM_st HMQ.out.ok H6.out).mono ?_
          rintro e w9 ⟨A9, c9, rfl, h⟩
          have H7 := hide h
          clear h H6
          generalize (packI q).length = n9 at *
          go_wp2_with fail
          refine (same_st (.slice A8 n8 c8) (.slice A9 n9 c9) (packI M') (packI q) _ (H7.out.getA (Q := fun w => Ints w .u8 (.slice A8 n8 c8) (packI M')) (by (repeat (first | with_reducible exact At.here | with_reducible apply At.there)))) (H7.out.get 0 rfl) H7.out).mono ?_
          rintro e wa ⟨rfl, h⟩
          have h9 := h.tail
          clear h H7
          by_cases hq : M' = q
          · have hb : decide (packI M' = packI q) = true := decide_eq_true (by rw [hq])
            rw [hb]
            have H8 := hide h9.twoMaybe.twoOne
            have HQ9 := hide hq
            clear h9 hb hq
            go_wp2_with fail
            refine (packS_st HMQ.out.ok H8.out).mono ?_
            rintro e wb ⟨Ab, cb, rfl, h⟩
            have H9 := hide h
            clear h H8
            generalize (packI q).length = nb at *
            go_wp2_with fail
            refine (same_true (.slice A8 n8 c8) (.slice Ab nb cb) (packI q) _ (by rw [← HQ9.out]; exact H9.out.getA (Q := fun w => Ints w .u8 (.slice A8 n8 c8) (packI M')) (by (repeat (first | with_reducible exact At.here | with_reducible apply At.there)))) (H9.out.get 0 rfl) H9.out).mono ?_
            rintro e wc ⟨rfl, h⟩
            have HZ := hide h
            clear h H9
            go_wp2_with fail
            go_roundg (n + 1 - (k + 1))
            case measure => have := HG.out; omega
            case rel =>
              have hU := HUP.out
              rw [← HM'.out] at hU
              have hk9 := HKK.out
              exact ⟨k + 1, ⟨M', openD (D.crash picks) 1 6, openJ (D.crash picks) 1 6, false⟩, gs6, gj6, gi6, gmb, gmb, q, q, rfl, by omega, (by first | go_num | (refine congrArg _ ?_; rw [IntWalk.wrap64_in _ ⟨by omega, by omega⟩]; omega)), rfl, rfl, rfl, ⟨HMQ.out, HMQ.out, HQ9.out, .inl ⟨rfl, hU.mono (by omega) (by omega)⟩⟩, HZ.out.sub (by unfold srvR; (repeat (first | with_reducible exact Sub.refl _ | (with_reducible apply Sub.take; focus (repeat (first | with_reducible exact At.here | with_reducible apply At.there))) | with_reducible apply Sub.drop)))⟩
          · have hm : M' = m := HC4.out.resolve_right hq
            have hb : decide (packI M' = packI q) = false := decide_eq_false (fun he => hq (pack_inj HMP.out HMQ.out he))
            rw [hb]
            have H8 := hide h9.twoSure.twoOne
            have HQ9 := hide hm
            clear h9 hb hq hm
            go_wp2_with fail
            refine (packS_st HMI.out.ok H8.out).mono ?_
            rintro e wb ⟨Ab, cb, rfl, h⟩
            have H9 := hide h
            clear h H8
            generalize (packI m).length = nb at *
            go_wp2_with fail
            refine (same_true (.slice A8 n8 c8) (.slice Ab nb cb) (packI m) _ (by rw [← HQ9.out]; exact H9.out.getA (Q := fun w => Ints w .u8 (.slice A8 n8 c8) (packI M')) (by (repeat (first | with_reducible exact At.here | with_reducible apply At.there)))) (H9.out.get 0 rfl) H9.out).mono ?_
            rintro e wc ⟨rfl, h⟩
            have HZ := hide h
            clear h H9
            go_wp2_with fail
            go_roundg (n + 1 - (k + 1))
            case measure => have := HG.out; omega
            case rel =>
              have hU := HUP.out
              rw [← HM'.out] at hU
              have hk9 := HKK.out
              exact ⟨k + 1, ⟨M', openD (D.crash picks) 1 6, openJ (D.crash picks) 1 6, false⟩, gs6, gj6, gi6, gsu, gsu, m, m, rfl, by omega, (by first | go_num | (refine congrArg _ ?_; rw [IntWalk.wrap64_in _ ⟨by omega, by omega⟩]; omega)), rfl, rfl, rfl, ⟨HMI.out, HMI.out, HQ9.out, .inl ⟨rfl, hU.mono (by omega) (by omega)⟩⟩, HZ.out.sub (by unfold srvR; (repeat (first | with_reducible exact Sub.refl _ | (with_reducible apply Sub.take; focus (repeat (first | with_reducible exact At.here | with_reducible apply At.there))) | with_reducible apply Sub.drop)))⟩
    · obtain rfl : k = n + 1 := by omega
      have H3 := hide h
      clear h hle
      go_wp2_with fail
      go_ret
      exact ⟨rfl, H3.out.tail.tail.tail.tail.tail.tail.tail⟩
end Go.Proofs.YtpaelngpmbeedaaGreatDoor
