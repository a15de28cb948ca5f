/- store: begun anew, a message heard, a crash. Printed by gen_stb.py out of stb.in. -/
import Derived.Test.YtpaelngpmbeedaaGreatDoorStoA
import Derived.BigQuiet
namespace Go.Proofs.YtpaelngpmbeedaaGreatDoor
open Go.RowKit

theorem Blk.three {w : World} {b : Nat} {t : TypeId} {v0 v1 v2 : Value} (h : Blk w b t #[v0, v1, v2]) : w.cell? ⟨b, 0, none⟩ = some v0 ∧ w.cell? ⟨b, 1, none⟩ = some v1 ∧ w.cell? ⟨b, 2, none⟩ = some v2 := ⟨h.cell 0, h.cell 1, h.cell 2⟩
/-- a store's cells: who it is, its disk, its server -/
abbrev stoC (me : Int) (gd : Nat) (p : Value) : Array Value := #[.int .i64 me, .pointer (some ⟨gd, 0, none⟩), p]
theorem dec_encR {r : RQ} (hr : r.ok) (hw : r.wrong = 0) : decQe (encQ r) = 0 ∧ decQ (encQ r) = r := by
  rw [show encQ r = reqB r from if_pos hw]
  exact dec_enc_req hr hw

set_option maxRecDepth 100000 in
set_option maxHeartbeats 4000000 in
theorem sdo_st {M0 : Imm} {L : List Res} (hT : Tbl M0) (g gs gd gj gi kk : Nat) (me : Int) (s : SM) (r : RQ) (A : Option Addr) (n c : Nat) (w : World) (hkk : kk ≤ 700000) (hS : SOk s 0 8 kk) (hr : r.ok) (hb : Bytes r.data) (hw : r.wrong = 0)
    (h : St M0 w (intsR .u8 (.slice A n c) (encQ r) :: blkR g 163 (stoC me gd (.pointer (some ⟨gs, 0, none⟩))) :: srvR gs gd gj gi 0 8 s L)) :
    Calls Tryz.prog 88 #[.pointer (some ⟨g, 0, none⟩), .slice A n c] w fun e w' => ∃ V, e = .returned (.tuple #[V, .int .i64 (s.doE 0 8 r)]) ∧ St M0 w' (rowsR 1 LogR V (s.doO 0 8 r) :: blkR g 163 (stoC me gd (.pointer (some ⟨gs, 0, none⟩))) :: srvR gs gd gj gi 0 8 (s.doS 0 8 r) L) := by
  obtain ⟨s0, s1, s2⟩ := (h.blk 1 rfl).three
  have H := hide h
  have HD := hide (dec_encR hr hw)
  have HL := hide (show (encQ r).length ≤ 1000000 by have := encQ_43 r; omega)
  have HB := hide hb
  have HR := hide hr
  have HS := hide hS
  clear h hb hr hS
  go_enter Tryz.func88, Tryz.ntmps88
  go_wp2_with fail
  refine (decode_st _ (encQ r) _ (encQ_bytes HB.out) HL.out H.out).mono ?_
  rintro e w2 ⟨A3, n3, c3, rfl, h⟩
  rw [HD.out.1]
  rw [HD.out.2] at h ⊢
  have h1 := h.alloc 42 #[.int .i64 r.op, .int .i64 r.region, .int .i64 r.index, .int .u64 r.token, .int .u32 r.seq, .slice A3 n3 c3]
  obtain ⟨gr, hgr⟩ : ∃ gr, gr = w2.heap.size := ⟨_, rfl⟩
  have HGR := hide hgr
  rw [← hgr] at h1
  have H2 := hide (h1.sub (L' := blkR g 163 (stoC me gd (.pointer (some ⟨gs, 0, none⟩))) :: blkR gr 42 #[.int .i64 r.op, .int .i64 r.region, .int .i64 r.index, .int .u64 r.token, .int .u32 r.seq, .slice A3 n3 c3] :: intsR .u8 (.slice A3 n3 c3) r.data :: blkR gs 73 (srvC gd gj gi 0 8 s.dn) :: jR gj gd s.J :: imgR gi s.M :: dsR gd s.D :: L) (by unfold srvR; (repeat (first | with_reducible exact Sub.refl _ | (with_reducible apply Sub.take; focus (repeat (first | with_reducible exact At.here | with_reducible apply At.there))) | with_reducible apply Sub.drop))))
  clear h h1 H hgr s0 s1 s2
  go_wp2_with fail
  rw [← HGR.out]
  refine region_flow (M0 := M0) (L0 := L) [⟨none, none, fun e => blkR g 163 (stoC me gd (.pointer (some ⟨gs, 0, none⟩)))⟩, ⟨none, none, fun e => blkR gr 42 #[.int .i64 r.op, .int .i64 r.region, .int .i64 r.index, .int .u64 r.token, .int .u32 r.seq, .slice A3 n3 c3]⟩, ⟨none, some 5, fun e => intsR .u8 (.slice A3 n3 c3) r.data⟩, ⟨none, some 5, fun e => blkR gs 73 (srvC gd gj gi 0 8 s.dn)⟩, ⟨none, some 5, fun e => jR gj gd s.J⟩, ⟨none, some 5, fun e => imgR gi s.M⟩, ⟨none, some 5, fun e => dsR gd s.D⟩, ⟨some 5, none, fun e => blkR gs 73 (srvC gd gj gi 0 8 (s.doS 0 8 r).dn)⟩, ⟨some 5, none, fun e => jR gj gd (s.doS 0 8 r).J⟩, ⟨some 5, none, fun e => imgR gi (s.doS 0 8 r).M⟩, ⟨some 5, none, fun e => dsR gd (s.doS 0 8 r).D⟩, ⟨some 5, none, fun e => rowsR 1 LogR (e 5).v (s.doO 0 8 r)⟩] [[], [0], [0, 1], [0, 1, 2], [], [0, 1, 2, 3, 4], [0, 1, 2, 3, 4, 5], [0, 1, 2, 3, 4, 5], [0, 1, 2, 3, 4, 5, 6, 7], [0, 1, 2, 3, 4, 5, 6, 7, 8]] [0, 1, 2, 3, 4, 5, 6, 7, 8, 9] rfl (by kernel_rfl) (by kernel_rfl) (by kernel_rfl) (by rfl) (fun _ => rfl) (show St M0 _ (blkR g 163 (stoC me gd (.pointer (some ⟨gs, 0, none⟩))) :: blkR gr 42 #[.int .i64 r.op, .int .i64 r.region, .int .i64 r.index, .int .u64 r.token, .int .u32 r.seq, .slice A3 n3 c3] :: intsR .u8 (.slice A3 n3 c3) r.data :: blkR gs 73 (srvC gd gj gi 0 8 s.dn) :: jR gj gd s.J :: imgR gi s.M :: dsR gd s.D :: L) from H2.out) ?_
  refine flow_run _ rfl (fun _ => rfl) (fun e wx Lx h => by (go_simp; try rfl)) (by intro e; rfl) (by intro e; rfl) (by intro e x; rfl) ?_
  (simp only [Act.put, List.setIfInBounds_toArray, List.set_cons_succ, List.set_cons_zero])
  refine flow_run _ rfl (fun _ => rfl) (fun e wx Lx h => by (go_simp; try rfl)) (by intro e; rfl) (by intro e; rfl) (by intro e x; rfl) ?_
  (simp only [Act.put, List.setIfInBounds_toArray, List.set_cons_succ, List.set_cons_zero])
  refine flow_run _ rfl (fun _ => rfl) (fun e wx Lx h => by (go_simp; try rfl)) (by intro e; rfl) (by intro e; rfl) (by intro e x; rfl) ?_
  (simp only [Act.put, List.setIfInBounds_toArray, List.set_cons_succ, List.set_cons_zero])
  refine flow_run _ rfl (fun _ => rfl) (fun e wx Lx h => by (have h : St M0 wx (blkR g 163 (stoC me gd (.pointer (some ⟨gs, 0, none⟩))) :: blkR gr 42 #[.int .i64 r.op, .int .i64 r.region, .int .i64 r.index, .int .u64 r.token, .int .u32 r.seq, .slice A3 n3 c3] :: intsR .u8 (.slice A3 n3 c3) r.data :: blkR gs 73 (srvC gd gj gi 0 8 s.dn) :: jR gj gd s.J :: imgR gi s.M :: dsR gd s.D :: Lx) := h; obtain ⟨y0, y1, y2⟩ := (h.blkA (g := g) (t := 163) (cs := stoC me gd (.pointer (some ⟨gs, 0, none⟩))) (by (repeat (first | with_reducible exact At.here | with_reducible apply At.there)))).three; obtain ⟨r0, r1, r2, r3, r4, r5⟩ := (h.blkA (g := gr) (t := 42) (cs := #[.int .i64 r.op, .int .i64 r.region, .int .i64 r.index, .int .u64 r.token, .int .u32 r.seq, .slice A3 n3 c3]) (by (repeat (first | with_reducible exact At.here | with_reducible apply At.there)))).six; go_simp; try rfl)) (by intro e; rfl) (by intro e; rfl) (by intro e x; rfl) ?_
  (simp only [Act.put, List.setIfInBounds_toArray, List.set_cons_succ, List.set_cons_zero])
  refine flow_run _ rfl (fun _ => rfl) (fun e wx Lx h => by (have h : St M0 wx (blkR g 163 (stoC me gd (.pointer (some ⟨gs, 0, none⟩))) :: blkR gr 42 #[.int .i64 r.op, .int .i64 r.region, .int .i64 r.index, .int .u64 r.token, .int .u32 r.seq, .slice A3 n3 c3] :: intsR .u8 (.slice A3 n3 c3) r.data :: blkR gs 73 (srvC gd gj gi 0 8 s.dn) :: jR gj gd s.J :: imgR gi s.M :: dsR gd s.D :: Lx) := h; obtain ⟨y0, y1, y2⟩ := (h.blkA (g := g) (t := 163) (cs := stoC me gd (.pointer (some ⟨gs, 0, none⟩))) (by (repeat (first | with_reducible exact At.here | with_reducible apply At.there)))).three; obtain ⟨r0, r1, r2, r3, r4, r5⟩ := (h.blkA (g := gr) (t := 42) (cs := #[.int .i64 r.op, .int .i64 r.region, .int .i64 r.index, .int .u64 r.token, .int .u32 r.seq, .slice A3 n3 c3]) (by (repeat (first | with_reducible exact At.here | with_reducible apply At.there)))).six; go_simp; try rfl)) (by intro e; rfl) (by intro e; rfl) (by intro e x; rfl) ?_
  (simp only [Act.put, List.setIfInBounds_toArray, List.set_cons_succ, List.set_cons_zero])
  refine flow_call 7 (fun e => #[.pointer (some ⟨gs, 0, none⟩), reqV r (.slice A3 n3 c3)]) (fun e => .tuple #[(e 5).v, .int .i64 (s.doE 0 8 r)]) rfl (fun _ => rfl) (by intro e; rfl) (fun e wx => by (go_simp; try rfl)) (fun e wx Lx h => by (
    have h : St M0 wx (blkR g 163 (stoC me gd (.pointer (some ⟨gs, 0, none⟩))) :: blkR gr 42 #[.int .i64 r.op, .int .i64 r.region, .int .i64 r.index, .int .u64 r.token, .int .u32 r.seq, .slice A3 n3 c3] :: intsR .u8 (.slice A3 n3 c3) r.data :: blkR gs 73 (srvC gd gj gi 0 8 s.dn) :: jR gj gd s.J :: imgR gi s.M :: dsR gd s.D :: Lx) := h
    refine (cDo_st hT gs gd gj gi kk 0 8 s r A3 n3 c3 _ hkk HS.out HR.out (encQ_bytes HB.out) (encQ_43 r) (show St M0 wx (intsR .u8 (.slice A3 n3 c3) r.data :: srvR gs gd gj gi 0 8 s (blkR g 163 (stoC me gd (.pointer (some ⟨gs, 0, none⟩))) :: blkR gr 42 #[.int .i64 r.op, .int .i64 r.region, .int .i64 r.index, .int .u64 r.token, .int .u32 r.seq, .slice A3 n3 c3] :: Lx)) from h.sub (by unfold srvR; (repeat (first | with_reducible exact Sub.refl _ | (with_reducible apply Sub.take; focus (repeat (first | with_reducible exact At.here | with_reducible apply At.there))) | with_reducible apply Sub.drop))))).mono ?_
    rintro u wy ⟨V, rfl, h1⟩
    have hk : St M0 wy (blkR g 163 (stoC me gd (.pointer (some ⟨gs, 0, none⟩))) :: blkR gr 42 #[.int .i64 r.op, .int .i64 r.region, .int .i64 r.index, .int .u64 r.token, .int .u32 r.seq, .slice A3 n3 c3] :: blkR gs 73 (srvC gd gj gi 0 8 (s.doS 0 8 r).dn) :: jR gj gd (s.doS 0 8 r).J :: imgR gi (s.doS 0 8 r).M :: dsR gd (s.doS 0 8 r).D :: rowsR 1 LogR V (s.doO 0 8 r) :: Lx) := h1.sub (by unfold srvR; (repeat (first | with_reducible exact Sub.refl _ | (with_reducible apply Sub.take; focus (repeat (first | with_reducible exact At.here | with_reducible apply At.there))) | with_reducible apply Sub.drop)))
    exact ⟨⟨none, 0, V⟩, rfl, hk⟩)) ?_
  (simp only [Act.put, List.setIfInBounds_toArray, List.set_cons_succ, List.set_cons_zero])
  refine flow_run _ rfl (fun _ => rfl) (fun e wx Lx h => by (go_simp; try rfl)) (by intro e; rfl) (by intro e; rfl) (by intro e x; rfl) ?_
  (simp only [Act.put, List.setIfInBounds_toArray, List.set_cons_succ, List.set_cons_zero])
  refine flow_run _ rfl (fun _ => rfl) (fun e wx Lx h => by (go_simp; try rfl)) (by intro e; rfl) (by intro e; rfl) (by intro e x; rfl) ?_
  (simp only [Act.put, List.setIfInBounds_toArray, List.set_cons_succ, List.set_cons_zero])
  refine flow_run _ rfl (fun _ => rfl) (fun e wx Lx h => by (go_simp; try rfl)) (by intro e; rfl) (by intro e; rfl) (by intro e x; rfl) ?_
  (simp only [Act.put, List.setIfInBounds_toArray, List.set_cons_succ, List.set_cons_zero])
  refine flow_run _ rfl (fun _ => rfl) (fun e wx Lx h => by (go_simp; try rfl)) (by intro e; rfl) (by intro e; rfl) (by intro e x; rfl) ?_
  (simp only [Act.put, List.setIfInBounds_toArray, List.set_cons_succ, List.set_cons_zero])
  refine flow_nil ?_
  intro e w1 h
  have h : St M0 w1 (blkR g 163 (stoC me gd (.pointer (some ⟨gs, 0, none⟩))) :: blkR gr 42 #[.int .i64 r.op, .int .i64 r.region, .int .i64 r.index, .int .u64 r.token, .int .u32 r.seq, .slice A3 n3 c3] :: blkR gs 73 (srvC gd gj gi 0 8 (s.doS 0 8 r).dn) :: jR gj gd (s.doS 0 8 r).J :: imgR gi (s.doS 0 8 r).M :: dsR gd (s.doS 0 8 r).D :: rowsR 1 LogR (e 5).v (s.doO 0 8 r) :: L) := h
  obtain ⟨V, hV⟩ : ∃ V, (e 5).v = V := ⟨_, rfl⟩
  rw [hV] at h
  have H8 := hide h
  clear h
  go_wp2_with fail
  rw [hV]
  clear hV
  go_wp2_with fail
  go_ret2
  exact ⟨V, rfl, H8.out.sub (by unfold srvR; (repeat (first | with_reducible exact Sub.refl _ | (with_reducible apply Sub.take; focus (repeat (first | with_reducible exact At.here | with_reducible apply At.there))) | with_reducible apply Sub.drop)))⟩

set_option maxRecDepth 100000 in
set_option maxHeartbeats 4000000 in
theorem snew_st {M0 : Imm} {L : List Res} (hT : Tbl M0) (gd kk : Nat) (me : Int) (D : DS) (w : World) (hm : 0 ≤ me ∧ me < 16) (hD : DsOk D kk) (hkk : kk ≤ 900000) (hO : OpOk D 0 8) (h : St M0 w (dsR gd D :: L)) :
    Calls Tryz.prog 87 #[.int .i64 me, .pointer (some ⟨gd, 0, none⟩)] w fun e w' => ∃ g gs gj gi, e = .returned (.tuple #[.pointer (some ⟨g, 0, none⟩), .int .i64 0]) ∧ St M0 w' (blkR g 163 (stoC me gd (.pointer (some ⟨gs, 0, none⟩))) :: srvR gs gd gj gi 0 8 ⟨openM D 0 8, openD D 0 8, openJ D 0 8, false⟩ L) := by
  have d1 : decide (me < 0) = false := decide_eq_false (by omega)
  have d2 : decide (me ≥ 16) = false := decide_eq_false (by omega)
  have d3 : decide (16 ≤ me) = false := decide_eq_false (by omega)
  have H := hide h
  clear h hm
  go_enter Tryz.func87, Tryz.ntmps87
  go_wp2_with fail
  refine (cOpen_st hT gd kk D 0 8 _ hD hkk hO H.out).mono ?_
  rintro e w2 ⟨gs, gj, gi, rfl, h⟩
  have H2 := hide (h.alloc 163 (stoC me gd (.pointer (some ⟨gs, 0, none⟩))))
  clear h H
  go_wp2_with fail
  go_ret2
  exact ⟨w2.heap.size, gs, gj, gi, rfl, H2.out⟩

theorem sup_up (g gs gd : Nat) (me : Int) (w : World) (h : Blk w g 163 (stoC me gd (.pointer (some ⟨gs, 0, none⟩)))) :
    Calls Tryz.prog 46 #[.pointer (some ⟨g, 0, none⟩)] w fun e w' => e = .returned (.bool true) ∧ w' = w := by
  obtain ⟨s0, s1, s2⟩ := h.three
  clear h
  go_enter Tryz.func46, Tryz.ntmps46
  go_wp2_with fail
  go_ret
  exact ⟨rfl, rfl⟩

set_option maxRecDepth 100000 in
set_option maxHeartbeats 4000000 in
theorem scrash_st {M0 : Imm} {L : List Res} (hT : Tbl M0) (g gd : Nat) (me : Int) (p : Value) (D : DS) (v : Value) (picks : List Int) (w : World) (hD : DsOk D 900000) (hO : OpOk (D.crash picks) 0 8) (hC : DsOk (D.crash picks) 10)
    (h : St M0 w (blkR g 163 (stoC me gd p) :: dsR gd D :: intsR .i64 v picks :: L)) :
    Calls Tryz.prog 45 #[.pointer (some ⟨g, 0, none⟩), v] w fun e w' => ∃ gs gj gi, e = .returned (.int .i64 0) ∧ St M0 w' (blkR g 163 (stoC me gd (.pointer (some ⟨gs, 0, none⟩))) :: srvR gs gd gj gi 0 8 ⟨openM (D.crash picks) 0 8, openD (D.crash picks) 0 8, openJ (D.crash picks) 0 8, false⟩ (intsR .i64 v picks :: L)) := by
  obtain ⟨A, c, rfl, _, _, _⟩ := h.get 2 rfl
  obtain ⟨s0, s1, s2⟩ := (h.blk 0 rfl).three
  have H := hide h
  clear h
  go_enter Tryz.func45, Tryz.ntmps45
  go_wp2_with fail
  refine (crash_ds _ picks 0 hD.ok (by have := hD.p; omega) rfl (H.out.sub (L' := dsR gd D :: intsR .i64 (.slice A picks.length c) picks :: blkR g 163 (stoC me gd p) :: L) (by (repeat (first | with_reducible exact Sub.refl _ | (with_reducible apply Sub.take; focus (repeat (first | with_reducible exact At.here | with_reducible apply At.there))) | with_reducible apply Sub.drop))))).mono ?_
  rintro e w2 ⟨rfl, h⟩
  obtain ⟨s0, s1, s2⟩ := (h.blk 2 rfl).three
  have H2 := hide h
  clear h H
  go_wp2_with fail
  refine (cOpen_st hT gd 10 (D.crash picks) 0 8 _ hC (by omega) hO H2.out).mono ?_
  rintro e w3 ⟨gs, gj, gi, rfl, h⟩
  have h3 := h.sub (L' := blkR g 163 (stoC me gd p) :: blkR gs 73 (srvC gd gj gi 0 8 false) :: jR gj gd (openJ (D.crash picks) 0 8) :: imgR gi (openM (D.crash picks) 0 8) :: dsR gd (openD (D.crash picks) 0 8) :: intsR .i64 (.slice A picks.length c) picks :: L) (by (repeat (first | with_reducible exact Sub.refl _ | (with_reducible apply Sub.take; focus (repeat (first | with_reducible exact At.here | with_reducible apply At.there))) | with_reducible apply Sub.drop)))
  obtain ⟨s0, s1, s2⟩ := (h3.blk 0 rfl).three
  have fz := (h3.blk 0 rfl).frozen
  have H3 := hide h3
  clear h h3 H2
  go_wp2_with fail
  go_ret
  exact ⟨gs, gj, gi, rfl, H3.out.set_ 2 (.pointer (some ⟨gs, 0, none⟩))⟩

/-! ### a message is heard -/
set_option maxRecDepth 100000 in
theorem msg_build (w : World) (k f t i : Int) (ok : Bool) (A : Option Addr) (n c : Nat) : (Instr.buildSlice 112 1 #[(0, msgV k f t i ok (.slice A n c))]).run Tryz.prog w = .ok (.slice (some ⟨w.heap.size, 0, none⟩) 1 1) (w.alloc (.cells (msgC k f t i ok (.slice A n c)) 63)) := by kernel_rfl
set_option maxRecDepth 100000 in
set_option maxHeartbeats 8000000 in
/-- nobody is there -/
theorem hear_nil {M0 : Imm} {L : List Res} (g gd : Nat) (me k f t i : Int) (ok : Bool) (A : Option Addr) (n c : Nat) (w : World) (h : St M0 w (blkR g 163 (stoC me gd (.pointer none)) :: L)) :
    Calls Tryz.prog 44 #[.pointer (some ⟨g, 0, none⟩), msgV k f t i ok (.slice A n c)] w fun e w' => e = .returned (.slice none 0 0) ∧ St M0 w' (blkR g 163 (stoC me gd (.pointer none)) :: L) := by
  have h1 := h.alloc 63 (msgC k f t i ok (.slice A n c))
  obtain ⟨m0, m1, m2, m3, m4, m5, m6, m7, m8, m9⟩ := (h1.blk 0 rfl).ten
  obtain ⟨s0, s1, s2⟩ := (h1.blk 1 rfl).three
  have H := hide h1
  clear h h1
  go_enter Tryz.func44, Tryz.ntmps44
  go_wp2_with fail
  go_quiet (fail)
  go_wp2_with fail
  go_ret
  exact ⟨rfl, (H.out.drewN _).tail⟩
set_option maxRecDepth 100000 in
set_option maxHeartbeats 8000000 in
/-- it is another message -/
theorem hear_not {M0 : Imm} {L : List Res} (g gd gs : Nat) (me f t i : Int) (ok : Bool) (A : Option Addr) (n c : Nat) (w : World) (h : St M0 w (blkR g 163 (stoC me gd (.pointer (some ⟨gs, 0, none⟩))) :: L)) :
    Calls Tryz.prog 44 #[.pointer (some ⟨g, 0, none⟩), msgV 0 f t i ok (.slice A n c)] w fun e w' => e = .returned (.slice none 0 0) ∧ St M0 w' (blkR g 163 (stoC me gd (.pointer (some ⟨gs, 0, none⟩))) :: L) := by
  have h1 := h.alloc 63 (msgC 0 f t i ok (.slice A n c))
  obtain ⟨m0, m1, m2, m3, m4, m5, m6, m7, m8, m9⟩ := (h1.blk 0 rfl).ten
  obtain ⟨s0, s1, s2⟩ := (h1.blk 1 rfl).three
  have H := hide h1
  clear h h1
  go_enter Tryz.func44, Tryz.ntmps44
  go_wp2_with fail
  go_quiet (fail)
  go_wp2_with fail
  go_ret
  exact ⟨rfl, (H.out.drewN _).tail⟩
set_option maxRecDepth 100000 in
set_option maxHeartbeats 16000000 in
/-- it is answered -/
theorem hear_up {M0 : Imm} {L : List Res} (hT : Tbl M0) (g gs gd gj gi kk : Nat) (me f i : Int) (ok : Bool) (s : SM) (r : RQ) (A : Option Addr) (n c : Nat) (w : World) (hkk : kk ≤ 700000) (hS : SOk s 0 8 kk) (hr : r.ok) (hb : Bytes r.data) (hw : r.wrong = 0)
    (hc : 0 ≤ s.doE 0 8 r ∧ s.doE 0 8 r ≤ 1000) (h43 : ¬ s.doE 0 8 r = 43) (hd : (s.doS 0 8 r).D.down = false) (hl : (s.doO 0 8 r).length ≤ 200)
    (h : St M0 w (intsR .u8 (.slice A n c) (encQ r) :: blkR g 163 (stoC me gd (.pointer (some ⟨gs, 0, none⟩))) :: srvR gs gd gj gi 0 8 s L)) :
    Calls Tryz.prog 44 #[.pointer (some ⟨g, 0, none⟩), msgV 11 f me i ok (.slice A n c)] w fun e w' => ∃ gm A2 c2, e = .returned (.slice (some ⟨gm, 0, none⟩) 1 1) ∧ St M0 w' (blkR gm 63 (msgC 12 me f i (s.doE 0 8 r == 0) (.slice A2 (ansB (s.doE 0 8 r) (s.doO 0 8 r)).length c2)) :: intsR .u8 (.slice A2 (ansB (s.doE 0 8 r) (s.doO 0 8 r)).length c2) (ansB (s.doE 0 8 r) (s.doO 0 8 r)) :: blkR g 163 (stoC me gd (.pointer (some ⟨gs, 0, none⟩))) :: srvR gs gd gj gi 0 8 (s.doS 0 8 r) L) := by
  obtain ⟨code, hcode⟩ : ∃ x, x = s.doE 0 8 r := ⟨_, rfl⟩
  obtain ⟨out, hout⟩ : ∃ x, x = s.doO 0 8 r := ⟨_, rfl⟩
  obtain ⟨s', hs'⟩ : ∃ x, x = s.doS 0 8 r := ⟨_, rfl⟩
  rw [← hcode] at hc h43 ⊢
  rw [← hout] at hl ⊢
  rw [← hs'] at hd ⊢
  obtain ⟨M', D', J', dn'⟩ := s'
  have HCO := hide hcode
  have HOU := hide hout
  have HSS := hide hs'
  have h1 := h.alloc 63 (msgC 11 f me i ok (.slice A n c))
  obtain ⟨gm, hgm⟩ : ∃ gm, gm = w.heap.size := ⟨_, rfl⟩
  obtain ⟨m0, m1, m2, m3, m4, m5, m6, m7, m8, m9⟩ := (h1.blk 0 rfl).ten
  obtain ⟨s0, s1, s2⟩ := (h1.blk 2 rfl).three
  have H := hide h1
  have dm : (me != me) = false := by simp
  have HS := hide hS
  have HR := hide hr
  have HB := hide hb
  have HW := hide hw
  have HC := hide hc
  have HL := hide hl
  have HD := hide hd
  have HG := hide hgm
  have HD : Hid (D'.down = false) := HD
  have d43 : (code == 43) = false := by simpa using h43
  clear h h1 hS hr hb hw hc hl hd hgm h43 hcode hout hs'
  go_enter Tryz.func44, Tryz.ntmps44
  go_wp2_with fail
  go_quiet (fail)
  go_wp2_with fail
  refine (sdo_st hT g gs gd gj gi kk me s r A n c _ hkk HS.out HR.out HB.out HW.out ((H.out.drewN _).sub (L' := intsR .u8 (.slice A n c) (encQ r) :: blkR g 163 (stoC me gd (.pointer (some ⟨gs, 0, none⟩))) :: srvR gs gd gj gi 0 8 s (blkR w.heap.size 63 (msgC 11 f me i ok (.slice A n c)) :: L)) (by unfold srvR; (repeat (first | with_reducible exact Sub.refl _ | (with_reducible apply Sub.take; focus (repeat (first | with_reducible exact At.here | with_reducible apply At.there))) | with_reducible apply Sub.drop))))).mono ?_
  rintro e w2 ⟨V, rfl, h⟩
  rw [← HCO.out]
  rw [← HOU.out, ← HSS.out] at h
  obtain ⟨AV, cV, rfl, _, _⟩ := (h.getRows 0 rfl).slice
  have h : St M0 w2 (rowsR 1 LogR (.slice AV out.length cV) out :: blkR g 163 (stoC me gd (.pointer (some ⟨gs, 0, none⟩))) :: blkR gs 73 (srvC gd gj gi 0 8 dn') :: jR gj gd J' :: imgR gi M' :: dsR gd D' :: blkR w.heap.size 63 (msgC 11 f me i ok (.slice A n c)) :: L) := h
  rw [← HG.out] at h
  obtain ⟨m0, m1, m2, m3, m4, m5, m6, m7, m8, m9⟩ := (h.blk 6 rfl).ten
  obtain ⟨s0, s1, s2⟩ := (h.blk 1 rfl).three
  have H2 := hide h
  clear h H
  go_wp2_with fail
  refine (down_ds (H2.out.front (X := dsR gd D') (by (repeat (first | with_reducible exact At.here | with_reducible apply At.there))))).mono ?_
  rintro e w3 ⟨rfl, h⟩
  rw [HD.out]
  have h0 := h
  clear h H2 m0 m1 m2 m3 m4 m5 m6 m7 m8 m9 s0 s1 s2
  have h2 := h0.sub (L' := blkR g 163 (stoC me gd (.pointer (some ⟨gs, 0, none⟩))) :: blkR gm 63 (msgC 11 f me i ok (.slice A n c)) :: rowsR 1 LogR (.slice AV out.length cV) out :: blkR gs 73 (srvC gd gj gi 0 8 dn') :: jR gj gd J' :: imgR gi M' :: dsR gd D' :: L) (by (repeat (first | with_reducible exact Sub.refl _ | (with_reducible apply Sub.take; focus (repeat (first | with_reducible exact At.here | with_reducible apply At.there))) | with_reducible apply Sub.drop)))
  have H2 := hide h2
  clear h0 h2
  go_wp2_with fail
  rw [← HG.out]
  refine region_flow (M0 := M0) (L0 := blkR gs 73 (srvC gd gj gi 0 8 dn') :: jR gj gd J' :: imgR gi M' :: dsR gd D' :: L) [⟨none, none, fun e => blkR g 163 (stoC me gd (.pointer (some ⟨gs, 0, none⟩)))⟩, ⟨none, none, fun e => blkR gm 63 (msgC 11 f me i ok (.slice A n c))⟩, ⟨none, some 12, fun e => rowsR 1 LogR (.slice AV out.length cV) out⟩, ⟨some 12, none, fun e => intsR .u8 (.slice (e 12).A (ansB code out).length (e 12).n) (ansB code out)⟩, ⟨some 14, none, fun e => blkR (e 14).n 63 (msgC 12 me f i (code == 0) (.slice (e 12).A (ansB code out).length (e 12).n))⟩] [[], [0], [0, 1], [0, 1, 2], [], [4], [], [6], [], [8], [], [], [10, 11], [0, 1, 2, 3, 4, 5, 6, 7, 8, 9, 10, 11, 12], [0, 1, 2, 3, 4, 5, 6, 7, 8, 9, 10, 11, 12, 13], [0, 1, 2, 3, 4, 5, 6, 7, 8, 9, 10, 11, 12, 13, 14]] [0, 1, 2, 3, 4, 5, 6, 7, 8, 9, 10, 11, 12, 13, 14, 15] rfl (by kernel_rfl) (by kernel_rfl) (by kernel_rfl) (by rfl) (fun _ => rfl) (show St M0 _ (blkR g 163 (stoC me gd (.pointer (some ⟨gs, 0, none⟩))) :: blkR gm 63 (msgC 11 f me i ok (.slice A n c)) :: rowsR 1 LogR (.slice AV out.length cV) out :: blkR gs 73 (srvC gd gj gi 0 8 dn') :: jR gj gd J' :: imgR gi M' :: dsR gd D' :: L) from H2.out) ?_
  refine flow_run _ rfl (fun _ => rfl) (fun e wx Lx h => by (go_simp; try rfl)) (by intro e; rfl) (by intro e; rfl) (by intro e x; rfl) ?_
  (simp only [Act.put, List.setIfInBounds_toArray, List.set_cons_succ, List.set_cons_zero])
  refine flow_run _ rfl (fun _ => rfl) (fun e wx Lx h => by (go_simp; try rfl)) (by intro e; rfl) (by intro e; rfl) (by intro e x; rfl) ?_
  (simp only [Act.put, List.setIfInBounds_toArray, List.set_cons_succ, List.set_cons_zero])
  refine flow_run _ rfl (fun _ => rfl) (fun e wx Lx h => by (go_simp; try rfl)) (by intro e; rfl) (by intro e; rfl) (by intro e x; rfl) ?_
  (simp only [Act.put, List.setIfInBounds_toArray, List.set_cons_succ, List.set_cons_zero])
  refine flow_run _ rfl (fun _ => rfl) (fun e wx Lx h => by (have h : St M0 wx (blkR g 163 (stoC me gd (.pointer (some ⟨gs, 0, none⟩))) :: blkR gm 63 (msgC 11 f me i ok (.slice A n c)) :: Lx) := h; obtain ⟨y0, y1, y2⟩ := (h.blkA (g := g) (t := 163) (cs := stoC me gd (.pointer (some ⟨gs, 0, none⟩))) (by (repeat (first | with_reducible exact At.here | with_reducible apply At.there)))).three; obtain ⟨z0, z1, z2, z3, z4, z5, z6, z7, z8, z9⟩ := (h.blkA (g := gm) (t := 63) (cs := msgC 11 f me i ok (.slice A n c)) (by (repeat (first | with_reducible exact At.here | with_reducible apply At.there)))).ten; go_simp; try rfl)) (by intro e; rfl) (by intro e; rfl) (by intro e x; rfl) ?_
  (simp only [Act.put, List.setIfInBounds_toArray, List.set_cons_succ, List.set_cons_zero])
  refine flow_run _ rfl (fun _ => rfl) (fun e wx Lx h => by (go_simp; try rfl)) (by intro e; rfl) (by intro e; rfl) (by intro e x; rfl) ?_
  (simp only [Act.put, List.setIfInBounds_toArray, List.set_cons_succ, List.set_cons_zero])
  refine flow_run _ rfl (fun _ => rfl) (fun e wx Lx h => by (have h : St M0 wx (blkR g 163 (stoC me gd (.pointer (some ⟨gs, 0, none⟩))) :: blkR gm 63 (msgC 11 f me i ok (.slice A n c)) :: Lx) := h; obtain ⟨y0, y1, y2⟩ := (h.blkA (g := g) (t := 163) (cs := stoC me gd (.pointer (some ⟨gs, 0, none⟩))) (by (repeat (first | with_reducible exact At.here | with_reducible apply At.there)))).three; obtain ⟨z0, z1, z2, z3, z4, z5, z6, z7, z8, z9⟩ := (h.blkA (g := gm) (t := 63) (cs := msgC 11 f me i ok (.slice A n c)) (by (repeat (first | with_reducible exact At.here | with_reducible apply At.there)))).ten; go_simp; try rfl)) (by intro e; rfl) (by intro e; rfl) (by intro e x; rfl) ?_
  (simp only [Act.put, List.setIfInBounds_toArray, List.set_cons_succ, List.set_cons_zero])
  refine flow_run _ rfl (fun _ => rfl) (fun e wx Lx h => by (go_simp; try rfl)) (by intro e; rfl) (by intro e; rfl) (by intro e x; rfl) ?_
  (simp only [Act.put, List.setIfInBounds_toArray, List.set_cons_succ, List.set_cons_zero])
  refine flow_run _ rfl (fun _ => rfl) (fun e wx Lx h => by (have h : St M0 wx (blkR g 163 (stoC me gd (.pointer (some ⟨gs, 0, none⟩))) :: blkR gm 63 (msgC 11 f me i ok (.slice A n c)) :: Lx) := h; obtain ⟨y0, y1, y2⟩ := (h.blkA (g := g) (t := 163) (cs := stoC me gd (.pointer (some ⟨gs, 0, none⟩))) (by (repeat (first | with_reducible exact At.here | with_reducible apply At.there)))).three; obtain ⟨z0, z1, z2, z3, z4, z5, z6, z7, z8, z9⟩ := (h.blkA (g := gm) (t := 63) (cs := msgC 11 f me i ok (.slice A n c)) (by (repeat (first | with_reducible exact At.here | with_reducible apply At.there)))).ten; go_simp; try rfl)) (by intro e; rfl) (by intro e; rfl) (by intro e x; rfl) ?_
  (simp only [Act.put, List.setIfInBounds_toArray, List.set_cons_succ, List.set_cons_zero])
  refine flow_run _ rfl (fun _ => rfl) (fun e wx Lx h => by (go_simp; try rfl)) (by intro e; rfl) (by intro e; rfl) (by intro e x; rfl) ?_
  (simp only [Act.put, List.setIfInBounds_toArray, List.set_cons_succ, List.set_cons_zero])
  refine flow_run _ rfl (fun _ => rfl) (fun e wx Lx h => by (go_simp; try rfl)) (by intro e; rfl) (by intro e; rfl) (by intro e x; rfl) ?_
  (simp only [Act.put, List.setIfInBounds_toArray, List.set_cons_succ, List.set_cons_zero])
  refine flow_run _ rfl (fun _ => rfl) (fun e wx Lx h => by (go_simp; try rfl)) (by intro e; rfl) (by intro e; rfl) (by intro e x; rfl) ?_
  (simp only [Act.put, List.setIfInBounds_toArray, List.set_cons_succ, List.set_cons_zero])
  refine flow_run _ rfl (fun _ => rfl) (fun e wx Lx h => by (go_simp; try rfl)) (by intro e; rfl) (by intro e; rfl) (by intro e x; rfl) ?_
  (simp only [Act.put, List.setIfInBounds_toArray, List.set_cons_succ, List.set_cons_zero])
  refine flow_call 89 (fun e => #[.int .i64 code, .slice AV out.length cV]) (fun e => .slice (e 12).A (ansB code out).length (e 12).n) rfl (fun _ => rfl) (by intro e; rfl) (fun e wx => by (go_simp; try rfl)) (fun e wx Lx h => by (
    have h : St M0 wx (blkR g 163 (stoC me gd (.pointer (some ⟨gs, 0, none⟩))) :: blkR gm 63 (msgC 11 f me i ok (.slice A n c)) :: rowsR 1 LogR (.slice AV out.length cV) out :: Lx) := h
    refine (answer_st code _ out _ HC.out HL.out (h.front (X := rowsR 1 LogR (.slice AV out.length cV) out) (by (repeat (first | with_reducible exact At.here | with_reducible apply At.there))))).mono ?_
    rintro u wy ⟨A', c', rfl, h1⟩
    have hk : St M0 wy (blkR g 163 (stoC me gd (.pointer (some ⟨gs, 0, none⟩))) :: blkR gm 63 (msgC 11 f me i ok (.slice A n c)) :: intsR .u8 (.slice A' (ansB code out).length c') (ansB code out) :: Lx) := h1.sub (by (repeat (first | with_reducible exact Sub.refl _ | (with_reducible apply Sub.take; focus (repeat (first | with_reducible exact At.here | with_reducible apply At.there))) | with_reducible apply Sub.drop)))
    exact ⟨⟨A', c', default⟩, rfl, hk⟩)) ?_
  (simp only [Act.put, List.setIfInBounds_toArray, List.set_cons_succ, List.set_cons_zero])
  refine flow_run _ rfl (fun _ => rfl) (fun e wx Lx h => by (go_simp; try rfl)) (by intro e; rfl) (by intro e; rfl) (by intro e x; rfl) ?_
  (simp only [Act.put, List.setIfInBounds_toArray, List.set_cons_succ, List.set_cons_zero])
  refine flow_do (fun e => .slice (some ⟨(e 14).n, 0, none⟩) 1 1) rfl (fun _ => rfl) (by intro e; rfl) (fun e wx Lx h => by (
    have h : St M0 wx (blkR g 163 (stoC me gd (.pointer (some ⟨gs, 0, none⟩))) :: blkR gm 63 (msgC 11 f me i ok (.slice A n c)) :: intsR .u8 (.slice (e 12).A (ansB code out).length (e 12).n) (ansB code out) :: Lx) := h
    have hk : St M0 _ (blkR g 163 (stoC me gd (.pointer (some ⟨gs, 0, none⟩))) :: blkR gm 63 (msgC 11 f me i ok (.slice A n c)) :: intsR .u8 (.slice (e 12).A (ansB code out).length (e 12).n) (ansB code out) :: blkR wx.heap.size 63 (msgC 12 me f i (code == 0) (.slice (e 12).A (ansB code out).length (e 12).n)) :: Lx) := (h.alloc 63 (msgC 12 me f i (code == 0) (.slice (e 12).A (ansB code out).length (e 12).n))).sub (by (repeat (first | with_reducible exact Sub.refl _ | (with_reducible apply Sub.take; focus (repeat (first | with_reducible exact At.here | with_reducible apply At.there))) | with_reducible apply Sub.drop)))
    exact ⟨⟨none, wx.heap.size, default⟩, _, exec_buildSlice1 rfl rfl (msg_build _ _ _ _ _ _ _ _ _), hk⟩)) ?_
  (simp only [Act.put, List.setIfInBounds_toArray, List.set_cons_succ, List.set_cons_zero])
  refine flow_run _ rfl (fun _ => rfl) (fun e wx Lx h => by (go_simp; try rfl)) (by intro e; rfl) (by intro e; rfl) (by intro e x; rfl) ?_
  (simp only [Act.put, List.setIfInBounds_toArray, List.set_cons_succ, List.set_cons_zero])
  refine flow_nil ?_
  intro e w1 h
  have h : St M0 w1 (blkR g 163 (stoC me gd (.pointer (some ⟨gs, 0, none⟩))) :: blkR gm 63 (msgC 11 f me i ok (.slice A n c)) :: intsR .u8 (.slice (e 12).A (ansB code out).length (e 12).n) (ansB code out) :: blkR (e 14).n 63 (msgC 12 me f i (code == 0) (.slice (e 12).A (ansB code out).length (e 12).n)) :: blkR gs 73 (srvC gd gj gi 0 8 dn') :: jR gj gd J' :: imgR gi M' :: dsR gd D' :: L) := h
  obtain ⟨A2, hA2⟩ : ∃ x, (e 12).A = x := ⟨_, rfl⟩
  obtain ⟨c2, hc2⟩ : ∃ x, (e 12).n = x := ⟨_, rfl⟩
  obtain ⟨gn, hgn⟩ : ∃ x, (e 14).n = x := ⟨_, rfl⟩
  have H9 := hide h
  clear h H2
  go_wp2_with fail
  go_ret
  exact ⟨(e 14).n, (e 12).A, (e 12).n, rfl, H9.out.sub (by unfold srvR; (repeat (first | with_reducible exact Sub.refl _ | (with_reducible apply Sub.take; focus (repeat (first | with_reducible exact At.here | with_reducible apply At.there))) | with_reducible apply Sub.drop)))⟩
end Go.Proofs.YtpaelngpmbeedaaGreatDoor
