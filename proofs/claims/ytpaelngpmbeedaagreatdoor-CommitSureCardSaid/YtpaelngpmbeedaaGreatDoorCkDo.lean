/- commit.Do. Printed by gen_ckdo.py out of ckdo.in. -/
import Derived.Test.YtpaelngpmbeedaaGreatDoorCkNZ
namespace Go.Proofs.YtpaelngpmbeedaaGreatDoor
open Go.RowKit

/-! ### plain: a server, as it stands -/
structure SM where
  M : Nat → Rg
  D : DS
  J : JM
  dn : Bool
def SM.lg (s : SM) (r : RQ) : Bool := !s.dn && (checkI s.M r).2 == 0 && (checkI s.M r).1
def SM.logE (s : SM) (a : Int) (ring : Nat) (r : RQ) : Int := if s.lg r = true then lgE s.M s.D s.J a ring (encQ r) else 0
def SM.doE (s : SM) (a : Int) (ring : Nat) (r : RQ) : Int := if s.dn = true then 43 else if s.logE a ring r = 0 then (checkI s.M r).2 else s.logE a ring r
def SM.logS (s : SM) (a : Int) (ring : Nat) (r : RQ) : SM := if s.lg r = true then ⟨s.M, lgD s.M s.D s.J a ring (encQ r), lgJ s.M s.D s.J a ring (encQ r), lgN s.M s.D s.J a ring (encQ r)⟩ else s
def SM.doS (s : SM) (a : Int) (ring : Nat) (r : RQ) : SM := if s.doE a ring r = 0 then { s.logS a ring r with M := doM s.M r } else s.logS a ring r
def SM.doO (s : SM) (a : Int) (ring : Nat) (r : RQ) : List (List Int) := if s.doE a ring r = 0 then Go.Proofs.YtpaelngpmbeedaaGreatDoor.doO s.M r else []
/-- what the walks ask of it -/
structure SOk (s : SM) (a : Int) (ring kk : Nat) : Prop where
  d : DsOk s.D kk
  m : MOk s.M
  j : JOk s.J
  f : s.J.first + (s.J.held.length : Nat) ≤ 4000000000
  a0 : 0 ≤ a ∧ a + 44 ≤ (s.D.n : Int)
  j0 : 0 ≤ s.J.at_ ∧ s.J.at_ + 1 < (s.D.n : Int)
  g : s.J.n = ring
def srvR (gs gd gj gi : Nat) (a : Int) (ring : Nat) (s : SM) (L : List Res) : List Res := blkR gs 73 (srvC gd gj gi a ring s.dn) :: jR gj gd s.J :: imgR gi s.M :: dsR gd s.D :: L
theorem St.nilLog {M0 : Imm} {w : World} {L : List Res} (h : St M0 w L) : St M0 w (rowsR 1 LogR (.slice none 0 0) [] :: L) :=
  St.addEx (f := fun css => persR (fun w => RowsC w 1 LogR (.slice none 0 0) css [])) (fun _ => []) (h.pers0 (fun _w' _ => RowsC.none_ _ _ _ _))
set_option maxHeartbeats 16000000 in
set_option maxRecDepth 100000 in
theorem cDo_st {M0 : Imm} {L : List Res} (hT : Tbl M0) (gs gd gj gi kk : Nat) (a : Int) (ring : Nat) (s : SM) (r : RQ) (A1 : Option Addr) (n1 c1 : Nat) (w : World) (hkk : kk ≤ 700000) (hS : SOk s a ring kk) (hr : r.ok) (hb : Bytes (encQ r)) (hl : (encQ r).length ≤ 43)
    (h : St M0 w (intsR .u8 (.slice A1 n1 c1) r.data :: srvR gs gd gj gi a ring s L)) :
    Calls Tryz.prog 7 #[.pointer (some ⟨gs, 0, none⟩), reqV r (.slice A1 n1 c1)] w fun e w' => ∃ V, e = .returned (.tuple #[V, .int .i64 (s.doE a ring r)]) ∧ St M0 w' (rowsR 1 LogR V (s.doO a ring r) :: srvR gs gd gj gi a ring (s.doS a ring r) L) := by
  obtain ⟨M, D, J, dn⟩ := s
  have hnr : n1 = r.data.length := (h.get 0 rfl).sl.1
  have HNR := hide hnr
  have h : St M0 w (intsR .u8 (.slice A1 n1 c1) r.data :: blkR gs 73 (srvC gd gj gi a ring dn) :: jR gj gd J :: imgR gi M :: dsR gd D :: L) := h
  have h1 := h.alloc 42 #[.int .i64 r.op, .int .i64 r.region, .int .i64 r.index, .int .u64 r.token, .int .u32 r.seq, .slice A1 n1 c1]
  obtain ⟨_, _, _, _, _, _, x6⟩ := srv7 (h1.blk 2 rfl)
  obtain ⟨gr, hgr⟩ : ∃ gr, gr = w.heap.size := ⟨_, rfl⟩
  rw [← hgr] at h1
  have h1 := h1.sub (L' := blkR gs 73 (srvC gd gj gi a ring dn) :: blkR gr 42 #[.int .i64 r.op, .int .i64 r.region, .int .i64 r.index, .int .u64 r.token, .int .u32 r.seq, .slice A1 n1 c1] :: imgR gi M :: intsR .u8 (.slice A1 n1 c1) r.data :: jR gj gd J :: dsR gd D :: L) (by (repeat (first | with_reducible exact Sub.refl _ | (with_reducible apply Sub.take; focus (repeat (first | with_reducible exact At.here | with_reducible apply At.there))) | with_reducible apply Sub.drop)))
  have HGR := hide hgr
  have h0 := h1
  have HS := hide hS
  have HR := hide hr
  have HB := hide hb
  have HL := hide hl
  clear h h1 hS hr hb hl hgr hnr
  cases dn with
  | true =>
    have H := hide h0
    have EE := hide (show SM.doE ⟨M, D, J, true⟩ a ring r = 43 from if_pos rfl)
    have EL := hide (show SM.lg ⟨M, D, J, true⟩ r = false from rfl)
    clear h0
    go_enter Tryz.func7, Tryz.ntmps7
    go_wp2_with fail
    go_ret2
    refine ⟨.slice none 0 0, by rw [EE.out]; try rfl, ?_⟩
    have e1 : SM.logS ⟨M, D, J, true⟩ a ring r = ⟨M, D, J, true⟩ := if_neg (by rw [EL.out]; exact Bool.false_ne_true)
    have e2 : SM.doS ⟨M, D, J, true⟩ a ring r = ⟨M, D, J, true⟩ := (if_neg (by rw [EE.out]; decide)).trans e1
    have e3 : SM.doO ⟨M, D, J, true⟩ a ring r = [] := if_neg (by rw [EE.out]; decide)
    rw [e2, e3]
    exact (H.out.nilLog).sub (by unfold srvR; (repeat (first | with_reducible exact Sub.refl _ | (with_reducible apply Sub.take; focus (repeat (first | with_reducible exact At.here | with_reducible apply At.there))) | with_reducible apply Sub.drop)))
  | false =>
    go_enter Tryz.func7, Tryz.ntmps7
    go_wp2_with fail
    rw [← HGR.out]
    clear x6
    obtain ⟨ce, hce⟩ : ∃ x, (checkI M r).2 = x := ⟨_, rfl⟩
    obtain ⟨cb, hcb⟩ : ∃ x, (checkI M r).1 = x := ⟨_, rfl⟩
    have HCE := hide hce
    have HCB := hide hcb
    clear hce hcb
    refine region_flow (M0 := M0) (L0 := intsR .u8 (.slice A1 n1 c1) r.data :: jR gj gd J :: dsR gd D :: L) [⟨none, none, fun e => blkR gs 73 (srvC gd gj gi a ring false)⟩, ⟨none, none, fun e => blkR gr 42 #[.int .i64 r.op, .int .i64 r.region, .int .i64 r.index, .int .u64 r.token, .int .u32 r.seq, .slice A1 n1 c1]⟩, ⟨none, none, fun e => imgR gi M⟩] [[], [0], [0, 1], [0, 1, 2], [], [0, 1, 2, 3, 4], [0, 1, 2, 3, 4, 5], [0, 1, 2, 3, 4, 5, 6], [0, 1, 2, 3, 4, 5, 6], [0, 1, 2, 3, 4, 5, 6, 7], [0, 1, 2, 3, 4, 5, 6, 7, 8, 9]] [0, 1, 2, 3, 4, 5, 6, 7, 8, 9, 10] rfl (by kernel_rfl) (by kernel_rfl) (by kernel_rfl) (by rfl) (fun _ => rfl) (show St M0 _ (blkR gs 73 (srvC gd gj gi a ring false) :: blkR gr 42 #[.int .i64 r.op, .int .i64 r.region, .int .i64 r.index, .int .u64 r.token, .int .u32 r.seq, .slice A1 n1 c1] :: imgR gi M :: intsR .u8 (.slice A1 n1 c1) r.data :: jR gj gd J :: dsR gd D :: L) from h0) ?_
    refine flow_run _ rfl (fun _ => rfl) (fun e wx Lx h => by (go_simp; try rfl)) (by intro e; rfl) (by intro e; rfl) (by intro e x; rfl) ?_
    (simp only [Act.put, List.setIfInBounds_toArray, List.set_cons_succ, List.set_cons_zero])
    refine flow_run _ rfl (fun _ => rfl) (fun e wx Lx h => by (go_simp; try rfl)) (by intro e; rfl) (by intro e; rfl) (by intro e x; rfl) ?_
    (simp only [Act.put, List.setIfInBounds_toArray, List.set_cons_succ, List.set_cons_zero])
    refine flow_run _ rfl (fun _ => rfl) (fun e wx Lx h => by (go_simp; try rfl)) (by intro e; rfl) (by intro e; rfl) (by intro e x; rfl) ?_
    (simp only [Act.put, List.setIfInBounds_toArray, List.set_cons_succ, List.set_cons_zero])
    refine flow_run _ rfl (fun _ => rfl) (fun e wx Lx h => by (have h : St M0 wx (blkR gs 73 (srvC gd gj gi a ring false) :: blkR gr 42 #[.int .i64 r.op, .int .i64 r.region, .int .i64 r.index, .int .u64 r.token, .int .u32 r.seq, .slice A1 n1 c1] :: imgR gi M :: Lx) := h; obtain ⟨_, _, y2, _, _, _, _⟩ := srv7 (h.blkA (g := gs) (t := 73) (cs := (srvC gd gj gi a ring false)) (by (repeat (first | with_reducible exact At.here | with_reducible apply At.there)))); obtain ⟨r0, r1, r2, r3, r4, r5⟩ := (h.blkA (g := gr) (t := 42) (cs := #[.int .i64 r.op, .int .i64 r.region, .int .i64 r.index, .int .u64 r.token, .int .u32 r.seq, .slice A1 n1 c1]) (by (repeat (first | with_reducible exact At.here | with_reducible apply At.there)))).six; go_simp; try rfl)) (by intro e; rfl) (by intro e; rfl) (by intro e x; rfl) ?_
    (simp only [Act.put, List.setIfInBounds_toArray, List.set_cons_succ, List.set_cons_zero])
    refine flow_run _ rfl (fun _ => rfl) (fun e wx Lx h => by (have h : St M0 wx (blkR gs 73 (srvC gd gj gi a ring false) :: blkR gr 42 #[.int .i64 r.op, .int .i64 r.region, .int .i64 r.index, .int .u64 r.token, .int .u32 r.seq, .slice A1 n1 c1] :: imgR gi M :: Lx) := h; obtain ⟨_, _, y2, _, _, _, _⟩ := srv7 (h.blkA (g := gs) (t := 73) (cs := (srvC gd gj gi a ring false)) (by (repeat (first | with_reducible exact At.here | with_reducible apply At.there)))); obtain ⟨r0, r1, r2, r3, r4, r5⟩ := (h.blkA (g := gr) (t := 42) (cs := #[.int .i64 r.op, .int .i64 r.region, .int .i64 r.index, .int .u64 r.token, .int .u32 r.seq, .slice A1 n1 c1]) (by (repeat (first | with_reducible exact At.here | with_reducible apply At.there)))).six; go_simp; try rfl)) (by intro e; rfl) (by intro e; rfl) (by intro e x; rfl) ?_
    (simp only [Act.put, List.setIfInBounds_toArray, List.set_cons_succ, List.set_cons_zero])
    refine flow_call 24 (fun e => #[.pointer (some ⟨gi, 0, none⟩), reqV r (.slice A1 n1 c1)]) (fun e => .tuple #[.bool cb, .int .i64 ce]) rfl (fun _ => rfl) (by intro e; rfl) (fun e wx => by (go_simp; try rfl)) (fun e wx Lx h => by (
      have h : St M0 wx (blkR gs 73 (srvC gd gj gi a ring false) :: blkR gr 42 #[.int .i64 r.op, .int .i64 r.region, .int .i64 r.index, .int .u64 r.token, .int .u32 r.seq, .slice A1 n1 c1] :: imgR gi M :: Lx) := h
      refine (check_st gi M r A1 n1 c1 _ HR.out HS.out.m.ok HNR.out (h.front (X := imgR gi M) (by (repeat (first | with_reducible exact At.here | with_reducible apply At.there))))).mono ?_
      rintro u wy ⟨rfl, h1⟩
      rw [HCB.out, HCE.out]
      have hk : St M0 wy (blkR gs 73 (srvC gd gj gi a ring false) :: blkR gr 42 #[.int .i64 r.op, .int .i64 r.region, .int .i64 r.index, .int .u64 r.token, .int .u32 r.seq, .slice A1 n1 c1] :: imgR gi M :: Lx) := h1.sub (by (repeat (first | with_reducible exact Sub.refl _ | (with_reducible apply Sub.take; focus (repeat (first | with_reducible exact At.here | with_reducible apply At.there))) | with_reducible apply Sub.drop)))
      exact ⟨⟨none, 0, default⟩, rfl, hk⟩)) ?_
    (simp only [Act.put, List.setIfInBounds_toArray, List.set_cons_succ, List.set_cons_zero])
    refine flow_run _ rfl (fun _ => rfl) (fun e wx Lx h => by (go_simp; try rfl)) (by intro e; rfl) (by intro e; rfl) (by intro e x; rfl) ?_
    (simp only [Act.put, List.setIfInBounds_toArray, List.set_cons_succ, List.set_cons_zero])
    refine flow_run _ rfl (fun _ => rfl) (fun e wx Lx h => by (go_simp; try rfl)) (by intro e; rfl) (by intro e; rfl) (by intro e x; rfl) ?_
    (simp only [Act.put, List.setIfInBounds_toArray, List.set_cons_succ, List.set_cons_zero])
    refine flow_run _ rfl (fun _ => rfl) (fun e wx Lx h => by (go_simp; try rfl)) (by intro e; rfl) (by intro e; rfl) (by intro e x; rfl) ?_
    (simp only [Act.put, List.setIfInBounds_toArray, List.set_cons_succ, List.set_cons_zero])
    refine flow_run _ rfl (fun _ => rfl) (fun e wx Lx h => by (go_simp; try rfl)) (by intro e; rfl) (by intro e; rfl) (by intro e x; rfl) ?_
    (simp only [Act.put, List.setIfInBounds_toArray, List.set_cons_succ, List.set_cons_zero])
    refine flow_run _ rfl (fun _ => rfl) (fun e wx Lx h => by (go_simp; try rfl)) (by intro e; rfl) (by intro e; rfl) (by intro e x; rfl) ?_
    (simp only [Act.put, List.setIfInBounds_toArray, List.set_cons_succ, List.set_cons_zero])
    refine flow_nil ?_
    intro e w1 h
    have h : St M0 w1 (blkR gs 73 (srvC gd gj gi a ring false) :: blkR gr 42 #[.int .i64 r.op, .int .i64 r.region, .int .i64 r.index, .int .u64 r.token, .int .u32 r.seq, .slice A1 n1 c1] :: imgR gi M :: intsR .u8 (.slice A1 n1 c1) r.data :: jR gj gd J :: dsR gd D :: L) := h
    have H3 := hide (h.sub (L' := blkR gs 73 (srvC gd gj gi a ring false) :: blkR gr 42 #[.int .i64 r.op, .int .i64 r.region, .int .i64 r.index, .int .u64 r.token, .int .u32 r.seq, .slice A1 n1 c1] :: jR gj gd J :: imgR gi M :: dsR gd D :: intsR .u8 (.slice A1 n1 c1) r.data :: L) (by (repeat (first | with_reducible exact Sub.refl _ | (with_reducible apply Sub.take; focus (repeat (first | with_reducible exact At.here | with_reducible apply At.there))) | with_reducible apply Sub.drop))))
    clear h h0
    by_cases hz : ce = 0
    case neg =>
      have d0 : (ce == 0) = false := by simpa using hz
      have d1 : (ce != 0) = true := by simpa using hz
      have EL := hide (show SM.lg ⟨M, D, J, false⟩ r = false by unfold SM.lg; simp only [HCE.out]; simp [d0])
      have EG := hide (show SM.logE ⟨M, D, J, false⟩ a ring r = 0 from if_neg (by rw [EL.out]; exact Bool.false_ne_true))
      have EE := hide (show SM.doE ⟨M, D, J, false⟩ a ring r = ce from ((if_neg Bool.false_ne_true).trans (if_pos EG.out)).trans HCE.out)
      have HZ := hide hz
      clear hz
      go_wp2_with fail
      go_ret2
      refine ⟨.slice none 0 0, by rw [EE.out]; try rfl, ?_⟩
      have e1 : SM.logS ⟨M, D, J, false⟩ a ring r = ⟨M, D, J, false⟩ := if_neg (by rw [EL.out]; exact Bool.false_ne_true)
      have e2 : SM.doS ⟨M, D, J, false⟩ a ring r = ⟨M, D, J, false⟩ := (if_neg (by rw [EE.out]; exact HZ.out)).trans e1
      have e3 : SM.doO ⟨M, D, J, false⟩ a ring r = [] := if_neg (by rw [EE.out]; exact HZ.out)
      rw [e2, e3]
      exact (H3.out.nilLog).sub (by unfold srvR; (repeat (first | with_reducible exact Sub.refl _ | (with_reducible apply Sub.take; focus (repeat (first | with_reducible exact At.here | with_reducible apply At.there))) | with_reducible apply Sub.drop)))
    case pos =>
      subst hz
      have HCK := HCE
      cases cb with
      | false =>
        have EL := hide (show SM.lg ⟨M, D, J, false⟩ r = false by unfold SM.lg; simp only [HCE.out, HCB.out]; rfl)
        have EG := hide (show SM.logE ⟨M, D, J, false⟩ a ring r = 0 from if_neg (by rw [EL.out]; exact Bool.false_ne_true))
        have EE := hide (show SM.doE ⟨M, D, J, false⟩ a ring r = 0 from ((if_neg Bool.false_ne_true).trans (if_pos EG.out)).trans HCE.out)
        have e1 : SM.logS ⟨M, D, J, false⟩ a ring r = ⟨M, D, J, false⟩ := if_neg (by rw [EL.out]; exact Bool.false_ne_true)
        have ES := hide (show SM.doS ⟨M, D, J, false⟩ a ring r = ⟨doM M r, D, J, false⟩ from (if_pos EE.out).trans (by rw [e1]))
        have EO := hide (show SM.doO ⟨M, D, J, false⟩ a ring r = Go.Proofs.YtpaelngpmbeedaaGreatDoor.doO M r from if_pos EE.out)
        clear e1
        go_wp2_with fail
        refine region_flow (M0 := M0) (L0 := jR gj gd J :: dsR gd D :: L) [⟨none, none, fun e => blkR gs 73 (srvC gd gj gi a ring false)⟩, ⟨none, none, fun e => blkR gr 42 #[.int .i64 r.op, .int .i64 r.region, .int .i64 r.index, .int .u64 r.token, .int .u32 r.seq, .slice A1 n1 c1]⟩, ⟨none, some 5, fun e => imgR gi M⟩, ⟨none, none, fun e => intsR .u8 (.slice A1 n1 c1) r.data⟩, ⟨some 5, none, fun e => imgR gi (doM M r)⟩, ⟨some 5, none, fun e => rowsR 1 LogR (e 5).v (Go.Proofs.YtpaelngpmbeedaaGreatDoor.doO M r)⟩] [[], [0], [0, 1], [0, 1, 2], [], [0, 1, 2, 3, 4], [0, 1, 2, 3, 4, 5], [0, 1, 2, 3, 4, 5], [0, 1, 2, 3, 4, 5, 6, 7], [0, 1, 2, 3, 4, 5, 6, 7, 8]] [0, 1, 2, 3, 4, 5, 6, 7, 8, 9] rfl (by kernel_rfl) (by kernel_rfl) (by kernel_rfl) (by rfl) (fun _ => rfl) (show St M0 _ (blkR gs 73 (srvC gd gj gi a ring false) :: blkR gr 42 #[.int .i64 r.op, .int .i64 r.region, .int .i64 r.index, .int .u64 r.token, .int .u32 r.seq, .slice A1 n1 c1] :: imgR gi M :: intsR .u8 (.slice A1 n1 c1) r.data :: jR gj gd J :: dsR gd D :: L) from H3.out.sub (by (repeat (first | with_reducible exact Sub.refl _ | (with_reducible apply Sub.take; focus (repeat (first | with_reducible exact At.here | with_reducible apply At.there))) | with_reducible apply Sub.drop)))) ?_
        refine flow_run _ rfl (fun _ => rfl) (fun e wx Lx h => by (go_simp; try rfl)) (by intro e; rfl) (by intro e; rfl) (by intro e x; rfl) ?_
        (simp only [Act.put, List.setIfInBounds_toArray, List.set_cons_succ, List.set_cons_zero])
        refine flow_run _ rfl (fun _ => rfl) (fun e wx Lx h => by (go_simp; try rfl)) (by intro e; rfl) (by intro e; rfl) (by intro e x; rfl) ?_
        (simp only [Act.put, List.setIfInBounds_toArray, List.set_cons_succ, List.set_cons_zero])
        refine flow_run _ rfl (fun _ => rfl) (fun e wx Lx h => by (go_simp; try rfl)) (by intro e; rfl) (by intro e; rfl) (by intro e x; rfl) ?_
        (simp only [Act.put, List.setIfInBounds_toArray, List.set_cons_succ, List.set_cons_zero])
        refine flow_run _ rfl (fun _ => rfl) (fun e wx Lx h => by (have h : St M0 wx (blkR gs 73 (srvC gd gj gi a ring false) :: blkR gr 42 #[.int .i64 r.op, .int .i64 r.region, .int .i64 r.index, .int .u64 r.token, .int .u32 r.seq, .slice A1 n1 c1] :: imgR gi M :: intsR .u8 (.slice A1 n1 c1) r.data :: Lx) := h; obtain ⟨_, _, y2, _, _, _, _⟩ := srv7 (h.blkA (g := gs) (t := 73) (cs := (srvC gd gj gi a ring false)) (by (repeat (first | with_reducible exact At.here | with_reducible apply At.there)))); obtain ⟨r0, r1, r2, r3, r4, r5⟩ := (h.blkA (g := gr) (t := 42) (cs := #[.int .i64 r.op, .int .i64 r.region, .int .i64 r.index, .int .u64 r.token, .int .u32 r.seq, .slice A1 n1 c1]) (by (repeat (first | with_reducible exact At.here | with_reducible apply At.there)))).six; go_simp; try rfl)) (by intro e; rfl) (by intro e; rfl) (by intro e x; rfl) ?_
        (simp only [Act.put, List.setIfInBounds_toArray, List.set_cons_succ, List.set_cons_zero])
        refine flow_run _ rfl (fun _ => rfl) (fun e wx Lx h => by (have h : St M0 wx (blkR gs 73 (srvC gd gj gi a ring false) :: blkR gr 42 #[.int .i64 r.op, .int .i64 r.region, .int .i64 r.index, .int .u64 r.token, .int .u32 r.seq, .slice A1 n1 c1] :: imgR gi M :: intsR .u8 (.slice A1 n1 c1) r.data :: Lx) := h; obtain ⟨_, _, y2, _, _, _, _⟩ := srv7 (h.blkA (g := gs) (t := 73) (cs := (srvC gd gj gi a ring false)) (by (repeat (first | with_reducible exact At.here | with_reducible apply At.there)))); obtain ⟨r0, r1, r2, r3, r4, r5⟩ := (h.blkA (g := gr) (t := 42) (cs := #[.int .i64 r.op, .int .i64 r.region, .int .i64 r.index, .int .u64 r.token, .int .u32 r.seq, .slice A1 n1 c1]) (by (repeat (first | with_reducible exact At.here | with_reducible apply At.there)))).six; go_simp; try rfl)) (by intro e; rfl) (by intro e; rfl) (by intro e x; rfl) ?_
        (simp only [Act.put, List.setIfInBounds_toArray, List.set_cons_succ, List.set_cons_zero])
        refine flow_call 26 (fun e => #[.pointer (some ⟨gi, 0, none⟩), reqV r (.slice A1 n1 c1)]) (fun e => .tuple #[(e 5).v, .int .i64 0]) rfl (fun _ => rfl) (by intro e; rfl) (fun e wx => by (go_simp; try rfl)) (fun e wx Lx h => by (
          have h : St M0 wx (blkR gs 73 (srvC gd gj gi a ring false) :: blkR gr 42 #[.int .i64 r.op, .int .i64 r.region, .int .i64 r.index, .int .u64 r.token, .int .u32 r.seq, .slice A1 n1 c1] :: imgR gi M :: intsR .u8 (.slice A1 n1 c1) r.data :: Lx) := h
          refine (do_st gi M r A1 n1 c1 _ HR.out HS.out.m.ok (((h.copyA (Q := fun w => Ints w .u8 (.slice A1 n1 c1) r.data) (by (repeat (first | with_reducible exact At.here | with_reducible apply At.there)))).front (X := imgR gi M) (by (repeat (first | with_reducible exact At.here | with_reducible apply At.there)))).front (X := intsR .u8 (.slice A1 n1 c1) r.data) (by (repeat (first | with_reducible exact At.here | with_reducible apply At.there))))).mono ?_
          rintro u wy ⟨V, rfl, h1⟩
          rw [HCK.out]
          have hk : St M0 wy (blkR gs 73 (srvC gd gj gi a ring false) :: blkR gr 42 #[.int .i64 r.op, .int .i64 r.region, .int .i64 r.index, .int .u64 r.token, .int .u32 r.seq, .slice A1 n1 c1] :: intsR .u8 (.slice A1 n1 c1) r.data :: imgR gi (doM M r) :: rowsR 1 LogR V (Go.Proofs.YtpaelngpmbeedaaGreatDoor.doO M r) :: Lx) := h1.sub (by (repeat (first | with_reducible exact Sub.refl _ | (with_reducible apply Sub.take; focus (repeat (first | with_reducible exact At.here | with_reducible apply At.there))) | with_reducible apply Sub.drop)))
          exact ⟨⟨none, 0, V⟩, rfl, hk⟩)) ?_
        (simp only [Act.put, List.setIfInBounds_toArray, List.set_cons_succ, List.set_cons_zero])
        refine flow_run _ rfl (fun _ => rfl) (fun e wx Lx h => by (go_simp; try rfl)) (by intro e; rfl) (by intro e; rfl) (by intro e x; rfl) ?_
        (simp only [Act.put, List.setIfInBounds_toArray, List.set_cons_succ, List.set_cons_zero])
        refine flow_run _ rfl (fun _ => rfl) (fun e wx Lx h => by (go_simp; try rfl)) (by intro e; rfl) (by intro e; rfl) (by intro e x; rfl) ?_
        (simp only [Act.put, List.setIfInBounds_toArray, List.set_cons_succ, List.set_cons_zero])
        refine flow_run _ rfl (fun _ => rfl) (fun e wx Lx h => by (go_simp; try rfl)) (by intro e; rfl) (by intro e; rfl) (by intro e x; rfl) ?_
        (simp only [Act.put, List.setIfInBounds_toArray, List.set_cons_succ, List.set_cons_zero])
        refine flow_run _ rfl (fun _ => rfl) (fun e wx Lx h => by (go_simp; try rfl)) (by intro e; rfl) (by intro e; rfl) (by intro e x; rfl) ?_
        (simp only [Act.put, List.setIfInBounds_toArray, List.set_cons_succ, List.set_cons_zero])
        refine flow_nil ?_
        intro e w1 h
        have h : St M0 w1 (blkR gs 73 (srvC gd gj gi a ring false) :: blkR gr 42 #[.int .i64 r.op, .int .i64 r.region, .int .i64 r.index, .int .u64 r.token, .int .u32 r.seq, .slice A1 n1 c1] :: intsR .u8 (.slice A1 n1 c1) r.data :: imgR gi (doM M r) :: rowsR 1 LogR (e 5).v (Go.Proofs.YtpaelngpmbeedaaGreatDoor.doO M r) :: jR gj gd J :: dsR gd D :: L) := h
        obtain ⟨V, hV⟩ : ∃ V, (e 5).v = V := ⟨_, rfl⟩
        rw [hV] at h
        have H8 := hide h
        clear h
        go_wp2_with fail
        rw [hV]
        clear hV
        go_wp2_with fail
        go_ret2
        refine ⟨V, by rw [EE.out]; try rfl, ?_⟩
        rw [EO.out, ES.out]
        exact H8.out.sub (by unfold srvR; (repeat (first | with_reducible exact Sub.refl _ | (with_reducible apply Sub.take; focus (repeat (first | with_reducible exact At.here | with_reducible apply At.there))) | with_reducible apply Sub.drop)))
      | true =>
        have EL := hide (show SM.lg ⟨M, D, J, false⟩ r = true by unfold SM.lg; simp only [HCE.out, HCB.out]; rfl)
        obtain ⟨le, hle⟩ : ∃ x, x = lgE M D J a ring (encQ r) := ⟨_, rfl⟩
        have EG := hide (show SM.logE ⟨M, D, J, false⟩ a ring r = le from (if_pos EL.out).trans hle.symm)
        have e1 := hide (show SM.logS ⟨M, D, J, false⟩ a ring r = ⟨M, lgD M D J a ring (encQ r), lgJ M D J a ring (encQ r), lgN M D J a ring (encQ r)⟩ from if_pos EL.out)
        have EX := hide (show SM.doE ⟨M, D, J, false⟩ a ring r = if le = 0 then (checkI M r).2 else le from (if_neg Bool.false_ne_true).trans (by rw [EG.out]))
        obtain ⟨r0, r1, r2, r3, r4, r5⟩ := (H3.out.blkA (g := gr) (t := 42) (cs := #[.int .i64 r.op, .int .i64 r.region, .int .i64 r.index, .int .u64 r.token, .int .u32 r.seq, .slice A1 n1 c1]) (by (repeat (first | with_reducible exact At.here | with_reducible apply At.there)))).six
        have HLE := hide hle
        clear hle
        go_wp2_with fail
        refine (log_st hT gs gd gj gi kk a ring M D J r A1 n1 c1 _ HS.out.d hkk HS.out.m HS.out.j HS.out.f HS.out.a0 HS.out.j0 HR.out HS.out.g HB.out HL.out ((H3.out.copyA (Q := fun w => Ints w .u8 (.slice A1 n1 c1) r.data) (by (repeat (first | with_reducible exact At.here | with_reducible apply At.there)))).sub (L' := intsR .u8 (.slice A1 n1 c1) r.data :: blkR gs 73 (srvC gd gj gi a ring false) :: jR gj gd J :: imgR gi M :: dsR gd D :: intsR .u8 (.slice A1 n1 c1) r.data :: blkR gr 42 #[.int .i64 r.op, .int .i64 r.region, .int .i64 r.index, .int .u64 r.token, .int .u32 r.seq, .slice A1 n1 c1] :: L) (by (repeat (first | with_reducible exact Sub.refl _ | (with_reducible apply Sub.take; focus (repeat (first | with_reducible exact At.here | with_reducible apply At.there))) | with_reducible apply Sub.drop))))).mono ?_
        rintro e w4 ⟨rfl, h⟩
        rw [← HLE.out]
        clear r0 r1 r2 r3 r4 r5 H3 HLE
        generalize lgD M D J a ring (encQ r) = D2 at *
        generalize lgJ M D J a ring (encQ r) = J2 at *
        generalize lgN M D J a ring (encQ r) = n2 at *
        by_cases hz : le = 0
        case neg =>
          have d1 : (le != 0) = true := by simpa using hz
          have EE := hide (EX.out.trans (if_neg hz))
          have H5 := hide h
          have HZ := hide hz
          clear h hz
          go_wp2_with fail
          go_ret2
          refine ⟨.slice none 0 0, by rw [EE.out]; try rfl, ?_⟩
          have e2 : SM.doS ⟨M, D, J, false⟩ a ring r = ⟨M, D2, J2, n2⟩ := (if_neg (by rw [EE.out]; exact HZ.out)).trans e1.out
          have e3 : SM.doO ⟨M, D, J, false⟩ a ring r = [] := if_neg (by rw [EE.out]; exact HZ.out)
          rw [e2, e3]
          exact (H5.out.nilLog).sub (by unfold srvR; (repeat (first | with_reducible exact Sub.refl _ | (with_reducible apply Sub.take; focus (repeat (first | with_reducible exact At.here | with_reducible apply At.there))) | with_reducible apply Sub.drop)))
        case pos =>
          have EE := hide (show SM.doE ⟨M, D, J, false⟩ a ring r = 0 from (EX.out.trans (if_pos hz)).trans HCE.out)
          have ES := hide (show SM.doS ⟨M, D, J, false⟩ a ring r = ⟨doM M r, D2, J2, n2⟩ from (if_pos EE.out).trans (by rw [e1.out]))
          have EO := hide (show SM.doO ⟨M, D, J, false⟩ a ring r = Go.Proofs.YtpaelngpmbeedaaGreatDoor.doO M r from if_pos EE.out)
          have H4 := hide (h.sub (L' := blkR gs 73 (srvC gd gj gi a ring n2) :: blkR gr 42 #[.int .i64 r.op, .int .i64 r.region, .int .i64 r.index, .int .u64 r.token, .int .u32 r.seq, .slice A1 n1 c1] :: imgR gi M :: intsR .u8 (.slice A1 n1 c1) r.data :: jR gj gd J2 :: dsR gd D2 :: L) (by (repeat (first | with_reducible exact Sub.refl _ | (with_reducible apply Sub.take; focus (repeat (first | with_reducible exact At.here | with_reducible apply At.there))) | with_reducible apply Sub.drop))))
          subst hz
          clear h
          go_wp2_with fail
          refine region_flow (M0 := M0) (L0 := jR gj gd J2 :: dsR gd D2 :: L) [⟨none, none, fun e => blkR gs 73 (srvC gd gj gi a ring n2)⟩, ⟨none, none, fun e => blkR gr 42 #[.int .i64 r.op, .int .i64 r.region, .int .i64 r.index, .int .u64 r.token, .int .u32 r.seq, .slice A1 n1 c1]⟩, ⟨none, some 5, fun e => imgR gi M⟩, ⟨none, none, fun e => intsR .u8 (.slice A1 n1 c1) r.data⟩, ⟨some 5, none, fun e => imgR gi (doM M r)⟩, ⟨some 5, none, fun e => rowsR 1 LogR (e 5).v (Go.Proofs.YtpaelngpmbeedaaGreatDoor.doO M r)⟩] [[], [0], [0, 1], [0, 1, 2], [], [0, 1, 2, 3, 4], [0, 1, 2, 3, 4, 5], [0, 1, 2, 3, 4, 5], [0, 1, 2, 3, 4, 5, 6, 7], [0, 1, 2, 3, 4, 5, 6, 7, 8]] [0, 1, 2, 3, 4, 5, 6, 7, 8, 9] rfl (by kernel_rfl) (by kernel_rfl) (by kernel_rfl) (by rfl) (fun _ => rfl) (show St M0 _ (blkR gs 73 (srvC gd gj gi a ring n2) :: blkR gr 42 #[.int .i64 r.op, .int .i64 r.region, .int .i64 r.index, .int .u64 r.token, .int .u32 r.seq, .slice A1 n1 c1] :: imgR gi M :: intsR .u8 (.slice A1 n1 c1) r.data :: jR gj gd J2 :: dsR gd D2 :: L) from H4.out) ?_
          refine flow_run _ rfl (fun _ => rfl) (fun e wx Lx h => by (go_simp; try rfl)) (by intro e; rfl) (by intro e; rfl) (by intro e x; rfl) ?_
          (simp only [Act.put, List.setIfInBounds_toArray, List.set_cons_succ, List.set_cons_zero])
          refine flow_run _ rfl (fun _ => rfl) (fun e wx Lx h => by (go_simp; try rfl)) (by intro e; rfl) (by intro e; rfl) (by intro e x; rfl) ?_
          (simp only [Act.put, List.setIfInBounds_toArray, List.set_cons_succ, List.set_cons_zero])
          refine flow_run _ rfl (fun _ => rfl) (fun e wx Lx h => by (go_simp; try rfl)) (by intro e; rfl) (by intro e; rfl) (by intro e x; rfl) ?_
          (simp only [Act.put, List.setIfInBounds_toArray, List.set_cons_succ, List.set_cons_zero])
          refine flow_run _ rfl (fun _ => rfl) (fun e wx Lx h => by (have h : St M0 wx (blkR gs 73 (srvC gd gj gi a ring n2) :: blkR gr 42 #[.int .i64 r.op, .int .i64 r.region, .int .i64 r.index, .int .u64 r.token, .int .u32 r.seq, .slice A1 n1 c1] :: imgR gi M :: intsR .u8 (.slice A1 n1 c1) r.data :: Lx) := h; obtain ⟨_, _, y2, _, _, _, _⟩ := srv7 (h.blkA (g := gs) (t := 73) (cs := (srvC gd gj gi a ring n2)) (by (repeat (first | with_reducible exact At.here | with_reducible apply At.there)))); obtain ⟨r0, r1, r2, r3, r4, r5⟩ := (h.blkA (g := gr) (t := 42) (cs := #[.int .i64 r.op, .int .i64 r.region, .int .i64 r.index, .int .u64 r.token, .int .u32 r.seq, .slice A1 n1 c1]) (by (repeat (first | with_reducible exact At.here | with_reducible apply At.there)))).six; go_simp; try rfl)) (by intro e; rfl) (by intro e; rfl) (by intro e x; rfl) ?_
          (simp only [Act.put, List.setIfInBounds_toArray, List.set_cons_succ, List.set_cons_zero])
          refine flow_run _ rfl (fun _ => rfl) (fun e wx Lx h => by (have h : St M0 wx (blkR gs 73 (srvC gd gj gi a ring n2) :: blkR gr 42 #[.int .i64 r.op, .int .i64 r.region, .int .i64 r.index, .int .u64 r.token, .int .u32 r.seq, .slice A1 n1 c1] :: imgR gi M :: intsR .u8 (.slice A1 n1 c1) r.data :: Lx) := h; obtain ⟨_, _, y2, _, _, _, _⟩ := srv7 (h.blkA (g := gs) (t := 73) (cs := (srvC gd gj gi a ring n2)) (by (repeat (first | with_reducible exact At.here | with_reducible apply At.there)))); obtain ⟨r0, r1, r2, r3, r4, r5⟩ := (h.blkA (g := gr) (t := 42) (cs := #[.int .i64 r.op, .int .i64 r.region, .int .i64 r.index, .int .u64 r.token, .int .u32 r.seq, .slice A1 n1 c1]) (by (repeat (first | with_reducible exact At.here | with_reducible apply At.there)))).six; go_simp; try rfl)) (by intro e; rfl) (by intro e; rfl) (by intro e x; rfl) ?_
          (simp only [Act.put, List.setIfInBounds_toArray, List.set_cons_succ, List.set_cons_zero])
          refine flow_call 26 (fun e => #[.pointer (some ⟨gi, 0, none⟩), reqV r (.slice A1 n1 c1)]) (fun e => .tuple #[(e 5).v, .int .i64 0]) rfl (fun _ => rfl) (by intro e; rfl) (fun e wx => by (go_simp; try rfl)) (fun e wx Lx h => by (
            have h : St M0 wx (blkR gs 73 (srvC gd gj gi a ring n2) :: blkR gr 42 #[.int .i64 r.op, .int .i64 r.region, .int .i64 r.index, .int .u64 r.token, .int .u32 r.seq, .slice A1 n1 c1] :: imgR gi M :: intsR .u8 (.slice A1 n1 c1) r.data :: Lx) := h
            refine (do_st gi M r A1 n1 c1 _ HR.out HS.out.m.ok (((h.copyA (Q := fun w => Ints w .u8 (.slice A1 n1 c1) r.data) (by (repeat (first | with_reducible exact At.here | with_reducible apply At.there)))).front (X := imgR gi M) (by (repeat (first | with_reducible exact At.here | with_reducible apply At.there)))).front (X := intsR .u8 (.slice A1 n1 c1) r.data) (by (repeat (first | with_reducible exact At.here | with_reducible apply At.there))))).mono ?_
            rintro u wy ⟨V, rfl, h1⟩
            rw [HCK.out]
            have hk : St M0 wy (blkR gs 73 (srvC gd gj gi a ring n2) :: blkR gr 42 #[.int .i64 r.op, .int .i64 r.region, .int .i64 r.index, .int .u64 r.token, .int .u32 r.seq, .slice A1 n1 c1] :: intsR .u8 (.slice A1 n1 c1) r.data :: imgR gi (doM M r) :: rowsR 1 LogR V (Go.Proofs.YtpaelngpmbeedaaGreatDoor.doO M r) :: Lx) := h1.sub (by (repeat (first | with_reducible exact Sub.refl _ | (with_reducible apply Sub.take; focus (repeat (first | with_reducible exact At.here | with_reducible apply At.there))) | with_reducible apply Sub.drop)))
            exact ⟨⟨none, 0, V⟩, rfl, hk⟩)) ?_
          (simp only [Act.put, List.setIfInBounds_toArray, List.set_cons_succ, List.set_cons_zero])
          refine flow_run _ rfl (fun _ => rfl) (fun e wx Lx h => by (go_simp; try rfl)) (by intro e; rfl) (by intro e; rfl) (by intro e x; rfl) ?_
          (simp only [Act.put, List.setIfInBounds_toArray, List.set_cons_succ, List.set_cons_zero])
          refine flow_run _ rfl (fun _ => rfl) (fun e wx Lx h => by (go_simp; try rfl)) (by intro e; rfl) (by intro e; rfl) (by intro e x; rfl) ?_
          (simp only [Act.put, List.setIfInBounds_toArray, List.set_cons_succ, List.set_cons_zero])
          refine flow_run _ rfl (fun _ => rfl) (fun e wx Lx h => by (go_simp; try rfl)) (by intro e; rfl) (by intro e; rfl) (by intro e x; rfl) ?_
          (simp only [Act.put, List.setIfInBounds_toArray, List.set_cons_succ, List.set_cons_zero])
          refine flow_run _ rfl (fun _ => rfl) (fun e wx Lx h => by (go_simp; try rfl)) (by intro e; rfl) (by intro e; rfl) (by intro e x; rfl) ?_
          (simp only [Act.put, List.setIfInBounds_toArray, List.set_cons_succ, List.set_cons_zero])
          refine flow_nil ?_
          intro e w1 h
          have h : St M0 w1 (blkR gs 73 (srvC gd gj gi a ring n2) :: blkR gr 42 #[.int .i64 r.op, .int .i64 r.region, .int .i64 r.index, .int .u64 r.token, .int .u32 r.seq, .slice A1 n1 c1] :: intsR .u8 (.slice A1 n1 c1) r.data :: imgR gi (doM M r) :: rowsR 1 LogR (e 5).v (Go.Proofs.YtpaelngpmbeedaaGreatDoor.doO M r) :: jR gj gd J2 :: dsR gd D2 :: L) := h
          obtain ⟨V, hV⟩ : ∃ V, (e 5).v = V := ⟨_, rfl⟩
          rw [hV] at h
          have H8 := hide h
          clear h
          go_wp2_with fail
          rw [hV]
          clear hV
          go_wp2_with fail
          go_ret2
          refine ⟨V, by rw [EE.out]; try rfl, ?_⟩
          rw [EO.out, ES.out]
          exact H8.out.sub (by unfold srvR; (repeat (first | with_reducible exact Sub.refl _ | (with_reducible apply Sub.take; focus (repeat (first | with_reducible exact At.here | with_reducible apply At.there))) | with_reducible apply Sub.drop)))
end Go.Proofs.YtpaelngpmbeedaaGreatDoor
