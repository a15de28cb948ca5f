/- commit.log. Printed by gen_cku.py out of cku.in. -/
import Derived.Test.YtpaelngpmbeedaaGreatDoorCkR
import Derived.Test.YtpaelngpmbeedaaGreatDoorImgEZ
namespace Go.Proofs.YtpaelngpmbeedaaGreatDoor
open Go.RowKit

/-! ### plain -/
theorem JM.slot_bytes (J : JM) : Bytes J.slot := ((numB_bytes _ _).append (numB_bytes _ _)).append (numB_bytes _ _)
theorem cpD_ok {M : Nat → Rg} {D : DS} {J : JM} {a : Int} {k : Nat} (hD : DsOk D k) (hM : MOk M) : DsOk (cpD M D J a) (k + 23) ∧ (cpD M D J a).n = D.n := by
  have h := vSave_ok a hD hM.pb hM.pl
  unfold cpD cpVD
  split
  · exact ⟨h.1.save _ (JM.slot_bytes _), by rw [saveD_n]; exact h.2⟩
  · exact ⟨h.1.mono (by omega), h.2⟩
theorem cpE_zero {M : Nat → Rg} {D : DS} {J : JM} {a : Int} (h : cpE M D J a = 0) : cpJ M D J a = J.trim := by
  unfold cpE at h
  unfold cpJ
  split at h
  · rename_i hv; exact if_pos hv
  · rename_i hv; exact absurd h hv
def lgD1 (M : Nat → Rg) (D : DS) (J : JM) (a : Int) (ring : Nat) : DS := if ring ≤ J.held.length then cpD M D J a else D
def lgJ1 (M : Nat → Rg) (D : DS) (J : JM) (a : Int) (ring : Nat) : JM := if ring ≤ J.held.length then cpJ M D J a else J
def lgE1 (M : Nat → Rg) (D : DS) (J : JM) (a : Int) (ring : Nat) : Int := if ring ≤ J.held.length then cpE M D J a else 0
/-- the append and what follows -/
def apD (D : DS) (J : JM) (b : List Int) : DS := if J.appE D b = 0 then (J.appD D b).sync else J.appD D b
def apE (D : DS) (J : JM) (b : List Int) : Int := if (apD D J b).down = true then 43 else J.appE D b
def lgE (M : Nat → Rg) (D : DS) (J : JM) (a : Int) (ring : Nat) (b : List Int) : Int := if lgE1 M D J a ring = 0 then apE (lgD1 M D J a ring) (lgJ1 M D J a ring) b else lgE1 M D J a ring
def lgD (M : Nat → Rg) (D : DS) (J : JM) (a : Int) (ring : Nat) (b : List Int) : DS := if lgE1 M D J a ring = 0 then apD (lgD1 M D J a ring) (lgJ1 M D J a ring) b else lgD1 M D J a ring
def lgJ (M : Nat → Rg) (D : DS) (J : JM) (a : Int) (ring : Nat) (b : List Int) : JM := if lgE1 M D J a ring = 0 then (lgJ1 M D J a ring).app b else lgJ1 M D J a ring
def lgN (M : Nat → Rg) (D : DS) (J : JM) (a : Int) (ring : Nat) (b : List Int) : Bool := if lgE1 M D J a ring = 0 then (apD (lgD1 M D J a ring) (lgJ1 M D J a ring) b).down else lgE1 M D J a ring == 43

/-! ### the walks -/
set_option maxHeartbeats 800000 in
theorem logd_st {M0 : Imm} {L : List Res} (gs gd gj gi ge gb : Nat) (a : Int) (ring : Nat) (D : DS) (v : Int) (u : FrameMode) (w : World) (h : St M0 w (blkR gs 73 (srvC gd gj gi a ring false) :: blkR ge 45 #[.int .i64 v] :: blkR gb 26 #[.pointer (some ⟨gs, 0, none⟩)] :: dsR gd D :: L)) :
    CallsD Tryz.prog 58 #[.pointer (some ⟨gb, 0, none⟩), .pointer (some ⟨ge, 0, none⟩)] u w fun e u' w' => u' = u ∧ (e = .returned (.tuple #[]) ∧ St M0 w' (blkR gs 73 (srvC gd gj gi a ring D.down) :: blkR ge 45 #[.int .i64 (if D.down = true then 43 else v)] :: blkR gb 26 #[.pointer (some ⟨gs, 0, none⟩)] :: dsR gd D :: L)) := by
  obtain ⟨c0, _, _, _, _, _, _⟩ := srv7 (h.blk 0 rfl)
  have b0 := (h.blk 2 rfl).cell 0
  have H := hide (h.sub (L' := dsR gd D :: blkR gs 73 (srvC gd gj gi a ring false) :: blkR ge 45 #[.int .i64 v] :: blkR gb 26 #[.pointer (some ⟨gs, 0, none⟩)] :: L) (by (repeat (first | with_reducible exact Sub.refl _ | (with_reducible apply Sub.take; focus (repeat (first | with_reducible exact At.here | with_reducible apply At.there))) | with_reducible apply Sub.drop))))
  clear h
  cases hd : D.down with
  | true =>
    go_enter_d Tryz.func58, Tryz.ntmps58
    go_wp2_with (go_at_call 59; refine (down_ds H.out).mono ?_; rintro e w1 ⟨rfl, h⟩; rw [hd]; clear c0 b0 H; obtain ⟨_, _, _, _, _, _, x6⟩ := srv7 (h.blk 1 rfl); have f6 := (h.blk 1 rfl).frozen; have x0 := (h.blk 2 rfl).cell 0; have f0 := (h.blk 2 rfl).frozen; have b0 := (h.blk 3 rfl).cell 0; have h2 := (h.front (X := blkR ge 45 #[.int .i64 v]) (by (repeat (first | with_reducible exact At.here | with_reducible apply At.there)))).put_ 0 (.int .i64 43) #[.int .i64 43]; obtain ⟨_, _, _, _, _, _, y6⟩ := srv7 (h2.blkA (g := gs) (t := 73) (cs := srvC gd gj gi a ring false) (by (repeat (first | with_reducible exact At.here | with_reducible apply At.there)))); have H3 := hide ((h2.front (X := blkR gs 73 (srvC gd gj gi a ring false)) (by (repeat (first | with_reducible exact At.here | with_reducible apply At.there)))).put_ 6 (.bool true) (srvC gd gj gi a ring true)); clear h h2)
    go_end0
    exact ⟨rfl, H3.out.sub (by (repeat (first | with_reducible exact Sub.refl _ | (with_reducible apply Sub.take; focus (repeat (first | with_reducible exact At.here | with_reducible apply At.there))) | with_reducible apply Sub.drop)))⟩
  | false =>
    go_enter_d Tryz.func58, Tryz.ntmps58
    go_wp2_with (go_at_call 59; refine (down_ds H.out).mono ?_; rintro e w1 ⟨rfl, h⟩; rw [hd]; have H3 := hide h; clear c0 b0 H h)
    go_end0
    exact ⟨rfl, H3.out.sub (by (repeat (first | with_reducible exact Sub.refl _ | (with_reducible apply Sub.take; focus (repeat (first | with_reducible exact At.here | with_reducible apply At.there))) | with_reducible apply Sub.drop)))⟩
end Go.Proofs.YtpaelngpmbeedaaGreatDoor
/- commit.log: the walk. Printed by gen_ckn.py out of ckn.in. -/
namespace Go.Proofs.YtpaelngpmbeedaaGreatDoor
open Go.RowKit

theorem apD_ok {D : DS} {J : JM} {b : List Int} {k : Nat} (hD : DsOk D k) (hb : Bytes b) : DsOk (J.appD D b) (k + 1) ∧ (J.appD D b).n = D.n := ⟨hD.write _ (stampM_bytes _ _ hb), DS.write_nV _ _ _⟩
set_option maxHeartbeats 16000000 in
set_option maxRecDepth 100000 in
theorem log_st {M0 : Imm} {L : List Res} (hT : Tbl M0) (gs gd gj gi kk : Nat) (a : Int) (ring : Nat) (M : Nat → Rg) (D : DS) (J : JM) (r : RQ) (A1 : Option Addr) (n1 c1 : Nat) (w : World) (hD : DsOk D kk) (hkk : kk ≤ 700000) (hM : MOk M) (hJ : JOk J) (hf : J.first + (J.held.length : Nat) ≤ 4000000000) (ha : 0 ≤ a ∧ a + 44 ≤ (D.n : Int)) (hj : 0 ≤ J.at_ ∧ J.at_ + 1 < (D.n : Int)) (hr : r.ok) (hg : J.n = ring) (hb : Bytes (encQ r)) (hl : (encQ r).length ≤ 43)
    (h : St M0 w (intsR .u8 (.slice A1 n1 c1) r.data :: blkR gs 73 (srvC gd gj gi a ring false) :: jR gj gd J :: imgR gi M :: dsR gd D :: L)) :
    Calls Tryz.prog 25 #[.pointer (some ⟨gs, 0, none⟩), reqV r (.slice A1 n1 c1)] w fun e w' => e = .returned (.int .i64 (lgE M D J a ring (encQ r))) ∧ St M0 w' (blkR gs 73 (srvC gd gj gi a ring (lgN M D J a ring (encQ r))) :: jR gj gd (lgJ M D J a ring (encQ r)) :: imgR gi M :: dsR gd (lgD M D J a ring (encQ r)) :: L) := by
  have hmf : ∀ (fn : Fn) (first cap : Array Value) (w : World), (Instr.makeFunc fn first cap).run Tryz.prog w = .ok (.func fn first cap) w := fun _ _ _ _ => rfl
  have h1 := ((h.alloc 26 #[.pointer (some ⟨gs, 0, none⟩)]).alloc 42 #[.int .i64 r.op, .int .i64 r.region, .int .i64 r.index, .int .u64 r.token, .int .u32 r.seq, .slice A1 n1 c1]).alloc 45 #[.int .i64 0]
  simp only [World.size_alloc] at h1
  obtain ⟨gb, hgb⟩ : ∃ gb, gb = w.heap.size := ⟨_, rfl⟩
  rw [← hgb] at h1
  have HGB := hide hgb
  have H1 := hide h1
  have HD := hide hD
  have HM := hide hM
  have HJ := hide hJ
  have HA := hide ha
  have HAJ := hide hj
  have HF := hide hf
  have HR := hide hr
  have HB := hide hb
  have HL := hide hl
  have HG := hide hg
  clear h h1 hD hM hJ hf ha hj hr hb hl hg hgb
  go_enter_defers Tryz.func25, Tryz.ntmps25
  go_wp2_with fail
  rw [← HGB.out]
  obtain ⟨gr, hgr⟩ : ∃ gr, gr = gb + 1 := ⟨_, rfl⟩
  obtain ⟨ge, hge⟩ : ∃ ge, ge = gb + 1 + 1 := ⟨_, rfl⟩
  rw [← hge, ← hgr] at H1 ⊢
  have h0 := H1.out.sub (L' := blkR gs 73 (srvC gd gj gi a ring false) :: blkR gb 26 #[.pointer (some ⟨gs, 0, none⟩)] :: jR gj gd J :: blkR gr 42 #[.int .i64 r.op, .int .i64 r.region, .int .i64 r.index, .int .u64 r.token, .int .u32 r.seq, .slice A1 n1 c1] :: blkR ge 45 #[.int .i64 0] :: intsR .u8 (.slice A1 n1 c1) r.data :: imgR gi M :: dsR gd D :: L) (by (repeat (first | with_reducible exact Sub.refl _ | (with_reducible apply Sub.take; focus (repeat (first | with_reducible exact At.here | with_reducible apply At.there))) | with_reducible apply Sub.drop)))
  clear H1 hge hgr
  refine region_flow (M0 := M0) (L0 := blkR gr 42 #[.int .i64 r.op, .int .i64 r.region, .int .i64 r.index, .int .u64 r.token, .int .u32 r.seq, .slice A1 n1 c1] :: blkR ge 45 #[.int .i64 0] :: intsR .u8 (.slice A1 n1 c1) r.data :: imgR gi M :: dsR gd D :: L) [⟨none, none, fun e => blkR gs 73 (srvC gd gj gi a ring false)⟩, ⟨none, none, fun e => blkR gb 26 #[.pointer (some ⟨gs, 0, none⟩)]⟩, ⟨none, none, fun e => jR gj gd J⟩] [[], [0], [0, 1], [0, 1, 2], [0, 1, 2, 3], [], [5], [5, 6], [5, 6, 7], [0, 1, 2, 3, 4, 5, 6, 7, 8]] [0, 1, 2, 3, 4, 5, 6, 7, 8, 9] rfl (by kernel_rfl) (by kernel_rfl) (by kernel_rfl) (by rfl) (fun _ => rfl) (show St M0 _ (blkR gs 73 (srvC gd gj gi a ring false) :: blkR gb 26 #[.pointer (some ⟨gs, 0, none⟩)] :: jR gj gd J :: blkR gr 42 #[.int .i64 r.op, .int .i64 r.region, .int .i64 r.index, .int .u64 r.token, .int .u32 r.seq, .slice A1 n1 c1] :: blkR ge 45 #[.int .i64 0] :: intsR .u8 (.slice A1 n1 c1) r.data :: imgR gi M :: dsR gd D :: L) from h0) ?_
  refine flow_run _ rfl (fun _ => rfl) (fun e wx Lx h => by (have h : St M0 wx (blkR gs 73 (srvC gd gj gi a ring false) :: blkR gb 26 #[.pointer (some ⟨gs, 0, none⟩)] :: jR gj gd J :: Lx) := h; obtain ⟨_, y1, _, _, _, y5, _⟩ := srv7 (h.blkA (g := gs) (t := 73) (cs := (srvC gd gj gi a ring false)) (by (repeat (first | with_reducible exact At.here | with_reducible apply At.there)))); have b0 := (h.blkA (g := gb) (t := 26) (cs := #[.pointer (some ⟨gs, 0, none⟩)]) (by (repeat (first | with_reducible exact At.here | with_reducible apply At.there)))).cell 0; go_simp; try rfl)) (by intro e; rfl) (by intro e; rfl) (by intro e x; rfl) ?_
  (simp only [Act.put, List.setIfInBounds_toArray, List.set_cons_succ, List.set_cons_zero])
  refine flow_run _ rfl (fun _ => rfl) (fun e wx Lx h => by (go_simp; try rfl)) (by intro e; rfl) (by intro e; rfl) (by intro e x; rfl) ?_
  (simp only [Act.put, List.setIfInBounds_toArray, List.set_cons_succ, List.set_cons_zero])
  refine flow_run _ rfl (fun _ => rfl) (fun e wx Lx h => by (go_simp; try rfl)) (by intro e; rfl) (by intro e; rfl) (by intro e x; rfl) ?_
  (simp only [Act.put, List.setIfInBounds_toArray, List.set_cons_succ, List.set_cons_zero])
  refine flow_run _ rfl (fun _ => rfl) (fun e wx Lx h => by (have h : St M0 wx (blkR gs 73 (srvC gd gj gi a ring false) :: blkR gb 26 #[.pointer (some ⟨gs, 0, none⟩)] :: jR gj gd J :: Lx) := h; obtain ⟨_, y1, _, _, _, y5, _⟩ := srv7 (h.blkA (g := gs) (t := 73) (cs := (srvC gd gj gi a ring false)) (by (repeat (first | with_reducible exact At.here | with_reducible apply At.there)))); have b0 := (h.blkA (g := gb) (t := 26) (cs := #[.pointer (some ⟨gs, 0, none⟩)]) (by (repeat (first | with_reducible exact At.here | with_reducible apply At.there)))).cell 0; go_simp; try rfl)) (by intro e; rfl) (by intro e; rfl) (by intro e x; rfl) ?_
  (simp only [Act.put, List.setIfInBounds_toArray, List.set_cons_succ, List.set_cons_zero])
  refine flow_call 41 (fun e => #[.pointer (some ⟨gj, 0, none⟩)]) (fun e => .int .i64 (J.held.length : Nat)) rfl (fun _ => rfl) (by intro e; rfl) (fun e wx => by (go_simp; try rfl)) (fun e wx Lx h => by (
    have h : St M0 wx (blkR gs 73 (srvC gd gj gi a ring false) :: blkR gb 26 #[.pointer (some ⟨gs, 0, none⟩)] :: jR gj gd J :: Lx) := h
    refine (jLen_st gj gd J _ (h.front (X := jR gj gd J) (by (repeat (first | with_reducible exact At.here | with_reducible apply At.there))))).mono ?_
    rintro u wy ⟨rfl, h1⟩
    have hk : St M0 wy (blkR gs 73 (srvC gd gj gi a ring false) :: blkR gb 26 #[.pointer (some ⟨gs, 0, none⟩)] :: jR gj gd J :: Lx) := h1.sub (by (repeat (first | with_reducible exact Sub.refl _ | (with_reducible apply Sub.take; focus (repeat (first | with_reducible exact At.here | with_reducible apply At.there))) | with_reducible apply Sub.drop)))
    exact ⟨⟨none, 0, default⟩, rfl, hk⟩)) ?_
  (simp only [Act.put, List.setIfInBounds_toArray, List.set_cons_succ, List.set_cons_zero])
  refine flow_run _ rfl (fun _ => rfl) (fun e wx Lx h => by (have h : St M0 wx (blkR gs 73 (srvC gd gj gi a ring false) :: blkR gb 26 #[.pointer (some ⟨gs, 0, none⟩)] :: jR gj gd J :: Lx) := h; obtain ⟨_, y1, _, _, _, y5, _⟩ := srv7 (h.blkA (g := gs) (t := 73) (cs := (srvC gd gj gi a ring false)) (by (repeat (first | with_reducible exact At.here | with_reducible apply At.there)))); have b0 := (h.blkA (g := gb) (t := 26) (cs := #[.pointer (some ⟨gs, 0, none⟩)]) (by (repeat (first | with_reducible exact At.here | with_reducible apply At.there)))).cell 0; go_simp; try rfl)) (by intro e; rfl) (by intro e; rfl) (by intro e x; rfl) ?_
  (simp only [Act.put, List.setIfInBounds_toArray, List.set_cons_succ, List.set_cons_zero])
  refine flow_run _ rfl (fun _ => rfl) (fun e wx Lx h => by (go_simp; try rfl)) (by intro e; rfl) (by intro e; rfl) (by intro e x; rfl) ?_
  (simp only [Act.put, List.setIfInBounds_toArray, List.set_cons_succ, List.set_cons_zero])
  refine flow_run _ rfl (fun _ => rfl) (fun e wx Lx h => by (go_simp; try rfl)) (by intro e; rfl) (by intro e; rfl) (by intro e x; rfl) ?_
  (simp only [Act.put, List.setIfInBounds_toArray, List.set_cons_succ, List.set_cons_zero])
  refine flow_run _ rfl (fun _ => rfl) (fun e wx Lx h => by (have h : St M0 wx (blkR gs 73 (srvC gd gj gi a ring false) :: blkR gb 26 #[.pointer (some ⟨gs, 0, none⟩)] :: jR gj gd J :: Lx) := h; obtain ⟨_, y1, _, _, _, y5, _⟩ := srv7 (h.blkA (g := gs) (t := 73) (cs := (srvC gd gj gi a ring false)) (by (repeat (first | with_reducible exact At.here | with_reducible apply At.there)))); have b0 := (h.blkA (g := gb) (t := 26) (cs := #[.pointer (some ⟨gs, 0, none⟩)]) (by (repeat (first | with_reducible exact At.here | with_reducible apply At.there)))).cell 0; go_simp; try rfl)) (by intro e; rfl) (by intro e; rfl) (by intro e x; rfl) ?_
  (simp only [Act.put, List.setIfInBounds_toArray, List.set_cons_succ, List.set_cons_zero])
  refine flow_run _ rfl (fun _ => rfl) (fun e wx Lx h => by (go_simp; try rfl)) (by intro e; rfl) (by intro e; rfl) (by intro e x; rfl) ?_
  (simp only [Act.put, List.setIfInBounds_toArray, List.set_cons_succ, List.set_cons_zero])
  refine flow_nil ?_
  intro e w1 h
  have h : St M0 w1 (blkR gs 73 (srvC gd gj gi a ring false) :: blkR gb 26 #[.pointer (some ⟨gs, 0, none⟩)] :: jR gj gd J :: blkR gr 42 #[.int .i64 r.op, .int .i64 r.region, .int .i64 r.index, .int .u64 r.token, .int .u32 r.seq, .slice A1 n1 c1] :: blkR ge 45 #[.int .i64 0] :: intsR .u8 (.slice A1 n1 c1) r.data :: imgR gi M :: dsR gd D :: L) := h
  have H2 := hide (h.sub (L' := blkR gs 73 (srvC gd gj gi a ring false) :: jR gj gd J :: imgR gi M :: dsR gd D :: blkR gb 26 #[.pointer (some ⟨gs, 0, none⟩)] :: blkR gr 42 #[.int .i64 r.op, .int .i64 r.region, .int .i64 r.index, .int .u64 r.token, .int .u32 r.seq, .slice A1 n1 c1] :: blkR ge 45 #[.int .i64 0] :: intsR .u8 (.slice A1 n1 c1) r.data :: L) (by (repeat (first | with_reducible exact Sub.refl _ | (with_reducible apply Sub.take; focus (repeat (first | with_reducible exact At.here | with_reducible apply At.there))) | with_reducible apply Sub.drop))))
  clear h h0
  by_cases hc : ring ≤ J.held.length
  case pos =>
    have d0 : decide ((ring : Int) ≤ (J.held.length : Int)) = true := decide_eq_true (by omega)
    have d0n : decide (ring ≤ J.held.length) = true := decide_eq_true hc
    have d0m : decide (J.held.length ≥ ring) = true := d0n
    have b0 := (H2.out.blkA (g := gb) (t := 26) (cs := #[.pointer (some ⟨gs, 0, none⟩)]) (by (repeat (first | with_reducible exact At.here | with_reducible apply At.there)))).cell 0
    have HC0 := hide hc
    clear hc
    go_wp2_with fail
    refine (cp_st hT gs gd gj gi kk a ring M D J _ HD.out (by omega) HM.out HJ.out HF.out HA.out HAJ.out H2.out).mono ?_
    rintro e w3 ⟨rfl, h⟩
    clear d0 d0n d0m b0
    have EE1 := hide (show lgE1 M D J a ring = cpE M D J a from if_pos HC0.out)
    have EJ1 := hide (show lgJ1 M D J a ring = cpJ M D J a from if_pos HC0.out)
    have ED1 := hide (show lgD1 M D J a ring = cpD M D J a from if_pos HC0.out)
    by_cases hz : cpE M D J a = 0
    case neg =>
      have hz2 : ¬ lgE1 M D J a ring = 0 := by rw [EE1.out]; exact hz
      have EE := hide (show lgE M D J a ring (encQ r) = cpE M D J a from (if_neg hz2).trans EE1.out)
      have ED := hide (show lgD M D J a ring (encQ r) = cpD M D J a from (if_neg hz2).trans ED1.out)
      have EJ := hide (show lgJ M D J a ring (encQ r) = cpJ M D J a from (if_neg hz2).trans EJ1.out)
      have EN := hide (show lgN M D J a ring (encQ r) = (cpE M D J a == 43) from (if_neg hz2).trans (by rw [EE1.out]))
      have d1 : (cpE M D J a != 0) = true := by simpa using hz
      clear hz hz2
      generalize cpE M D J a = e1 at *
      have x0 := (h.blkA (g := ge) (t := 45) (cs := #[.int .i64 0]) (by (repeat (first | with_reducible exact At.here | with_reducible apply At.there)))).cell 0
      have fe := (h.blkA (g := ge) (t := 45) (cs := #[.int .i64 0]) (by (repeat (first | with_reducible exact At.here | with_reducible apply At.there)))).frozen
      have h6 := (h.front (X := blkR ge 45 #[.int .i64 0]) (by (repeat (first | with_reducible exact At.here | with_reducible apply At.there)))).put_ 0 (.int .i64 e1) #[.int .i64 e1]
      have H6 := hide h6
      clear h h6 H2
      go_wp2_with fail
      have y0 := (H6.out.blk 0 rfl).cell 0
      refine ⟨.int .i64 e1, results_cell1 rfl _ rfl ?_, by rw [EE.out]; try rfl, ?_⟩
      · go_simp
      · rw [EN.out, EJ.out, ED.out]
        exact H6.out.sub (by (repeat (first | with_reducible exact Sub.refl _ | (with_reducible apply Sub.take; focus (repeat (first | with_reducible exact At.here | with_reducible apply At.there))) | with_reducible apply Sub.drop)))
    case pos =>
      have hz2 : lgE1 M D J a ring = 0 := by rw [EE1.out]; exact hz
      obtain ⟨D1, hD1⟩ : ∃ x, x = lgD1 M D J a ring := ⟨_, rfl⟩
      obtain ⟨J1, hJ1⟩ : ∃ x, x = lgJ1 M D J a ring := ⟨_, rfl⟩
      rw [← ED1.out, ← EJ1.out, ← hD1, ← hJ1, hz] at h
      rw [show ((0 : Int) == 43) = false from rfl] at h
      rw [hz]
      have hJt : J1 = J.trim := by rw [hJ1, EJ1.out]; exact cpE_zero hz
      have HD1 : Hid (DsOk D1 (kk + 23)) := by rw [hD1, ED1.out]; exact (cpD_ok HD.out HM.out).1
      have HJ1 : Hid (JOk J1) := by rw [hJt]; exact HJ.out.trim HF.out
      have HLT : Hid (J1.held.length < J1.n) := by rw [hJt]; exact (show 0 < J.n from HJ.out.n0.1)
      have EE0 := hide (show lgE M D J a ring (encQ r) = apE D1 J1 (encQ r) from (if_pos hz2).trans (by rw [← hD1, ← hJ1]))
      have ED0 := hide (show lgD M D J a ring (encQ r) = apD D1 J1 (encQ r) from (if_pos hz2).trans (by rw [← hD1, ← hJ1]))
      have EJ0 := hide (show lgJ M D J a ring (encQ r) = J1.app (encQ r) from (if_pos hz2).trans (by rw [← hJ1]))
      have EN0 := hide (show lgN M D J a ring (encQ r) = (apD D1 J1 (encQ r)).down from (if_pos hz2).trans (by rw [← hD1, ← hJ1]))
      have HX := hide (h.sub (L' := intsR .u8 (.slice A1 n1 c1) r.data :: blkR gs 73 (srvC gd gj gi a ring false) :: blkR gb 26 #[.pointer (some ⟨gs, 0, none⟩)] :: jR gj gd J1 :: imgR gi M :: dsR gd D1 :: blkR gr 42 #[.int .i64 r.op, .int .i64 r.region, .int .i64 r.index, .int .u64 r.token, .int .u32 r.seq, .slice A1 n1 c1] :: blkR ge 45 #[.int .i64 0] :: L) (by (repeat (first | with_reducible exact Sub.refl _ | (with_reducible apply Sub.take; focus (repeat (first | with_reducible exact At.here | with_reducible apply At.there))) | with_reducible apply Sub.drop))))
      clear h hz hz2 hJt H2 hD1 hJ1 EE1 EJ1 ED1
      obtain ⟨_, y1, _, _, _, _, _⟩ := srv7 (HX.out.blkA (g := gs) (t := 73) (cs := (srvC gd gj gi a ring false)) (by (repeat (first | with_reducible exact At.here | with_reducible apply At.there))))
      have b0 := (HX.out.blkA (g := gb) (t := 26) (cs := #[.pointer (some ⟨gs, 0, none⟩)]) (by (repeat (first | with_reducible exact At.here | with_reducible apply At.there)))).cell 0
      have x0 := (HX.out.blkA (g := ge) (t := 45) (cs := #[.int .i64 0]) (by (repeat (first | with_reducible exact At.here | with_reducible apply At.there)))).cell 0
      have fe := (HX.out.blkA (g := ge) (t := 45) (cs := #[.int .i64 0]) (by (repeat (first | with_reducible exact At.here | with_reducible apply At.there)))).frozen
      obtain ⟨r0, r1, r2, r3, r4, r5⟩ := (HX.out.blkA (g := gr) (t := 42) (cs := #[.int .i64 r.op, .int .i64 r.region, .int .i64 r.index, .int .u64 r.token, .int .u32 r.seq, .slice A1 n1 c1]) (by (repeat (first | with_reducible exact At.here | with_reducible apply At.there)))).six
      go_wp2_with fail
      refine (encode_st r A1 n1 c1 _ HR.out HX.out).mono ?_
      rintro e w4 ⟨v, rfl, h⟩
      obtain ⟨A2, c2, rfl, _, _, _⟩ := h.get 0 rfl
      clear y1 b0 x0 fe r0 r1 r2 r3 r4 r5
      try clear d0 d0n d0m hc
      generalize hbe : encQ r = b at *
      have HBE := hide hbe
      clear hbe
      obtain ⟨nb, hnb⟩ : ∃ nb, nb = b.length := ⟨_, rfl⟩
      rw [← hnb] at h ⊢
      have HNB := hide (show nb ≤ 43 by rw [hnb]; exact HL.out)
      clear hnb
      have H4 := hide h
      clear h HX
      obtain ⟨_, y1, _, _, _, _, _⟩ := srv7 (H4.out.blkA (g := gs) (t := 73) (cs := (srvC gd gj gi a ring false)) (by (repeat (first | with_reducible exact At.here | with_reducible apply At.there))))
      have b0 := (H4.out.blkA (g := gb) (t := 26) (cs := #[.pointer (some ⟨gs, 0, none⟩)]) (by (repeat (first | with_reducible exact At.here | with_reducible apply At.there)))).cell 0
      have x0 := (H4.out.blkA (g := ge) (t := 45) (cs := #[.int .i64 0]) (by (repeat (first | with_reducible exact At.here | with_reducible apply At.there)))).cell 0
      have fe := (H4.out.blkA (g := ge) (t := 45) (cs := #[.int .i64 0]) (by (repeat (first | with_reducible exact At.here | with_reducible apply At.there)))).frozen
      obtain ⟨r0, r1, r2, r3, r4, r5⟩ := (H4.out.blkA (g := gr) (t := 42) (cs := #[.int .i64 r.op, .int .i64 r.region, .int .i64 r.index, .int .u64 r.token, .int .u32 r.seq, .slice A1 n1 c1]) (by (repeat (first | with_reducible exact At.here | with_reducible apply At.there)))).six
      go_wp2_with fail
      refine (jApp_st hT gj gd _ D1 J1 A2 nb c2 b _ HD1.out (by omega) HJ1.out HLT.out HB.out HNB.out (H4.out.sub (L' := intsR .u8 (.slice A2 nb c2) b :: jR gj gd J1 :: dsR gd D1 :: blkR gs 73 (srvC gd gj gi a ring false) :: blkR gb 26 #[.pointer (some ⟨gs, 0, none⟩)] :: blkR ge 45 #[.int .i64 0] :: blkR gr 42 #[.int .i64 r.op, .int .i64 r.region, .int .i64 r.index, .int .u64 r.token, .int .u32 r.seq, .slice A1 n1 c1] :: imgR gi M :: L) (by (repeat (first | with_reducible exact Sub.refl _ | (with_reducible apply Sub.take; focus (repeat (first | with_reducible exact At.here | with_reducible apply At.there))) | with_reducible apply Sub.drop))))).mono ?_
      rintro e w5 ⟨rfl, h⟩
      have HD2 := hide (apD_ok (J := J1) HD1.out HB.out)
      obtain ⟨ae, hae⟩ : ∃ x, x = J1.appE D1 b := ⟨_, rfl⟩
      obtain ⟨ad, had⟩ : ∃ x, x = J1.appD D1 b := ⟨_, rfl⟩
      obtain ⟨aj, haj⟩ : ∃ x, x = J1.app b := ⟨_, rfl⟩
      rw [← had, ← haj] at h
      rw [← had] at HD2
      rw [← hae]
      clear y1 b0 x0 fe r0 r1 r2 r3 r4 r5
      have H5 := hide h
      clear h H4
      by_cases hz : ae = 0
      case neg =>
        have d0 : (ae != 0) = true := by simpa using hz
        have hz2 : ¬ J1.appE D1 b = 0 := by rw [← hae]; exact hz
        have ED := hide (show apD D1 J1 b = ad from (if_neg hz2).trans had.symm)
        have ET := hide (show apE D1 J1 b = if ad.down = true then 43 else ae by unfold apE; rw [ED.out, ← hae])
        have EN := hide (EN0.out.trans (by rw [ED.out]))
        have ED := hide (ED0.out.trans ED.out)
        have EE := EE0
        have EJ := hide (EJ0.out.trans haj.symm)
        clear hz hz2 hae had haj
        obtain ⟨_, y1, _, _, _, _, _⟩ := srv7 (H5.out.blkA (g := gs) (t := 73) (cs := (srvC gd gj gi a ring false)) (by (repeat (first | with_reducible exact At.here | with_reducible apply At.there))))
        have b0 := (H5.out.blkA (g := gb) (t := 26) (cs := #[.pointer (some ⟨gs, 0, none⟩)]) (by (repeat (first | with_reducible exact At.here | with_reducible apply At.there)))).cell 0
        have x0 := (H5.out.blkA (g := ge) (t := 45) (cs := #[.int .i64 0]) (by (repeat (first | with_reducible exact At.here | with_reducible apply At.there)))).cell 0
        have fe := (H5.out.blkA (g := ge) (t := 45) (cs := #[.int .i64 0]) (by (repeat (first | with_reducible exact At.here | with_reducible apply At.there)))).frozen
        obtain ⟨r0, r1, r2, r3, r4, r5⟩ := (H5.out.blkA (g := gr) (t := 42) (cs := #[.int .i64 r.op, .int .i64 r.region, .int .i64 r.index, .int .u64 r.token, .int .u32 r.seq, .slice A1 n1 c1]) (by (repeat (first | with_reducible exact At.here | with_reducible apply At.there)))).six
        have h6 := (H5.out.front (X := blkR ge 45 #[.int .i64 0]) (by (repeat (first | with_reducible exact At.here | with_reducible apply At.there)))).put_ 0 (.int .i64 ae) #[.int .i64 ae]
        have HC := hide (fun u => logd_st gs gd gj gi ge gb a ring ad ae u _ (h6.sub (L' := blkR gs 73 (srvC gd gj gi a ring false) :: blkR ge 45 #[.int .i64 ae] :: blkR gb 26 #[.pointer (some ⟨gs, 0, none⟩)] :: dsR gd ad :: jR gj gd aj :: imgR gi M :: L) (by (repeat (first | with_reducible exact Sub.refl _ | (with_reducible apply Sub.take; focus (repeat (first | with_reducible exact At.here | with_reducible apply At.there))) | with_reducible apply Sub.drop)))))
        clear h6
        go_wp2_with fail
        refine leaves_cons (f := 58) (args := #[.pointer (some ⟨gb, 0, none⟩), .pointer (some ⟨ge, 0, none⟩)]) (by simp) (by simp [go_sem]) ?_
        refine (HC.out _).mono ?_
        rintro e u' w9 ⟨rfl, rfl, h⟩
        have y0 := (h.blk 1 rfl).cell 0
        refine ⟨.int .i64 (if (ad).down = true then 43 else ae), results_cell1 rfl _ rfl ?_, by rw [HBE.out, EE.out, ET.out]; try rfl, ?_⟩
        · go_simp
        · rw [HBE.out, EN.out, EJ.out, ED.out]
          exact h.sub (by (repeat (first | with_reducible exact Sub.refl _ | (with_reducible apply Sub.take; focus (repeat (first | with_reducible exact At.here | with_reducible apply At.there))) | with_reducible apply Sub.drop)))
      case pos =>
        have hz2 : J1.appE D1 b = 0 := by rw [← hae]; exact hz
        have ED := hide (show apD D1 J1 b = ad.sync from (if_pos hz2).trans (by rw [← had]))
        have ET := hide (show apE D1 J1 b = if ad.sync.down = true then 43 else 0 by unfold apE; rw [ED.out, hz2])
        have EN := hide (EN0.out.trans (by rw [ED.out]))
        have ED := hide (ED0.out.trans ED.out)
        have EE := EE0
        have EJ := hide (EJ0.out.trans haj.symm)
        subst hz
        clear hz2 hae had haj
        obtain ⟨_, y1, _, _, _, _, _⟩ := srv7 (H5.out.blkA (g := gs) (t := 73) (cs := (srvC gd gj gi a ring false)) (by (repeat (first | with_reducible exact At.here | with_reducible apply At.there))))
        have b0 := (H5.out.blkA (g := gb) (t := 26) (cs := #[.pointer (some ⟨gs, 0, none⟩)]) (by (repeat (first | with_reducible exact At.here | with_reducible apply At.there)))).cell 0
        have x0 := (H5.out.blkA (g := ge) (t := 45) (cs := #[.int .i64 0]) (by (repeat (first | with_reducible exact At.here | with_reducible apply At.there)))).cell 0
        have fe := (H5.out.blkA (g := ge) (t := 45) (cs := #[.int .i64 0]) (by (repeat (first | with_reducible exact At.here | with_reducible apply At.there)))).frozen
        obtain ⟨r0, r1, r2, r3, r4, r5⟩ := (H5.out.blkA (g := gr) (t := 42) (cs := #[.int .i64 r.op, .int .i64 r.region, .int .i64 r.index, .int .u64 r.token, .int .u32 r.seq, .slice A1 n1 c1]) (by (repeat (first | with_reducible exact At.here | with_reducible apply At.there)))).six
        go_wp2_with fail
        refine (jSync_st gj gd _ ad aj _ HD2.out.1 (by omega) (H5.out.sub (L' := jR gj gd aj :: dsR gd ad :: blkR gs 73 (srvC gd gj gi a ring false) :: blkR gb 26 #[.pointer (some ⟨gs, 0, none⟩)] :: blkR ge 45 #[.int .i64 0] :: blkR gr 42 #[.int .i64 r.op, .int .i64 r.region, .int .i64 r.index, .int .u64 r.token, .int .u32 r.seq, .slice A1 n1 c1] :: imgR gi M :: L) (by (repeat (first | with_reducible exact Sub.refl _ | (with_reducible apply Sub.take; focus (repeat (first | with_reducible exact At.here | with_reducible apply At.there))) | with_reducible apply Sub.drop))))).mono ?_
        rintro e w6 ⟨rfl, h⟩
        clear y1 b0 x0 fe r0 r1 r2 r3 r4 r5
        have H6 := hide h
        clear h H5
        obtain ⟨_, y1, _, _, _, _, _⟩ := srv7 (H6.out.blkA (g := gs) (t := 73) (cs := (srvC gd gj gi a ring false)) (by (repeat (first | with_reducible exact At.here | with_reducible apply At.there))))
        have b0 := (H6.out.blkA (g := gb) (t := 26) (cs := #[.pointer (some ⟨gs, 0, none⟩)]) (by (repeat (first | with_reducible exact At.here | with_reducible apply At.there)))).cell 0
        have x0 := (H6.out.blkA (g := ge) (t := 45) (cs := #[.int .i64 0]) (by (repeat (first | with_reducible exact At.here | with_reducible apply At.there)))).cell 0
        have fe := (H6.out.blkA (g := ge) (t := 45) (cs := #[.int .i64 0]) (by (repeat (first | with_reducible exact At.here | with_reducible apply At.there)))).frozen
        obtain ⟨r0, r1, r2, r3, r4, r5⟩ := (H6.out.blkA (g := gr) (t := 42) (cs := #[.int .i64 r.op, .int .i64 r.region, .int .i64 r.index, .int .u64 r.token, .int .u32 r.seq, .slice A1 n1 c1]) (by (repeat (first | with_reducible exact At.here | with_reducible apply At.there)))).six
        have h6 := (H6.out.front (X := blkR ge 45 #[.int .i64 0]) (by (repeat (first | with_reducible exact At.here | with_reducible apply At.there)))).put_ 0 (.int .i64 0) #[.int .i64 0]
        have HC := hide (fun u => logd_st gs gd gj gi ge gb a ring ad.sync 0 u _ (h6.sub (L' := blkR gs 73 (srvC gd gj gi a ring false) :: blkR ge 45 #[.int .i64 0] :: blkR gb 26 #[.pointer (some ⟨gs, 0, none⟩)] :: dsR gd ad.sync :: jR gj gd aj :: imgR gi M :: L) (by (repeat (first | with_reducible exact Sub.refl _ | (with_reducible apply Sub.take; focus (repeat (first | with_reducible exact At.here | with_reducible apply At.there))) | with_reducible apply Sub.drop)))))
        clear h6
        go_wp2_with fail
        refine leaves_cons (f := 58) (args := #[.pointer (some ⟨gb, 0, none⟩), .pointer (some ⟨ge, 0, none⟩)]) (by simp) (by simp [go_sem]) ?_
        refine (HC.out _).mono ?_
        rintro e u' w9 ⟨rfl, rfl, h⟩
        have y0 := (h.blk 1 rfl).cell 0
        refine ⟨.int .i64 (if (ad.sync).down = true then 43 else 0), results_cell1 rfl _ rfl ?_, by rw [HBE.out, EE.out, ET.out]; try rfl, ?_⟩
        · go_simp
        · rw [HBE.out, EN.out, EJ.out, ED.out]
          exact h.sub (by (repeat (first | with_reducible exact Sub.refl _ | (with_reducible apply Sub.take; focus (repeat (first | with_reducible exact At.here | with_reducible apply At.there))) | with_reducible apply Sub.drop)))
  case neg =>
    have d0 : decide ((ring : Int) ≤ (J.held.length : Int)) = false := decide_eq_false (by omega)
    have d0n : decide (ring ≤ J.held.length) = false := decide_eq_false hc
    have d0m : decide (J.held.length ≥ ring) = false := d0n
    have hz2 : lgE1 M D J a ring = 0 := if_neg hc
    obtain ⟨D1, hD1⟩ : ∃ x, x = lgD1 M D J a ring := ⟨_, rfl⟩
    obtain ⟨J1, hJ1⟩ : ∃ x, x = lgJ1 M D J a ring := ⟨_, rfl⟩
    have ED1 : D1 = D := hD1.trans (if_neg hc)
    have EJ1 : J1 = J := hJ1.trans (if_neg hc)
    have EE0 := hide (show lgE M D J a ring (encQ r) = apE D1 J1 (encQ r) from (if_pos hz2).trans (by rw [← hD1, ← hJ1]))
    have ED0 := hide (show lgD M D J a ring (encQ r) = apD D1 J1 (encQ r) from (if_pos hz2).trans (by rw [← hD1, ← hJ1]))
    have EJ0 := hide (show lgJ M D J a ring (encQ r) = J1.app (encQ r) from (if_pos hz2).trans (by rw [← hJ1]))
    have EN0 := hide (show lgN M D J a ring (encQ r) = (apD D1 J1 (encQ r)).down from (if_pos hz2).trans (by rw [← hD1, ← hJ1]))
    have HD1 : Hid (DsOk D1 (kk + 23)) := by rw [ED1]; exact HD.out.mono (by omega)
    have HJ1 : Hid (JOk J1) := by rw [EJ1]; exact HJ.out
    have HLT : Hid (J1.held.length < J1.n) := by rw [EJ1]; show _ < _; rw [HG.out]; omega
    have HX := hide (H2.out.sub (L' := intsR .u8 (.slice A1 n1 c1) r.data :: blkR gs 73 (srvC gd gj gi a ring false) :: blkR gb 26 #[.pointer (some ⟨gs, 0, none⟩)] :: jR gj gd J :: imgR gi M :: dsR gd D :: blkR gr 42 #[.int .i64 r.op, .int .i64 r.region, .int .i64 r.index, .int .u64 r.token, .int .u32 r.seq, .slice A1 n1 c1] :: blkR ge 45 #[.int .i64 0] :: L) (by (repeat (first | with_reducible exact Sub.refl _ | (with_reducible apply Sub.take; focus (repeat (first | with_reducible exact At.here | with_reducible apply At.there))) | with_reducible apply Sub.drop))))
    rw [← ED1, ← EJ1] at HX
    clear hz2 H2 hD1 hJ1 EJ1 ED1
    obtain ⟨_, y1, _, _, _, _, _⟩ := srv7 (HX.out.blkA (g := gs) (t := 73) (cs := (srvC gd gj gi a ring false)) (by (repeat (first | with_reducible exact At.here | with_reducible apply At.there))))
    have b0 := (HX.out.blkA (g := gb) (t := 26) (cs := #[.pointer (some ⟨gs, 0, none⟩)]) (by (repeat (first | with_reducible exact At.here | with_reducible apply At.there)))).cell 0
    have x0 := (HX.out.blkA (g := ge) (t := 45) (cs := #[.int .i64 0]) (by (repeat (first | with_reducible exact At.here | with_reducible apply At.there)))).cell 0
    have fe := (HX.out.blkA (g := ge) (t := 45) (cs := #[.int .i64 0]) (by (repeat (first | with_reducible exact At.here | with_reducible apply At.there)))).frozen
    obtain ⟨r0, r1, r2, r3, r4, r5⟩ := (HX.out.blkA (g := gr) (t := 42) (cs := #[.int .i64 r.op, .int .i64 r.region, .int .i64 r.index, .int .u64 r.token, .int .u32 r.seq, .slice A1 n1 c1]) (by (repeat (first | with_reducible exact At.here | with_reducible apply At.there)))).six
    go_wp2_with fail
    refine (encode_st r A1 n1 c1 _ HR.out HX.out).mono ?_
    rintro e w4 ⟨v, rfl, h⟩
    obtain ⟨A2, c2, rfl, _, _, _⟩ := h.get 0 rfl
    clear y1 b0 x0 fe r0 r1 r2 r3 r4 r5
    try clear d0 d0n d0m hc
    generalize hbe : encQ r = b at *
    have HBE := hide hbe
    clear hbe
    obtain ⟨nb, hnb⟩ : ∃ nb, nb = b.length := ⟨_, rfl⟩
    rw [← hnb] at h ⊢
    have HNB := hide (show nb ≤ 43 by rw [hnb]; exact HL.out)
    clear hnb
    have H4 := hide h
    clear h HX
    obtain ⟨_, y1, _, _, _, _, _⟩ := srv7 (H4.out.blkA (g := gs) (t := 73) (cs := (srvC gd gj gi a ring false)) (by (repeat (first | with_reducible exact At.here | with_reducible apply At.there))))
    have b0 := (H4.out.blkA (g := gb) (t := 26) (cs := #[.pointer (some ⟨gs, 0, none⟩)]) (by (repeat (first | with_reducible exact At.here | with_reducible apply At.there)))).cell 0
    have x0 := (H4.out.blkA (g := ge) (t := 45) (cs := #[.int .i64 0]) (by (repeat (first | with_reducible exact At.here | with_reducible apply At.there)))).cell 0
    have fe := (H4.out.blkA (g := ge) (t := 45) (cs := #[.int .i64 0]) (by (repeat (first | with_reducible exact At.here | with_reducible apply At.there)))).frozen
    obtain ⟨r0, r1, r2, r3, r4, r5⟩ := (H4.out.blkA (g := gr) (t := 42) (cs := #[.int .i64 r.op, .int .i64 r.region, .int .i64 r.index, .int .u64 r.token, .int .u32 r.seq, .slice A1 n1 c1]) (by (repeat (first | with_reducible exact At.here | with_reducible apply At.there)))).six
    go_wp2_with fail
    refine (jApp_st hT gj gd _ D1 J1 A2 nb c2 b _ HD1.out (by omega) HJ1.out HLT.out HB.out HNB.out (H4.out.sub (L' := intsR .u8 (.slice A2 nb c2) b :: jR gj gd J1 :: dsR gd D1 :: blkR gs 73 (srvC gd gj gi a ring false) :: blkR gb 26 #[.pointer (some ⟨gs, 0, none⟩)] :: blkR ge 45 #[.int .i64 0] :: blkR gr 42 #[.int .i64 r.op, .int .i64 r.region, .int .i64 r.index, .int .u64 r.token, .int .u32 r.seq, .slice A1 n1 c1] :: imgR gi M :: L) (by (repeat (first | with_reducible exact Sub.refl _ | (with_reducible apply Sub.take; focus (repeat (first | with_reducible exact At.here | with_reducible apply At.there))) | with_reducible apply Sub.drop))))).mono ?_
    rintro e w5 ⟨rfl, h⟩
    have HD2 := hide (apD_ok (J := J1) HD1.out HB.out)
    obtain ⟨ae, hae⟩ : ∃ x, x = J1.appE D1 b := ⟨_, rfl⟩
    obtain ⟨ad, had⟩ : ∃ x, x = J1.appD D1 b := ⟨_, rfl⟩
    obtain ⟨aj, haj⟩ : ∃ x, x = J1.app b := ⟨_, rfl⟩
    rw [← had, ← haj] at h
    rw [← had] at HD2
    rw [← hae]
    clear y1 b0 x0 fe r0 r1 r2 r3 r4 r5
    have H5 := hide h
    clear h H4
    by_cases hz : ae = 0
    case neg =>
      have d0 : (ae != 0) = true := by simpa using hz
      have hz2 : ¬ J1.appE D1 b = 0 := by rw [← hae]; exact hz
      have ED := hide (show apD D1 J1 b = ad from (if_neg hz2).trans had.symm)
      have ET := hide (show apE D1 J1 b = if ad.down = true then 43 else ae by unfold apE; rw [ED.out, ← hae])
      have EN := hide (EN0.out.trans (by rw [ED.out]))
      have ED := hide (ED0.out.trans ED.out)
      have EE := EE0
      have EJ := hide (EJ0.out.trans haj.symm)
      clear hz hz2 hae had haj
      obtain ⟨_, y1, _, _, _, _, _⟩ := srv7 (H5.out.blkA (g := gs) (t := 73) (cs := (srvC gd gj gi a ring false)) (by (repeat (first | with_reducible exact At.here | with_reducible apply At.there))))
      have b0 := (H5.out.blkA (g := gb) (t := 26) (cs := #[.pointer (some ⟨gs, 0, none⟩)]) (by (repeat (first | with_reducible exact At.here | with_reducible apply At.there)))).cell 0
      have x0 := (H5.out.blkA (g := ge) (t := 45) (cs := #[.int .i64 0]) (by (repeat (first | with_reducible exact At.here | with_reducible apply At.there)))).cell 0
      have fe := (H5.out.blkA (g := ge) (t := 45) (cs := #[.int .i64 0]) (by (repeat (first | with_reducible exact At.here | with_reducible apply At.there)))).frozen
      obtain ⟨r0, r1, r2, r3, r4, r5⟩ := (H5.out.blkA (g := gr) (t := 42) (cs := #[.int .i64 r.op, .int .i64 r.region, .int .i64 r.index, .int .u64 r.token, .int .u32 r.seq, .slice A1 n1 c1]) (by (repeat (first | with_reducible exact At.here | with_reducible apply At.there)))).six
      have h6 := (H5.out.front (X := blkR ge 45 #[.int .i64 0]) (by (repeat (first | with_reducible exact At.here | with_reducible apply At.there)))).put_ 0 (.int .i64 ae) #[.int .i64 ae]
      have HC := hide (fun u => logd_st gs gd gj gi ge gb a ring ad ae u _ (h6.sub (L' := blkR gs 73 (srvC gd gj gi a ring false) :: blkR ge 45 #[.int .i64 ae] :: blkR gb 26 #[.pointer (some ⟨gs, 0, none⟩)] :: dsR gd ad :: jR gj gd aj :: imgR gi M :: L) (by (repeat (first | with_reducible exact Sub.refl _ | (with_reducible apply Sub.take; focus (repeat (first | with_reducible exact At.here | with_reducible apply At.there))) | with_reducible apply Sub.drop)))))
      clear h6
      go_wp2_with fail
      refine leaves_cons (f := 58) (args := #[.pointer (some ⟨gb, 0, none⟩), .pointer (some ⟨ge, 0, none⟩)]) (by simp) (by simp [go_sem]) ?_
      refine (HC.out _).mono ?_
      rintro e u' w9 ⟨rfl, rfl, h⟩
      have y0 := (h.blk 1 rfl).cell 0
      refine ⟨.int .i64 (if (ad).down = true then 43 else ae), results_cell1 rfl _ rfl ?_, by rw [HBE.out, EE.out, ET.out]; try rfl, ?_⟩
      · go_simp
      · rw [HBE.out, EN.out, EJ.out, ED.out]
        exact h.sub (by (repeat (first | with_reducible exact Sub.refl _ | (with_reducible apply Sub.take; focus (repeat (first | with_reducible exact At.here | with_reducible apply At.there))) | with_reducible apply Sub.drop)))
    case pos =>
      have hz2 : J1.appE D1 b = 0 := by rw [← hae]; exact hz
      have ED := hide (show apD D1 J1 b = ad.sync from (if_pos hz2).trans (by rw [← had]))
      have ET := hide (show apE D1 J1 b = if ad.sync.down = true then 43 else 0 by unfold apE; rw [ED.out, hz2])
      have EN := hide (EN0.out.trans (by rw [ED.out]))
      have ED := hide (ED0.out.trans ED.out)
      have EE := EE0
      have EJ := hide (EJ0.out.trans haj.symm)
      subst hz
      clear hz2 hae had haj
      obtain ⟨_, y1, _, _, _, _, _⟩ := srv7 (H5.out.blkA (g := gs) (t := 73) (cs := (srvC gd gj gi a ring false)) (by (repeat (first | with_reducible exact At.here | with_reducible apply At.there))))
      have b0 := (H5.out.blkA (g := gb) (t := 26) (cs := #[.pointer (some ⟨gs, 0, none⟩)]) (by (repeat (first | with_reducible exact At.here | with_reducible apply At.there)))).cell 0
      have x0 := (H5.out.blkA (g := ge) (t := 45) (cs := #[.int .i64 0]) (by (repeat (first | with_reducible exact At.here | with_reducible apply At.there)))).cell 0
      have fe := (H5.out.blkA (g := ge) (t := 45) (cs := #[.int .i64 0]) (by (repeat (first | with_reducible exact At.here | with_reducible apply At.there)))).frozen
      obtain ⟨r0, r1, r2, r3, r4, r5⟩ := (H5.out.blkA (g := gr) (t := 42) (cs := #[.int .i64 r.op, .int .i64 r.region, .int .i64 r.index, .int .u64 r.token, .int .u32 r.seq, .slice A1 n1 c1]) (by (repeat (first | with_reducible exact At.here | with_reducible apply At.there)))).six
      go_wp2_with fail
      refine (jSync_st gj gd _ ad aj _ HD2.out.1 (by omega) (H5.out.sub (L' := jR gj gd aj :: dsR gd ad :: blkR gs 73 (srvC gd gj gi a ring false) :: blkR gb 26 #[.pointer (some ⟨gs, 0, none⟩)] :: blkR ge 45 #[.int .i64 0] :: blkR gr 42 #[.int .i64 r.op, .int .i64 r.region, .int .i64 r.index, .int .u64 r.token, .int .u32 r.seq, .slice A1 n1 c1] :: imgR gi M :: L) (by (repeat (first | with_reducible exact Sub.refl _ | (with_reducible apply Sub.take; focus (repeat (first | with_reducible exact At.here | with_reducible apply At.there))) | with_reducible apply Sub.drop))))).mono ?_
      rintro e w6 ⟨rfl, h⟩
      clear y1 b0 x0 fe r0 r1 r2 r3 r4 r5
      have H6 := hide h
      clear h H5
      obtain ⟨_, y1, _, _, _, _, _⟩ := srv7 (H6.out.blkA (g := gs) (t := 73) (cs := (srvC gd gj gi a ring false)) (by (repeat (first | with_reducible exact At.here | with_reducible apply At.there))))
      have b0 := (H6.out.blkA (g := gb) (t := 26) (cs := #[.pointer (some ⟨gs, 0, none⟩)]) (by (repeat (first | with_reducible exact At.here | with_reducible apply At.there)))).cell 0
      have x0 := (H6.out.blkA (g := ge) (t := 45) (cs := #[.int .i64 0]) (by (repeat (first | with_reducible exact At.here | with_reducible apply At.there)))).cell 0
      have fe := (H6.out.blkA (g := ge) (t := 45) (cs := #[.int .i64 0]) (by (repeat (first | with_reducible exact At.here | with_reducible apply At.there)))).frozen
      obtain ⟨r0, r1, r2, r3, r4, r5⟩ := (H6.out.blkA (g := gr) (t := 42) (cs := #[.int .i64 r.op, .int .i64 r.region, .int .i64 r.index, .int .u64 r.token, .int .u32 r.seq, .slice A1 n1 c1]) (by (repeat (first | with_reducible exact At.here | with_reducible apply At.there)))).six
      have h6 := (H6.out.front (X := blkR ge 45 #[.int .i64 0]) (by (repeat (first | with_reducible exact At.here | with_reducible apply At.there)))).put_ 0 (.int .i64 0) #[.int .i64 0]
      have HC := hide (fun u => logd_st gs gd gj gi ge gb a ring ad.sync 0 u _ (h6.sub (L' := blkR gs 73 (srvC gd gj gi a ring false) :: blkR ge 45 #[.int .i64 0] :: blkR gb 26 #[.pointer (some ⟨gs, 0, none⟩)] :: dsR gd ad.sync :: jR gj gd aj :: imgR gi M :: L) (by (repeat (first | with_reducible exact Sub.refl _ | (with_reducible apply Sub.take; focus (repeat (first | with_reducible exact At.here | with_reducible apply At.there))) | with_reducible apply Sub.drop)))))
      clear h6
      go_wp2_with fail
      refine leaves_cons (f := 58) (args := #[.pointer (some ⟨gb, 0, none⟩), .pointer (some ⟨ge, 0, none⟩)]) (by simp) (by simp [go_sem]) ?_
      refine (HC.out _).mono ?_
      rintro e u' w9 ⟨rfl, rfl, h⟩
      have y0 := (h.blk 1 rfl).cell 0
      refine ⟨.int .i64 (if (ad.sync).down = true then 43 else 0), results_cell1 rfl _ rfl ?_, by rw [HBE.out, EE.out, ET.out]; try rfl, ?_⟩
      · go_simp
      · rw [HBE.out, EN.out, EJ.out, ED.out]
        exact h.sub (by (repeat (first | with_reducible exact Sub.refl _ | (with_reducible apply Sub.take; focus (repeat (first | with_reducible exact At.here | with_reducible apply At.there))) | with_reducible apply Sub.drop)))
end Go.Proofs.YtpaelngpmbeedaaGreatDoor
