/- commit.Checkpoint. Printed by gen_ckr.py out of ckr.in. -/
import Derived.Test.YtpaelngpmbeedaaGreatDoorCkOZ
namespace Go.Proofs.YtpaelngpmbeedaaGreatDoor
open Go.RowKit

def cpV (M : Nat → Rg) (D : DS) (a : Int) : Int := vSaveE D a (packI M)
def cpVD (M : Nat → Rg) (D : DS) (a : Int) : DS := vSaveD D a (packI M)
def cpE (M : Nat → Rg) (D : DS) (J : JM) (a : Int) : Int := if cpV M D a = 0 then saveE (cpVD M D a) J.at_ J.trim.slot else cpV M D a
def cpD (M : Nat → Rg) (D : DS) (J : JM) (a : Int) : DS := if cpV M D a = 0 then saveD (cpVD M D a) J.at_ J.trim.slot else cpVD M D a
def cpJ (M : Nat → Rg) (D : DS) (J : JM) (a : Int) : JM := if cpV M D a = 0 then J.trim else J
/-- a packed image fits -/
structure MOk (M : Nat → Rg) : Prop where
  ok : ∀ k, (M k).ok
  pl : (packI M).length ≤ 903
  pb : Bytes (packI M)
set_option maxHeartbeats 8000000 in
set_option maxRecDepth 100000 in
theorem cp_st {M0 : Imm} {L : List Res} (hT : Tbl M0) (gs gd gj gi kk : Nat) (a : Int) (ring : Nat) (M : Nat → Rg) (D : DS) (J : JM) (w : World) (hD : DsOk D kk) (hkk : kk ≤ 800000) (hM : MOk M) (hJ : JOk J) (hf : J.first + (J.held.length : Nat) ≤ 4000000000) (ha : 0 ≤ a ∧ a + 44 ≤ (D.n : Int)) (hj : 0 ≤ J.at_ ∧ J.at_ + 1 < (D.n : Int))
    (h : St M0 w (blkR gs 73 (srvC gd gj gi a ring false) :: jR gj gd J :: imgR gi M :: dsR gd D :: L)) :
    Calls Tryz.prog 17 #[.pointer (some ⟨gs, 0, none⟩)] w fun e w' => e = .returned (.int .i64 (cpE M D J a)) ∧ St M0 w' (blkR gs 73 (srvC gd gj gi a ring (cpE M D J a == 43)) :: jR gj gd (cpJ M D J a) :: imgR gi M :: dsR gd (cpD M D J a) :: L) := by
  have hmf : ∀ (fn : Fn) (first cap : Array Value) (w : World), (Instr.makeFunc fn first cap).run Tryz.prog w = .ok (.func fn first cap) w := fun _ _ _ _ => rfl
  have h1 := (h.alloc 26 #[.pointer (some ⟨gs, 0, none⟩)]).alloc 45 #[.int .i64 0]
  simp only [World.size_alloc] at h1
  obtain ⟨_, _, _, _, _, _, c6⟩ := srv7 (h1.blk 2 rfl)
  have HD := hide hD
  have HM := hide hM
  have HJ := hide hJ
  have HA := hide ha
  have HV := hide (vSave_ok a hD hM.pb hM.pl)
  have HT := hide (fun (D' : DS) (kk' : Nat) (L' : List Res) (w' : World) (hD' : DsOk D' kk') (hk' : kk' ≤ 900000) (hn : D'.n = D.n) (h' : St M0 w' (jR gj gd J :: dsR gd D' :: L')) => jTrim_st hT gj gd kk' D' J J.held.length w' rfl hD' hk' hJ hf (by rw [hn]; exact hj) h')
  have H1 := hide h1
  obtain ⟨gb, hgb⟩ : ∃ gb, gb = w.heap.size := ⟨_, rfl⟩
  rw [← hgb] at H1
  have HGB := hide hgb
  clear h h1 hD hM hJ hf ha hj hgb
  go_enter_defers Tryz.func17, Tryz.ntmps17
  go_wp2_with fail
  rw [← HGB.out]
  obtain ⟨ge, hge⟩ : ∃ ge, ge = gb + 1 := ⟨_, rfl⟩
  rw [← hge] at H1 ⊢
  obtain ⟨pk, hpk⟩ : ∃ pk, pk = packI M := ⟨_, rfl⟩
  obtain ⟨ve, hve⟩ : ∃ ve, ve = vSaveE D a pk := ⟨_, rfl⟩
  obtain ⟨vd, hvd⟩ : ∃ vd, vd = vSaveD D a pk := ⟨_, rfl⟩
  have E1 := hide (show cpV M D a = ve by rw [hve, hpk]; rfl)
  have E2 := hide (show cpVD M D a = vd by rw [hvd, hpk]; rfl)
  have HPL := hide (show pk.length ≤ 903 by rw [hpk]; exact HM.out.pl)
  have HPB := hide (show Bytes pk by rw [hpk]; exact HM.out.pb)
  rw [← hpk, ← hvd] at HV
  have HPK := hide hpk
  have HVE := hide hve
  have HVD := hide hvd
  have h0 := H1.out.sub (L' := blkR gs 73 (srvC gd gj gi a ring false) :: blkR gb 26 #[.pointer (some ⟨gs, 0, none⟩)] :: imgR gi M :: dsR gd D :: blkR ge 45 #[.int .i64 0] :: jR gj gd J :: L) (by (repeat (first | with_reducible exact Sub.refl _ | (with_reducible apply Sub.take; focus (repeat (first | with_reducible exact At.here | with_reducible apply At.there))) | with_reducible apply Sub.drop)))
  clear H1 hge hpk hve hvd c6
  refine region_flow (M0 := M0) (L0 := blkR ge 45 #[.int .i64 0] :: jR gj gd J :: L) [⟨none, none, fun e => blkR gs 73 (srvC gd gj gi a ring false)⟩, ⟨none, none, fun e => blkR gb 26 #[.pointer (some ⟨gs, 0, none⟩)]⟩, ⟨none, none, fun e => imgR gi M⟩, ⟨none, some 17, fun e => dsR gd D⟩, ⟨some 16, some 17, fun e => intsR .u8 (.slice (e 16).A pk.length (e 16).n) pk⟩, ⟨some 17, none, fun e => dsR gd vd⟩] [[], [0], [0, 1], [0, 1, 2], [], [4], [4, 5], [4, 5, 6], [], [8], [8, 9], [8, 9, 10], [], [12], [12, 13], [12, 13, 14], [12, 13, 14, 15], [0, 1, 2, 3, 4, 5, 6, 7, 8, 9, 10, 11, 12, 13, 14, 15, 16], [0, 1, 2, 3, 4, 5, 6, 7, 8, 9, 10, 11, 12, 13, 14, 15, 16, 17]] [0, 1, 2, 3, 4, 5, 6, 7, 8, 9, 10, 11, 12, 13, 14, 15, 16, 17, 18] rfl (by kernel_rfl) (by kernel_rfl) (by kernel_rfl) (by rfl) (fun _ => rfl) (show St M0 _ (blkR gs 73 (srvC gd gj gi a ring false) :: blkR gb 26 #[.pointer (some ⟨gs, 0, none⟩)] :: imgR gi M :: dsR gd D :: blkR ge 45 #[.int .i64 0] :: jR gj gd J :: L) from h0) ?_
  refine flow_run _ rfl (fun _ => rfl) (fun e wx Lx h => by (have h : St M0 wx (blkR gs 73 (srvC gd gj gi a ring false) :: blkR gb 26 #[.pointer (some ⟨gs, 0, none⟩)] :: imgR gi M :: dsR gd D :: Lx) := h; obtain ⟨y0, y1, y2, y3, y4, _, _⟩ := srv7 (h.blkA (g := gs) (t := 73) (cs := (srvC gd gj gi a ring false)) (by (repeat (first | with_reducible exact At.here | with_reducible apply At.there)))); have b0 := (h.blkA (g := gb) (t := 26) (cs := #[.pointer (some ⟨gs, 0, none⟩)]) (by (repeat (first | with_reducible exact At.here | with_reducible apply At.there)))).cell 0; go_simp; try rfl)) (by intro e; rfl) (by intro e; rfl) (by intro e x; rfl) ?_
  (simp only [Act.put, List.setIfInBounds_toArray, List.set_cons_succ, List.set_cons_zero])
  refine flow_run _ rfl (fun _ => rfl) (fun e wx Lx h => by (go_simp; try rfl)) (by intro e; rfl) (by intro e; rfl) (by intro e x; rfl) ?_
  (simp only [Act.put, List.setIfInBounds_toArray, List.set_cons_succ, List.set_cons_zero])
  refine flow_run _ rfl (fun _ => rfl) (fun e wx Lx h => by (go_simp; try rfl)) (by intro e; rfl) (by intro e; rfl) (by intro e x; rfl) ?_
  (simp only [Act.put, List.setIfInBounds_toArray, List.set_cons_succ, List.set_cons_zero])
  refine flow_run _ rfl (fun _ => rfl) (fun e wx Lx h => by (have h : St M0 wx (blkR gs 73 (srvC gd gj gi a ring false) :: blkR gb 26 #[.pointer (some ⟨gs, 0, none⟩)] :: imgR gi M :: dsR gd D :: Lx) := h; obtain ⟨y0, y1, y2, y3, y4, _, _⟩ := srv7 (h.blkA (g := gs) (t := 73) (cs := (srvC gd gj gi a ring false)) (by (repeat (first | with_reducible exact At.here | with_reducible apply At.there)))); have b0 := (h.blkA (g := gb) (t := 26) (cs := #[.pointer (some ⟨gs, 0, none⟩)]) (by (repeat (first | with_reducible exact At.here | with_reducible apply At.there)))).cell 0; go_simp; try rfl)) (by intro e; rfl) (by intro e; rfl) (by intro e x; rfl) ?_
  (simp only [Act.put, List.setIfInBounds_toArray, List.set_cons_succ, List.set_cons_zero])
  refine flow_run _ rfl (fun _ => rfl) (fun e wx Lx h => by (have h : St M0 wx (blkR gs 73 (srvC gd gj gi a ring false) :: blkR gb 26 #[.pointer (some ⟨gs, 0, none⟩)] :: imgR gi M :: dsR gd D :: Lx) := h; obtain ⟨y0, y1, y2, y3, y4, _, _⟩ := srv7 (h.blkA (g := gs) (t := 73) (cs := (srvC gd gj gi a ring false)) (by (repeat (first | with_reducible exact At.here | with_reducible apply At.there)))); have b0 := (h.blkA (g := gb) (t := 26) (cs := #[.pointer (some ⟨gs, 0, none⟩)]) (by (repeat (first | with_reducible exact At.here | with_reducible apply At.there)))).cell 0; go_simp; try rfl)) (by intro e; rfl) (by intro e; rfl) (by intro e x; rfl) ?_
  (simp only [Act.put, List.setIfInBounds_toArray, List.set_cons_succ, List.set_cons_zero])
  refine flow_run _ rfl (fun _ => rfl) (fun e wx Lx h => by (go_simp; try rfl)) (by intro e; rfl) (by intro e; rfl) (by intro e x; rfl) ?_
  (simp only [Act.put, List.setIfInBounds_toArray, List.set_cons_succ, List.set_cons_zero])
  refine flow_run _ rfl (fun _ => rfl) (fun e wx Lx h => by (go_simp; try rfl)) (by intro e; rfl) (by intro e; rfl) (by intro e x; rfl) ?_
  (simp only [Act.put, List.setIfInBounds_toArray, List.set_cons_succ, List.set_cons_zero])
  refine flow_run _ rfl (fun _ => rfl) (fun e wx Lx h => by (have h : St M0 wx (blkR gs 73 (srvC gd gj gi a ring false) :: blkR gb 26 #[.pointer (some ⟨gs, 0, none⟩)] :: imgR gi M :: dsR gd D :: Lx) := h; obtain ⟨y0, y1, y2, y3, y4, _, _⟩ := srv7 (h.blkA (g := gs) (t := 73) (cs := (srvC gd gj gi a ring false)) (by (repeat (first | with_reducible exact At.here | with_reducible apply At.there)))); have b0 := (h.blkA (g := gb) (t := 26) (cs := #[.pointer (some ⟨gs, 0, none⟩)]) (by (repeat (first | with_reducible exact At.here | with_reducible apply At.there)))).cell 0; go_simp; try rfl)) (by intro e; rfl) (by intro e; rfl) (by intro e x; rfl) ?_
  (simp only [Act.put, List.setIfInBounds_toArray, List.set_cons_succ, List.set_cons_zero])
  refine flow_run _ rfl (fun _ => rfl) (fun e wx Lx h => by (have h : St M0 wx (blkR gs 73 (srvC gd gj gi a ring false) :: blkR gb 26 #[.pointer (some ⟨gs, 0, none⟩)] :: imgR gi M :: dsR gd D :: Lx) := h; obtain ⟨y0, y1, y2, y3, y4, _, _⟩ := srv7 (h.blkA (g := gs) (t := 73) (cs := (srvC gd gj gi a ring false)) (by (repeat (first | with_reducible exact At.here | with_reducible apply At.there)))); have b0 := (h.blkA (g := gb) (t := 26) (cs := #[.pointer (some ⟨gs, 0, none⟩)]) (by (repeat (first | with_reducible exact At.here | with_reducible apply At.there)))).cell 0; go_simp; try rfl)) (by intro e; rfl) (by intro e; rfl) (by intro e x; rfl) ?_
  (simp only [Act.put, List.setIfInBounds_toArray, List.set_cons_succ, List.set_cons_zero])
  refine flow_run _ rfl (fun _ => rfl) (fun e wx Lx h => by (go_simp; try rfl)) (by intro e; rfl) (by intro e; rfl) (by intro e x; rfl) ?_
  (simp only [Act.put, List.setIfInBounds_toArray, List.set_cons_succ, List.set_cons_zero])
  refine flow_run _ rfl (fun _ => rfl) (fun e wx Lx h => by (go_simp; try rfl)) (by intro e; rfl) (by intro e; rfl) (by intro e x; rfl) ?_
  (simp only [Act.put, List.setIfInBounds_toArray, List.set_cons_succ, List.set_cons_zero])
  refine flow_run _ rfl (fun _ => rfl) (fun e wx Lx h => by (have h : St M0 wx (blkR gs 73 (srvC gd gj gi a ring false) :: blkR gb 26 #[.pointer (some ⟨gs, 0, none⟩)] :: imgR gi M :: dsR gd D :: Lx) := h; obtain ⟨y0, y1, y2, y3, y4, _, _⟩ := srv7 (h.blkA (g := gs) (t := 73) (cs := (srvC gd gj gi a ring false)) (by (repeat (first | with_reducible exact At.here | with_reducible apply At.there)))); have b0 := (h.blkA (g := gb) (t := 26) (cs := #[.pointer (some ⟨gs, 0, none⟩)]) (by (repeat (first | with_reducible exact At.here | with_reducible apply At.there)))).cell 0; go_simp; try rfl)) (by intro e; rfl) (by intro e; rfl) (by intro e x; rfl) ?_
  (simp only [Act.put, List.setIfInBounds_toArray, List.set_cons_succ, List.set_cons_zero])
  refine flow_run _ rfl (fun _ => rfl) (fun e wx Lx h => by (have h : St M0 wx (blkR gs 73 (srvC gd gj gi a ring false) :: blkR gb 26 #[.pointer (some ⟨gs, 0, none⟩)] :: imgR gi M :: dsR gd D :: Lx) := h; obtain ⟨y0, y1, y2, y3, y4, _, _⟩ := srv7 (h.blkA (g := gs) (t := 73) (cs := (srvC gd gj gi a ring false)) (by (repeat (first | with_reducible exact At.here | with_reducible apply At.there)))); have b0 := (h.blkA (g := gb) (t := 26) (cs := #[.pointer (some ⟨gs, 0, none⟩)]) (by (repeat (first | with_reducible exact At.here | with_reducible apply At.there)))).cell 0; go_simp; try rfl)) (by intro e; rfl) (by intro e; rfl) (by intro e x; rfl) ?_
  (simp only [Act.put, List.setIfInBounds_toArray, List.set_cons_succ, List.set_cons_zero])
  refine flow_run _ rfl (fun _ => rfl) (fun e wx Lx h => by (go_simp; try rfl)) (by intro e; rfl) (by intro e; rfl) (by intro e x; rfl) ?_
  (simp only [Act.put, List.setIfInBounds_toArray, List.set_cons_succ, List.set_cons_zero])
  refine flow_run _ rfl (fun _ => rfl) (fun e wx Lx h => by (go_simp; try rfl)) (by intro e; rfl) (by intro e; rfl) (by intro e x; rfl) ?_
  (simp only [Act.put, List.setIfInBounds_toArray, List.set_cons_succ, List.set_cons_zero])
  refine flow_run _ rfl (fun _ => rfl) (fun e wx Lx h => by (have h : St M0 wx (blkR gs 73 (srvC gd gj gi a ring false) :: blkR gb 26 #[.pointer (some ⟨gs, 0, none⟩)] :: imgR gi M :: dsR gd D :: Lx) := h; obtain ⟨y0, y1, y2, y3, y4, _, _⟩ := srv7 (h.blkA (g := gs) (t := 73) (cs := (srvC gd gj gi a ring false)) (by (repeat (first | with_reducible exact At.here | with_reducible apply At.there)))); have b0 := (h.blkA (g := gb) (t := 26) (cs := #[.pointer (some ⟨gs, 0, none⟩)]) (by (repeat (first | with_reducible exact At.here | with_reducible apply At.there)))).cell 0; go_simp; try rfl)) (by intro e; rfl) (by intro e; rfl) (by intro e x; rfl) ?_
  (simp only [Act.put, List.setIfInBounds_toArray, List.set_cons_succ, List.set_cons_zero])
  refine flow_call 15 (fun e => #[.pointer (some ⟨gi, 0, none⟩)]) (fun e => .slice (e 16).A pk.length (e 16).n) rfl (fun _ => rfl) (by intro e; rfl) (fun e wx => by (go_simp; try rfl)) (fun e wx Lx h => by (
    have h : St M0 wx (blkR gs 73 (srvC gd gj gi a ring false) :: blkR gb 26 #[.pointer (some ⟨gs, 0, none⟩)] :: imgR gi M :: dsR gd D :: Lx) := h
    refine (pack_st gi M _ HM.out.ok (h.front (X := imgR gi M) (by (repeat (first | with_reducible exact At.here | with_reducible apply At.there))))).mono ?_
    rintro u wy ⟨v, rfl, h1⟩
    obtain ⟨A', c', rfl⟩ := h1.slice
    have h2 := h1.ints
    rw [← HPK.out] at h2 ⊢
    have hk : St M0 wy (blkR gs 73 (srvC gd gj gi a ring false) :: blkR gb 26 #[.pointer (some ⟨gs, 0, none⟩)] :: imgR gi M :: dsR gd D :: intsR .u8 (.slice A' pk.length c') pk :: Lx) := h2.sub (by (repeat (first | with_reducible exact Sub.refl _ | (with_reducible apply Sub.take; focus (repeat (first | with_reducible exact At.here | with_reducible apply At.there))) | with_reducible apply Sub.drop)))
    exact ⟨⟨A', c', default⟩, rfl, hk⟩)) ?_
  (simp only [Act.put, List.setIfInBounds_toArray, List.set_cons_succ, List.set_cons_zero])
  refine flow_call 39 (fun e => #[.pointer (some ⟨gd, 0, none⟩), .int .i64 a, .int .i64 21, .slice (e 16).A pk.length (e 16).n]) (fun e => .int .i64 ve) rfl (fun _ => rfl) (by intro e; rfl) (fun e wx => by (go_simp; try rfl)) (fun e wx Lx h => by (
    have h : St M0 wx (blkR gs 73 (srvC gd gj gi a ring false) :: blkR gb 26 #[.pointer (some ⟨gs, 0, none⟩)] :: imgR gi M :: dsR gd D :: intsR .u8 (.slice (e 16).A pk.length (e 16).n) pk :: Lx) := h
    refine (vSave_st hT gd kk D a (e 16).A pk.length (e 16).n pk _ HD.out hkk HA.out HPL.out HPB.out ((h.front (X := intsR .u8 (.slice (e 16).A pk.length (e 16).n) pk) (by (repeat (first | with_reducible exact At.here | with_reducible apply At.there)))).front (X := dsR gd D) (by (repeat (first | with_reducible exact At.here | with_reducible apply At.there))))).mono ?_
    rintro u wy ⟨rfl, h1⟩
    rw [← HVD.out] at h1
    rw [← HVE.out]
    have hk : St M0 wy (blkR gs 73 (srvC gd gj gi a ring false) :: blkR gb 26 #[.pointer (some ⟨gs, 0, none⟩)] :: imgR gi M :: dsR gd vd :: Lx) := h1.sub (by (repeat (first | with_reducible exact Sub.refl _ | (with_reducible apply Sub.take; focus (repeat (first | with_reducible exact At.here | with_reducible apply At.there))) | with_reducible apply Sub.drop)))
    exact ⟨⟨none, 0, default⟩, rfl, hk⟩)) ?_
  (simp only [Act.put, List.setIfInBounds_toArray, List.set_cons_succ, List.set_cons_zero])
  refine flow_run _ rfl (fun _ => rfl) (fun e wx Lx h => by (go_simp; try rfl)) (by intro e; rfl) (by intro e; rfl) (by intro e x; rfl) ?_
  (simp only [Act.put, List.setIfInBounds_toArray, List.set_cons_succ, List.set_cons_zero])
  refine flow_nil ?_
  intro e w1 h
  have h : St M0 w1 (blkR gs 73 (srvC gd gj gi a ring false) :: blkR gb 26 #[.pointer (some ⟨gs, 0, none⟩)] :: imgR gi M :: dsR gd vd :: blkR ge 45 #[.int .i64 0] :: jR gj gd J :: L) := h
  obtain ⟨A16, hA16⟩ : ∃ A16, (e 16).A = A16 := ⟨_, rfl⟩
  obtain ⟨c16, hc16⟩ : ∃ c16, (e 16).n = c16 := ⟨_, rfl⟩
  have H4 := hide (h.sub (L' := blkR gs 73 (srvC gd gj gi a ring false) :: blkR gb 26 #[.pointer (some ⟨gs, 0, none⟩)] :: jR gj gd J :: dsR gd vd :: blkR ge 45 #[.int .i64 0] :: imgR gi M :: L) (by (repeat (first | with_reducible exact Sub.refl _ | (with_reducible apply Sub.take; focus (repeat (first | with_reducible exact At.here | with_reducible apply At.there))) | with_reducible apply Sub.drop))))
  clear h h0
  by_cases hz : ve = 0
  case neg =>
    have d0 : (ve != 0) = true := by simpa using hz
    have f := (H4.out.blkA (g := ge) (t := 45) (cs := #[.int .i64 0]) (by (repeat (first | with_reducible exact At.here | with_reducible apply At.there)))).frozen
    have x0 := (H4.out.blkA (g := ge) (t := 45) (cs := #[.int .i64 0]) (by (repeat (first | with_reducible exact At.here | with_reducible apply At.there)))).cell 0
    have h5 := (H4.out.front (X := blkR ge 45 #[.int .i64 0]) (by (repeat (first | with_reducible exact At.here | with_reducible apply At.there)))).put_ 0 (.int .i64 ve) #[.int .i64 ve]
    have HC := hide (fun u => cpd_st gs gd gj gi ge gb a ring false ve u _ (h5.sub (L' := blkR gs 73 (srvC gd gj gi a ring false) :: blkR ge 45 #[.int .i64 ve] :: blkR gb 26 #[.pointer (some ⟨gs, 0, none⟩)] :: jR gj gd J :: dsR gd vd :: imgR gi M :: L) (by (repeat (first | with_reducible exact Sub.refl _ | (with_reducible apply Sub.take; focus (repeat (first | with_reducible exact At.here | with_reducible apply At.there))) | with_reducible apply Sub.drop)))))
    have E3 := hide (show cpE M D J a = ve from (if_neg (by rw [E1.out]; exact hz)).trans E1.out)
    have E4 := hide (show cpD M D J a = vd from (if_neg (by rw [E1.out]; exact hz)).trans E2.out)
    have E5 := hide (show cpJ M D J a = J from if_neg (by rw [E1.out]; exact hz))
    clear hz h5
    go_wp2_with fail
    rw [hA16, hc16]
    clear hA16 hc16
    go_wp2_with fail
    refine leaves_cons (f := 38) (args := #[.pointer (some ⟨ge, 0, none⟩), .pointer (some ⟨gb, 0, none⟩)]) (by simp) (by simp [go_sem]) ?_
    refine (HC.out _).mono ?_
    rintro e u' w9 ⟨rfl, rfl, h⟩
    have y0 := (h.blk 1 rfl).cell 0
    refine ⟨.int .i64 ve, results_cell1 rfl _ rfl ?_, by rw [E3.out]; try rfl, ?_⟩
    · go_simp
    · rw [E3.out, E4.out, E5.out]
      exact h.sub (by (repeat (first | with_reducible exact Sub.refl _ | (with_reducible apply Sub.take; focus (repeat (first | with_reducible exact At.here | with_reducible apply At.there))) | with_reducible apply Sub.drop)))
  case pos =>
    obtain ⟨se, hse⟩ : ∃ se, se = saveE vd J.at_ J.trim.slot := ⟨_, rfl⟩
    obtain ⟨sd, hsd⟩ : ∃ sd, sd = saveD vd J.at_ J.trim.slot := ⟨_, rfl⟩
    have hz1 := E1.out.trans hz
    have E3 := hide (show cpE M D J a = se from (if_pos hz1).trans (by rw [hse, E2.out]))
    have E4 := hide (show cpD M D J a = sd from (if_pos hz1).trans (by rw [hsd, E2.out]))
    have E5 := hide (show cpJ M D J a = J.trim from if_pos hz1)
    have HSE := hide hse
    have HSD := hide hsd
    subst hz
    clear hse hsd hz1
    go_wp2_with fail
    rw [hA16, hc16]
    clear hA16 hc16
    go_wp2_with fail
    refine region_flow (M0 := M0) (L0 := imgR gi M :: L) [⟨none, none, fun e => blkR gs 73 (srvC gd gj gi a ring false)⟩, ⟨none, none, fun e => blkR gb 26 #[.pointer (some ⟨gs, 0, none⟩)]⟩, ⟨none, some 9, fun e => jR gj gd J⟩, ⟨none, some 9, fun e => dsR gd vd⟩, ⟨none, some 10, fun e => blkR ge 45 #[.int .i64 0]⟩, ⟨some 9, none, fun e => jR gj gd J.trim⟩, ⟨some 9, none, fun e => dsR gd sd⟩, ⟨some 10, none, fun e => blkR ge 45 #[.int .i64 se]⟩] [[], [0], [0, 1], [0, 1, 2], [], [4], [4, 5], [4, 5, 6], [4, 5, 6, 7], [0, 1, 2, 3, 4, 5, 6, 7, 8], [0, 1, 2, 3, 4, 5, 6, 7, 8, 9]] [0, 1, 2, 3, 4, 5, 6, 7, 8, 9, 10] rfl (by kernel_rfl) (by kernel_rfl) (by kernel_rfl) (by rfl) (fun _ => rfl) (show St M0 _ (blkR gs 73 (srvC gd gj gi a ring false) :: blkR gb 26 #[.pointer (some ⟨gs, 0, none⟩)] :: jR gj gd J :: dsR gd vd :: blkR ge 45 #[.int .i64 0] :: imgR gi M :: L) from H4.out.sub (by (repeat (first | with_reducible exact Sub.refl _ | (with_reducible apply Sub.take; focus (repeat (first | with_reducible exact At.here | with_reducible apply At.there))) | with_reducible apply Sub.drop)))) ?_
    refine flow_run _ rfl (fun _ => rfl) (fun e wx Lx h => by (have h : St M0 wx (blkR gs 73 (srvC gd gj gi a ring false) :: blkR gb 26 #[.pointer (some ⟨gs, 0, none⟩)] :: jR gj gd J :: dsR gd vd :: blkR ge 45 #[.int .i64 0] :: Lx) := h; obtain ⟨_, y1, _, _, _, _, _⟩ := srv7 (h.blkA (g := gs) (t := 73) (cs := (srvC gd gj gi a ring false)) (by (repeat (first | with_reducible exact At.here | with_reducible apply At.there)))); have b0 := (h.blkA (g := gb) (t := 26) (cs := #[.pointer (some ⟨gs, 0, none⟩)]) (by (repeat (first | with_reducible exact At.here | with_reducible apply At.there)))).cell 0; go_simp; try rfl)) (by intro e; rfl) (by intro e; rfl) (by intro e x; rfl) ?_
    (simp only [Act.put, List.setIfInBounds_toArray, List.set_cons_succ, List.set_cons_zero])
    refine flow_run _ rfl (fun _ => rfl) (fun e wx Lx h => by (go_simp; try rfl)) (by intro e; rfl) (by intro e; rfl) (by intro e x; rfl) ?_
    (simp only [Act.put, List.setIfInBounds_toArray, List.set_cons_succ, List.set_cons_zero])
    refine flow_run _ rfl (fun _ => rfl) (fun e wx Lx h => by (go_simp; try rfl)) (by intro e; rfl) (by intro e; rfl) (by intro e x; rfl) ?_
    (simp only [Act.put, List.setIfInBounds_toArray, List.set_cons_succ, List.set_cons_zero])
    refine flow_run _ rfl (fun _ => rfl) (fun e wx Lx h => by (have h : St M0 wx (blkR gs 73 (srvC gd gj gi a ring false) :: blkR gb 26 #[.pointer (some ⟨gs, 0, none⟩)] :: jR gj gd J :: dsR gd vd :: blkR ge 45 #[.int .i64 0] :: Lx) := h; obtain ⟨_, y1, _, _, _, _, _⟩ := srv7 (h.blkA (g := gs) (t := 73) (cs := (srvC gd gj gi a ring false)) (by (repeat (first | with_reducible exact At.here | with_reducible apply At.there)))); have b0 := (h.blkA (g := gb) (t := 26) (cs := #[.pointer (some ⟨gs, 0, none⟩)]) (by (repeat (first | with_reducible exact At.here | with_reducible apply At.there)))).cell 0; go_simp; try rfl)) (by intro e; rfl) (by intro e; rfl) (by intro e x; rfl) ?_
    (simp only [Act.put, List.setIfInBounds_toArray, List.set_cons_succ, List.set_cons_zero])
    refine flow_run _ rfl (fun _ => rfl) (fun e wx Lx h => by (have h : St M0 wx (blkR gs 73 (srvC gd gj gi a ring false) :: blkR gb 26 #[.pointer (some ⟨gs, 0, none⟩)] :: jR gj gd J :: dsR gd vd :: blkR ge 45 #[.int .i64 0] :: Lx) := h; obtain ⟨_, y1, _, _, _, _, _⟩ := srv7 (h.blkA (g := gs) (t := 73) (cs := (srvC gd gj gi a ring false)) (by (repeat (first | with_reducible exact At.here | with_reducible apply At.there)))); have b0 := (h.blkA (g := gb) (t := 26) (cs := #[.pointer (some ⟨gs, 0, none⟩)]) (by (repeat (first | with_reducible exact At.here | with_reducible apply At.there)))).cell 0; go_simp; try rfl)) (by intro e; rfl) (by intro e; rfl) (by intro e x; rfl) ?_
    (simp only [Act.put, List.setIfInBounds_toArray, List.set_cons_succ, List.set_cons_zero])
    refine flow_run _ rfl (fun _ => rfl) (fun e wx Lx h => by (go_simp; try rfl)) (by intro e; rfl) (by intro e; rfl) (by intro e x; rfl) ?_
    (simp only [Act.put, List.setIfInBounds_toArray, List.set_cons_succ, List.set_cons_zero])
    refine flow_run _ rfl (fun _ => rfl) (fun e wx Lx h => by (go_simp; try rfl)) (by intro e; rfl) (by intro e; rfl) (by intro e x; rfl) ?_
    (simp only [Act.put, List.setIfInBounds_toArray, List.set_cons_succ, List.set_cons_zero])
    refine flow_run _ rfl (fun _ => rfl) (fun e wx Lx h => by (have h : St M0 wx (blkR gs 73 (srvC gd gj gi a ring false) :: blkR gb 26 #[.pointer (some ⟨gs, 0, none⟩)] :: jR gj gd J :: dsR gd vd :: blkR ge 45 #[.int .i64 0] :: Lx) := h; obtain ⟨_, y1, _, _, _, _, _⟩ := srv7 (h.blkA (g := gs) (t := 73) (cs := (srvC gd gj gi a ring false)) (by (repeat (first | with_reducible exact At.here | with_reducible apply At.there)))); have b0 := (h.blkA (g := gb) (t := 26) (cs := #[.pointer (some ⟨gs, 0, none⟩)]) (by (repeat (first | with_reducible exact At.here | with_reducible apply At.there)))).cell 0; go_simp; try rfl)) (by intro e; rfl) (by intro e; rfl) (by intro e x; rfl) ?_
    (simp only [Act.put, List.setIfInBounds_toArray, List.set_cons_succ, List.set_cons_zero])
    refine flow_call 41 (fun e => #[.pointer (some ⟨gj, 0, none⟩)]) (fun e => .int .i64 (J.held.length : Nat)) rfl (fun _ => rfl) (by intro e; rfl) (fun e wx => by (go_simp; try rfl)) (fun e wx Lx h => by (
      have h : St M0 wx (blkR gs 73 (srvC gd gj gi a ring false) :: blkR gb 26 #[.pointer (some ⟨gs, 0, none⟩)] :: jR gj gd J :: dsR gd vd :: blkR ge 45 #[.int .i64 0] :: Lx) := h
      refine (jLen_st gj gd J _ (h.front (X := jR gj gd J) (by (repeat (first | with_reducible exact At.here | with_reducible apply At.there))))).mono ?_
      rintro u wy ⟨rfl, h1⟩
      have hk : St M0 wy (blkR gs 73 (srvC gd gj gi a ring false) :: blkR gb 26 #[.pointer (some ⟨gs, 0, none⟩)] :: jR gj gd J :: dsR gd vd :: blkR ge 45 #[.int .i64 0] :: Lx) := h1.sub (by (repeat (first | with_reducible exact Sub.refl _ | (with_reducible apply Sub.take; focus (repeat (first | with_reducible exact At.here | with_reducible apply At.there))) | with_reducible apply Sub.drop)))
      exact ⟨⟨none, 0, default⟩, rfl, hk⟩)) ?_
    (simp only [Act.put, List.setIfInBounds_toArray, List.set_cons_succ, List.set_cons_zero])
    refine flow_call 40 (fun e => #[.pointer (some ⟨gj, 0, none⟩), .int .i64 (J.held.length : Nat)]) (fun e => .int .i64 se) rfl (fun _ => rfl) (by intro e; rfl) (fun e wx => by (go_simp; try rfl)) (fun e wx Lx h => by (
      have h : St M0 wx (blkR gs 73 (srvC gd gj gi a ring false) :: blkR gb 26 #[.pointer (some ⟨gs, 0, none⟩)] :: jR gj gd J :: dsR gd vd :: blkR ge 45 #[.int .i64 0] :: Lx) := h
      refine (HT.out vd (kk + 22) _ _ HV.out.1 (by omega) HV.out.2 ((h.front (X := dsR gd vd) (by (repeat (first | with_reducible exact At.here | with_reducible apply At.there)))).front (X := jR gj gd J) (by (repeat (first | with_reducible exact At.here | with_reducible apply At.there))))).mono ?_
      rintro u wy ⟨rfl, h1⟩
      rw [← HSD.out] at h1
      rw [← HSE.out]
      have hk : St M0 wy (blkR gs 73 (srvC gd gj gi a ring false) :: blkR gb 26 #[.pointer (some ⟨gs, 0, none⟩)] :: blkR ge 45 #[.int .i64 0] :: jR gj gd J.trim :: dsR gd sd :: Lx) := h1.sub (by (repeat (first | with_reducible exact Sub.refl _ | (with_reducible apply Sub.take; focus (repeat (first | with_reducible exact At.here | with_reducible apply At.there))) | with_reducible apply Sub.drop)))
      exact ⟨⟨none, 0, default⟩, rfl, hk⟩)) ?_
    (simp only [Act.put, List.setIfInBounds_toArray, List.set_cons_succ, List.set_cons_zero])
    refine flow_store _ _ _ (fun e => .pointer (some ⟨ge, 0, none⟩)) (fun e => .int .i64 se) rfl (fun _ => rfl) rfl (fun _ => rfl) (fun _ => rfl) (fun e wx Lx h => by (
      have h : St M0 wx (blkR gs 73 (srvC gd gj gi a ring false) :: blkR gb 26 #[.pointer (some ⟨gs, 0, none⟩)] :: blkR ge 45 #[.int .i64 0] :: jR gj gd J.trim :: dsR gd sd :: Lx) := h
      have x0 := (h.blkA (g := ge) (t := 45) (cs := #[.int .i64 0]) (by (repeat (first | with_reducible exact At.here | with_reducible apply At.there)))).cell 0
      have f := (h.blkA (g := ge) (t := 45) (cs := #[.int .i64 0]) (by (repeat (first | with_reducible exact At.here | with_reducible apply At.there)))).frozen
      have h1 := (h.front (X := blkR ge 45 #[.int .i64 0]) (by (repeat (first | with_reducible exact At.here | with_reducible apply At.there)))).put_ 0 (.int .i64 se) #[.int .i64 se]
      have hk : St M0 _ (blkR gs 73 (srvC gd gj gi a ring false) :: blkR gb 26 #[.pointer (some ⟨gs, 0, none⟩)] :: jR gj gd J.trim :: dsR gd sd :: blkR ge 45 #[.int .i64 se] :: Lx) := h1.sub (by (repeat (first | with_reducible exact Sub.refl _ | (with_reducible apply Sub.take; focus (repeat (first | with_reducible exact At.here | with_reducible apply At.there))) | with_reducible apply Sub.drop)))
      exact ⟨_, (by (go_simp; try rfl)), hk⟩)) ?_
    simp only [Act.put]
    refine flow_nil ?_
    intro e w1 h
    have h : St M0 w1 (blkR gs 73 (srvC gd gj gi a ring false) :: blkR gb 26 #[.pointer (some ⟨gs, 0, none⟩)] :: jR gj gd J.trim :: dsR gd sd :: blkR ge 45 #[.int .i64 se] :: imgR gi M :: L) := h
    have HC := hide (fun u => cpd_st gs gd gj gi ge gb a ring false se u _ (h.sub (L' := blkR gs 73 (srvC gd gj gi a ring false) :: blkR ge 45 #[.int .i64 se] :: blkR gb 26 #[.pointer (some ⟨gs, 0, none⟩)] :: jR gj gd J.trim :: dsR gd sd :: imgR gi M :: L) (by (repeat (first | with_reducible exact Sub.refl _ | (with_reducible apply Sub.take; focus (repeat (first | with_reducible exact At.here | with_reducible apply At.there))) | with_reducible apply Sub.drop)))))
    clear h H4
    go_wp2_with fail
    refine leaves_cons (f := 38) (args := #[.pointer (some ⟨ge, 0, none⟩), .pointer (some ⟨gb, 0, none⟩)]) (by simp) (by simp [go_sem]) ?_
    refine (HC.out _).mono ?_
    rintro e u' w9 ⟨rfl, rfl, h⟩
    have y0 := (h.blk 1 rfl).cell 0
    refine ⟨.int .i64 se, results_cell1 rfl _ rfl ?_, by rw [E3.out]; try rfl, ?_⟩
    · go_simp
    · rw [E3.out, E4.out, E5.out]
      exact h.sub (by (repeat (first | with_reducible exact Sub.refl _ | (with_reducible apply Sub.take; focus (repeat (first | with_reducible exact At.here | with_reducible apply At.there))) | with_reducible apply Sub.drop)))
end Go.Proofs.YtpaelngpmbeedaaGreatDoor
