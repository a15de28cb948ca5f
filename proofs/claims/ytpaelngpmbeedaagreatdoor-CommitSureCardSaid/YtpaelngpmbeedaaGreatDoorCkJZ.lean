/- journal: plain; next, sector, Len, Sync, save, meta. -/
import Derived.Test.YtpaelngpmbeedaaGreatDoorCkZ
namespace Go.Proofs.YtpaelngpmbeedaaGreatDoor
open Go.RowKit

/-! ### plain -/
abbrev RecJ := Int × List Int
structure JM where
  at_ : Int
  n : Nat
  first : Int
  ep : Int
  low : Int
  held : List RecJ
def JM.next (J : JM) : Int := J.first + (J.held.length : Nat)
def JM.sec (J : JM) (q : Int) : Int := J.at_ + 2 + q % (J.n : Nat)
def JM.slot (J : JM) : List Int := numB J.first 4 ++ numB J.ep 4 ++ numB J.low 4
/-- the numbers are numbers, and small enough -/
structure JOk (J : JM) : Prop where
  a0 : 0 ≤ J.at_ ∧ J.at_ ≤ 1000
  n0 : 1 ≤ J.n ∧ J.n ≤ 100
  f0 : 0 ≤ J.first ∧ J.first ≤ 4000000000
  e0 : 0 ≤ J.ep ∧ J.ep < 4294967296
  l0 : 0 ≤ J.low ∧ J.low < 4294967296
  h0 : J.held.length ≤ J.n
  b0 : ∀ x ∈ J.held, x.2.length ≤ 43 ∧ Bytes x.2 ∧ 0 ≤ x.1 ∧ x.1 < 4294967296

/-! ### in memory -/
structure SJ where
  a : Option Addr
  n : Nat
  c : Nat
def RecJR (w : World) (cs : List Value) (x : RecJ) : Prop := ∃ A c, cs = [.int .u32 x.1, .slice A x.2.length c] ∧ Ints w .u8 (.slice A x.2.length c) x.2
def jC (gd : Nat) (J : JM) (v : SJ) : Array Value := #[.pointer (some ⟨gd, 0, none⟩), .int .i64 J.at_, .int .i64 (J.n : Nat), .int .u32 J.first, .int .u32 J.ep, .int .u32 J.low, .slice v.a v.n v.c]
def jR (g gd : Nat) (J : JM) : Res := exR fun v : SJ => starR (blkR g 137 (jC gd J v)) (growR 158 2 RecJR (.slice v.a v.n v.c) J.held)
theorem St.jO {M0 : Imm} {w : World} {L : List Res} {g gd : Nat} {J : JM} (h : St M0 w (jR g gd J :: L)) : ∃ A c, St M0 w (blkR g 137 #[.pointer (some ⟨gd, 0, none⟩), .int .i64 J.at_, .int .i64 (J.n : Nat), .int .u32 J.first, .int .u32 J.ep, .int .u32 J.low, .slice A J.held.length c] :: growR 158 2 RecJR (.slice A J.held.length c) J.held :: L) := by
  obtain ⟨⟨A, n, c⟩, h⟩ := h.ex
  have h1 := h.star
  obtain ⟨_, hn, _, _⟩ := h1.swap.openGrowS
  have hn : n = J.held.length := hn
  subst hn
  exact ⟨A, c, h1⟩
theorem St.jC_ {M0 : Imm} {w : World} {L : List Res} {g gd : Nat} {J : JM} {A : Option Addr} {n c : Nat} (h : St M0 w (blkR g 137 #[.pointer (some ⟨gd, 0, none⟩), .int .i64 J.at_, .int .i64 (J.n : Nat), .int .u32 J.first, .int .u32 J.ep, .int .u32 J.low, .slice A n c] :: growR 158 2 RecJR (.slice A n c) J.held :: L)) : St M0 w (jR g gd J :: L) :=
  St.addEx (f := fun v : SJ => starR (blkR g 137 (jC gd J v)) (growR 158 2 RecJR (.slice v.a v.n v.c) J.held)) ⟨A, n, c⟩ h.addStar

/-! ### the walks -/
set_option maxHeartbeats 400000 in
theorem next_q (g gd : Nat) (a : Int) (nn : Nat) (f e l : Int) (A : Option Addr) (k c : Nat) (w : World) (hf : 0 ≤ f ∧ f < 4294967296) (hk : k ≤ 1000) (hb : Blk w g 137 #[.pointer (some ⟨gd, 0, none⟩), .int .i64 a, .int .i64 (nn : Nat), .int .u32 f, .int .u32 e, .int .u32 l, .slice A k c]) :
    Calls Tryz.prog 93 #[.pointer (some ⟨g, 0, none⟩)] w fun u w' => u = .returned (.int .u64 (f + (k : Nat))) ∧ ∃ n, w' = w.drewN n := by
  have c3 := hb.cell 3
  have c6 := hb.cell 6
  have w3 : IntKind.u64.wrap f = f := u32_u64 hf
  have w6 : IntKind.u64.wrap (k : Int) = (k : Int) := IntWalk.u64_in _ (by omega)
  have w7 : IntKind.u64.wrap (f + (k : Int)) = f + (k : Int) := IntWalk.u64_in _ (by omega)
  clear hb hf
  go_enter Tryz.func93, Tryz.ntmps93
  go_wp2_with fail
  go_quiet (fail)
  go_wp2_with fail
  go_ret
  exact ⟨rfl, _, rfl⟩
set_option maxHeartbeats 400000 in
theorem sector_q (g gd : Nat) (a : Int) (nn : Nat) (f e l q : Int) (A : Option Addr) (k c : Nat) (w : World) (hq : 0 ≤ q ∧ q < 4294967296) (ha : 0 ≤ a ∧ a ≤ 1000) (hn : 1 ≤ nn ∧ nn ≤ 100) (hb : Blk w g 137 #[.pointer (some ⟨gd, 0, none⟩), .int .i64 a, .int .i64 (nn : Nat), .int .u32 f, .int .u32 e, .int .u32 l, .slice A k c]) :
    Calls Tryz.prog 94 #[.pointer (some ⟨g, 0, none⟩), .int .u32 q] w fun u w' => u = .returned (.int .i64 (a + 2 + q % (nn : Nat))) ∧ ∃ n, w' = w.drewN n := by
  have c1 := hb.cell 1
  have c2 := hb.cell 2
  have w1 : IntKind.i64.wrap (a + 2) = a + 2 := IntWalk.i64_in _ (by omega)
  have w2 : IntKind.u32.wrap (nn : Int) = (nn : Int) := u64_u32 (by omega)
  have w3 : IntKind.u32.wrap (q % (nn : Int)) = q % (nn : Int) := u64_u32 (by have := Int.emod_lt_of_pos q (show (0 : Int) < (nn : Int) by omega); have := Int.emod_nonneg q (show (nn : Int) ≠ 0 by omega); omega)
  have w4 : IntKind.i64.wrap (q % (nn : Int)) = q % (nn : Int) := IntWalk.i64_in _ (by have := Int.emod_lt_of_pos q (show (0 : Int) < (nn : Int) by omega); have := Int.emod_nonneg q (show (nn : Int) ≠ 0 by omega); omega)
  have w5 : IntKind.i64.wrap (a + 2 + q % (nn : Int)) = a + 2 + q % (nn : Int) := IntWalk.i64_in _ (by have := Int.emod_lt_of_pos q (show (0 : Int) < (nn : Int) by omega); have := Int.emod_nonneg q (show (nn : Int) ≠ 0 by omega); omega)
  have hnz : ((nn : Int) == 0) = false := isF (by omega)
  have hnz2 : ¬ (nn : Int) = 0 := by omega
  have hnz3 : ¬ nn = 0 := by omega
  clear hb
  go_enter Tryz.func94, Tryz.ntmps94
  go_wp2_with fail
  go_quiet (fail)
  go_wp2_with fail
  go_ret
  exact ⟨rfl, _, rfl⟩
end Go.Proofs.YtpaelngpmbeedaaGreatDoor
/- journal: Len, Sync, save, meta. Printed by gen_ckj.py out of ckj.in. -/
namespace Go.Proofs.YtpaelngpmbeedaaGreatDoor
open Go.RowKit

theorem St.addStarJ {M0 : Imm} {w : World} {L : List Res} {g gd : Nat} {ja : Int} {jn : Nat} {jf je jl : Int} {hl : List RecJ} {A : Option Addr} {k c : Nat} (h : St M0 w (blkR g 137 #[.pointer (some ⟨gd, 0, none⟩), .int .i64 ja, .int .i64 (jn : Nat), .int .u32 jf, .int .u32 je, .int .u32 jl, .slice A k c] :: growR 158 2 RecJR (.slice A k c) hl :: L)) : St M0 w (jR g gd ⟨ja, jn, jf, je, jl, hl⟩ :: L) := St.jC_ (J := ⟨ja, jn, jf, je, jl, hl⟩) h
set_option maxHeartbeats 400000 in
theorem jLen_st {M0 : Imm} {L : List Res} (g gd : Nat) (J : JM) (w : World) (h : St M0 w (jR g gd J :: L)) :
    Calls Tryz.prog 41 #[.pointer (some ⟨g, 0, none⟩)] w fun e w' => e = .returned (.int .i64 (J.held.length : Nat)) ∧ St M0 w' (jR g gd J :: L) := by
  obtain ⟨A, c, h1⟩ := h.jO
  have c6 := (h1.blk 0 rfl).cell 6
  have H := hide h
  clear h h1
  go_enter Tryz.func41, Tryz.ntmps41
  go_wp2_with fail
  go_ret
  exact ⟨rfl, H.out⟩
set_option maxHeartbeats 400000 in
theorem jSync_st {M0 : Imm} {L : List Res} (g gd k : Nat) (D : DS) (J : JM) (w : World) (hD : DsOk D k) (hk : k ≤ 900000) (h : St M0 w (jR g gd J :: dsR gd D :: L)) :
    Calls Tryz.prog 62 #[.pointer (some ⟨g, 0, none⟩)] w fun e w' => e = .returned (.tuple #[]) ∧ St M0 w' (jR g gd J :: dsR gd D.sync :: L) := by
  obtain ⟨A, c, h1⟩ := h.jO
  have c0 := (h1.blk 0 rfl).cell 0
  have HD := hide hD
  have H := hide h.swap
  clear h h1 hD
  go_enter Tryz.func62, Tryz.ntmps62
  go_wp2_with fail
  refine (sync_ds HD.out.ok (by have := HD.out.p; omega) H.out).mono ?_
  rintro e w1 ⟨rfl, h⟩
  have H1 := hide h.swap
  clear h H c0
  go_wp2_with fail
  go_end0
  exact ⟨rfl, H1.out⟩
set_option maxHeartbeats 4000000 in
set_option maxRecDepth 100000 in
theorem jSave_st {M0 : Imm} {L : List Res} (hT : Tbl M0) (g gd kk : Nat) (D : DS) (J : JM) (w : World) (hD : DsOk D kk) (hkk : kk ≤ 900000) (hJ : JOk J) (ha : 0 ≤ J.at_ ∧ J.at_ + 1 < (D.n : Int)) (h : St M0 w (jR g gd J :: dsR gd D :: L)) :
    Calls Tryz.prog 73 #[.pointer (some ⟨g, 0, none⟩)] w fun e w' => e = .returned (.int .i64 (saveE D J.at_ J.slot)) ∧ St M0 w' (jR g gd J :: dsR gd (saveD D J.at_ J.slot) :: L) := by
  obtain ⟨A, c, h1⟩ := h.jO
  have r3 := hJ.f0
  have v3 : IntKind.u64.wrap J.first = J.first := IntWalk.u64_in _ (by omega)
  have v4 : IntKind.u64.wrap J.ep = J.ep := u32_u64 hJ.e0
  have v5 : IntKind.u64.wrap J.low = J.low := u32_u64 hJ.l0
  obtain ⟨ja, jn, jf, je, jl, hl⟩ := J
  have v3 : IntKind.u64.wrap jf = jf := v3
  have v4 : IntKind.u64.wrap je = je := v4
  have v5 : IntKind.u64.wrap jl = jl := v5
  have HA : Hid (0 ≤ ja ∧ ja + 1 < (D.n : Int)) := ha
  have HD := hide hD
  have E : Hid (JM.slot ⟨ja, jn, jf, je, jl, hl⟩ = numB jf 4 ++ numB je 4 ++ numB jl 4) := rfl
  have h1 : St M0 w (blkR g 137 #[.pointer (some ⟨gd, 0, none⟩), .int .i64 ja, .int .i64 (jn : Nat), .int .u32 jf, .int .u32 je, .int .u32 jl, .slice A hl.length c] :: growR 158 2 RecJR (.slice A hl.length c) hl :: dsR gd D :: L) := h1
  generalize hl.length = k at h1
  have h2 := h1.newWr
  obtain ⟨gw, hgw⟩ : ∃ gw, gw = w.heap.size := ⟨_, rfl⟩
  rw [← hgw] at h2
  have c3 := (h2.blk 1 rfl).cell 3
  have H := hide h2
  have HG := hide hgw
  clear h h1 h2 hD hJ ha r3 hgw
  go_enter Tryz.func73, Tryz.ntmps73
  go_wp2_with fail
  rw [← HG.out]
  refine (num_st gw jf 4 [] _ (by simp) H.out).mono ?_
  rintro e w1 ⟨rfl, h⟩
  rw [numI4, List.nil_append] at h
  have c4 := (h.blk 1 rfl).cell 4
  have H1 := hide h
  clear h H c3 HG
  go_wp2_with fail
  refine (num_st gw je 4 _ _ (by simp only [numB_length]; omega) H1.out).mono ?_
  rintro e w2 ⟨rfl, h⟩
  rw [numI4] at h
  have c5 := (h.blk 1 rfl).cell 5
  have H2 := hide h
  clear h H1 c4
  go_wp2_with fail
  refine (num_st gw jl 4 _ _ (by simp only [List.length_append, numB_length]; omega) H2.out).mono ?_
  rintro e w3 ⟨rfl, h⟩
  rw [numI4] at h
  obtain ⟨xs, hxs⟩ : ∃ xs, xs = numB jf 4 ++ numB je 4 ++ numB jl 4 := ⟨_, rfl⟩
  rw [← hxs] at h
  have HXL := hide (show xs.length = 12 by rw [hxs]; simp only [List.length_append, numB_length])
  have HXB := hide (show Bytes xs by rw [hxs]; exact ((numB_bytes _ _).append (numB_bytes _ _)).append (numB_bytes _ _))
  have E : Hid (JM.slot ⟨ja, jn, jf, je, jl, hl⟩ = xs) := by rw [hxs]; exact E.out
  have h0 := h.sub (L' := blkR g 137 #[.pointer (some ⟨gd, 0, none⟩), .int .i64 ja, .int .i64 (jn : Nat), .int .u32 jf, .int .u32 je, .int .u32 jl, .slice A k c] :: wrR gw xs :: dsR gd D :: growR 158 2 RecJR (.slice A k c) hl :: L) (by (repeat (first | with_reducible exact Sub.refl _ | (with_reducible apply Sub.take; focus (repeat (first | with_reducible exact At.here | with_reducible apply At.there))) | with_reducible apply Sub.drop)))
  clear h H2 c5 hxs v3 v4 v5
  go_wp2_with fail
  refine region_flow (M0 := M0) (L0 := growR 158 2 RecJR (.slice A k c) hl :: L) [⟨none, none, fun e => blkR g 137 #[.pointer (some ⟨gd, 0, none⟩), .int .i64 ja, .int .i64 (jn : Nat), .int .u32 jf, .int .u32 je, .int .u32 jl, .slice A k c]⟩, ⟨none, none, fun e => wrR gw xs⟩, ⟨none, some 9, fun e => dsR gd D⟩, ⟨some 8, some 9, fun e => intsR .u8 (.slice (e 8).A 12 (e 8).n) xs⟩, ⟨some 9, none, fun e => dsR gd (saveD D ja xs)⟩] [[], [0], [0, 1], [0, 1, 2], [], [4], [4, 5], [4, 5, 6], [], [0, 1, 2, 3, 4, 5, 6, 7, 8], [0, 1, 2, 3, 4, 5, 6, 7, 8, 9]] [0, 1, 2, 3, 4, 5, 6, 7, 8, 9, 10] rfl (by kernel_rfl) (by kernel_rfl) (by kernel_rfl) (by rfl) (fun _ => rfl) (show St M0 _ (blkR g 137 #[.pointer (some ⟨gd, 0, none⟩), .int .i64 ja, .int .i64 (jn : Nat), .int .u32 jf, .int .u32 je, .int .u32 jl, .slice A k c] :: wrR gw xs :: dsR gd D :: growR 158 2 RecJR (.slice A k c) hl :: L) from h0) ?_
  refine flow_run _ rfl (fun _ => rfl) (fun e wx Lx h => by (go_simp; try rfl)) (by intro e; rfl) (by intro e; rfl) (by intro e x; rfl) ?_
  (simp only [Act.put, List.setIfInBounds_toArray, List.set_cons_succ, List.set_cons_zero])
  refine flow_run _ rfl (fun _ => rfl) (fun e wx Lx h => by (go_simp; try rfl)) (by intro e; rfl) (by intro e; rfl) (by intro e x; rfl) ?_
  (simp only [Act.put, List.setIfInBounds_toArray, List.set_cons_succ, List.set_cons_zero])
  refine flow_run _ rfl (fun _ => rfl) (fun e wx Lx h => by (go_simp; try rfl)) (by intro e; rfl) (by intro e; rfl) (by intro e x; rfl) ?_
  (simp only [Act.put, List.setIfInBounds_toArray, List.set_cons_succ, List.set_cons_zero])
  refine flow_run _ rfl (fun _ => rfl) (fun e wx Lx h => by (have h : St M0 wx (blkR g 137 #[.pointer (some ⟨gd, 0, none⟩), .int .i64 ja, .int .i64 (jn : Nat), .int .u32 jf, .int .u32 je, .int .u32 jl, .slice A k c] :: wrR gw xs :: dsR gd D :: Lx) := h; have y0 := (h.blkA (g := g) (t := 137) (cs := #[.pointer (some ⟨gd, 0, none⟩), .int .i64 ja, .int .i64 (jn : Nat), .int .u32 jf, .int .u32 je, .int .u32 jl, .slice A k c]) (by (repeat (first | with_reducible exact At.here | with_reducible apply At.there)))).cell 0; have y1 := (h.blkA (g := g) (t := 137) (cs := #[.pointer (some ⟨gd, 0, none⟩), .int .i64 ja, .int .i64 (jn : Nat), .int .u32 jf, .int .u32 je, .int .u32 jl, .slice A k c]) (by (repeat (first | with_reducible exact At.here | with_reducible apply At.there)))).cell 1; go_simp; try rfl)) (by intro e; rfl) (by intro e; rfl) (by intro e x; rfl) ?_
  (simp only [Act.put, List.setIfInBounds_toArray, List.set_cons_succ, List.set_cons_zero])
  refine flow_run _ rfl (fun _ => rfl) (fun e wx Lx h => by (go_simp; try rfl)) (by intro e; rfl) (by intro e; rfl) (by intro e x; rfl) ?_
  (simp only [Act.put, List.setIfInBounds_toArray, List.set_cons_succ, List.set_cons_zero])
  refine flow_run _ rfl (fun _ => rfl) (fun e wx Lx h => by (go_simp; try rfl)) (by intro e; rfl) (by intro e; rfl) (by intro e x; rfl) ?_
  (simp only [Act.put, List.setIfInBounds_toArray, List.set_cons_succ, List.set_cons_zero])
  refine flow_run _ rfl (fun _ => rfl) (fun e wx Lx h => by (go_simp; try rfl)) (by intro e; rfl) (by intro e; rfl) (by intro e x; rfl) ?_
  (simp only [Act.put, List.setIfInBounds_toArray, List.set_cons_succ, List.set_cons_zero])
  refine flow_run _ rfl (fun _ => rfl) (fun e wx Lx h => by (have h : St M0 wx (blkR g 137 #[.pointer (some ⟨gd, 0, none⟩), .int .i64 ja, .int .i64 (jn : Nat), .int .u32 jf, .int .u32 je, .int .u32 jl, .slice A k c] :: wrR gw xs :: dsR gd D :: Lx) := h; have y0 := (h.blkA (g := g) (t := 137) (cs := #[.pointer (some ⟨gd, 0, none⟩), .int .i64 ja, .int .i64 (jn : Nat), .int .u32 jf, .int .u32 je, .int .u32 jl, .slice A k c]) (by (repeat (first | with_reducible exact At.here | with_reducible apply At.there)))).cell 0; have y1 := (h.blkA (g := g) (t := 137) (cs := #[.pointer (some ⟨gd, 0, none⟩), .int .i64 ja, .int .i64 (jn : Nat), .int .u32 jf, .int .u32 je, .int .u32 jl, .slice A k c]) (by (repeat (first | with_reducible exact At.here | with_reducible apply At.there)))).cell 1; go_simp; try rfl)) (by intro e; rfl) (by intro e; rfl) (by intro e x; rfl) ?_
  (simp only [Act.put, List.setIfInBounds_toArray, List.set_cons_succ, List.set_cons_zero])
  refine flow_call 37 (fun e => #[.pointer (some ⟨gw, 0, none⟩)]) (fun e => .slice (e 8).A 12 (e 8).n) rfl (fun _ => rfl) (by intro e; rfl) (fun e wx => by (go_simp; try rfl)) (fun e wx Lx h => by (
    have h : St M0 wx (blkR g 137 #[.pointer (some ⟨gd, 0, none⟩), .int .i64 ja, .int .i64 (jn : Nat), .int .u32 jf, .int .u32 je, .int .u32 jl, .slice A k c] :: wrR gw xs :: dsR gd D :: Lx) := h
    refine (out_st gw xs _ (by have := HXL.out; omega) (h.front (X := wrR gw xs) (by (repeat (first | with_reducible exact At.here | with_reducible apply At.there))))).mono ?_
    rintro u wy ⟨v, rfl, h1⟩
    obtain ⟨A', c', rfl⟩ := h1.slice
    rw [HXL.out] at h1 ⊢
    have h2 := St.ints (k := .u8) (xs := xs) h1
    have hk : St M0 wy (blkR g 137 #[.pointer (some ⟨gd, 0, none⟩), .int .i64 ja, .int .i64 (jn : Nat), .int .u32 jf, .int .u32 je, .int .u32 jl, .slice A k c] :: wrR gw xs :: dsR gd D :: intsR .u8 (.slice A' 12 c') xs :: Lx) := h2.sub (by (repeat (first | with_reducible exact Sub.refl _ | (with_reducible apply Sub.take; focus (repeat (first | with_reducible exact At.here | with_reducible apply At.there))) | with_reducible apply Sub.drop)))
    exact ⟨⟨A', c', default⟩, rfl, hk⟩)) ?_
  (simp only [Act.put, List.setIfInBounds_toArray, List.set_cons_succ, List.set_cons_zero])
  refine flow_call 84 (fun e => #[.pointer (some ⟨gd, 0, none⟩), .int .i64 ja, .slice (e 8).A 12 (e 8).n]) (fun e => .int .i64 (saveE D ja xs)) rfl (fun _ => rfl) (by intro e; rfl) (fun e wx => by (go_simp; try rfl)) (fun e wx Lx h => by (
    have h : St M0 wx (blkR g 137 #[.pointer (some ⟨gd, 0, none⟩), .int .i64 ja, .int .i64 (jn : Nat), .int .u32 jf, .int .u32 je, .int .u32 jl, .slice A k c] :: wrR gw xs :: dsR gd D :: intsR .u8 (.slice (e 8).A 12 (e 8).n) xs :: Lx) := h
    refine (slSave_st hT gd kk D ja (e 8).A 12 (e 8).n xs _ HD.out hkk HA.out (by omega) HXB.out ((h.front (X := intsR .u8 (.slice (e 8).A 12 (e 8).n) xs) (by (repeat (first | with_reducible exact At.here | with_reducible apply At.there)))).front (X := dsR gd D) (by (repeat (first | with_reducible exact At.here | with_reducible apply At.there))))).mono ?_
    rintro u wy ⟨rfl, h1⟩
    have hk : St M0 wy (blkR g 137 #[.pointer (some ⟨gd, 0, none⟩), .int .i64 ja, .int .i64 (jn : Nat), .int .u32 jf, .int .u32 je, .int .u32 jl, .slice A k c] :: wrR gw xs :: dsR gd (saveD D ja xs) :: Lx) := h1.sub (by (repeat (first | with_reducible exact Sub.refl _ | (with_reducible apply Sub.take; focus (repeat (first | with_reducible exact At.here | with_reducible apply At.there))) | with_reducible apply Sub.drop)))
    exact ⟨⟨none, 0, default⟩, rfl, hk⟩)) ?_
  (simp only [Act.put, List.setIfInBounds_toArray, List.set_cons_succ, List.set_cons_zero])
  refine flow_run _ rfl (fun _ => rfl) (fun e wx Lx h => by (go_simp; try rfl)) (by intro e; rfl) (by intro e; rfl) (by intro e x; rfl) ?_
  (simp only [Act.put, List.setIfInBounds_toArray, List.set_cons_succ, List.set_cons_zero])
  refine flow_nil ?_
  intro e w1 h
  have h : St M0 w1 (blkR g 137 #[.pointer (some ⟨gd, 0, none⟩), .int .i64 ja, .int .i64 (jn : Nat), .int .u32 jf, .int .u32 je, .int .u32 jl, .slice A k c] :: wrR gw xs :: dsR gd (saveD D ja xs) :: growR 158 2 RecJR (.slice A k c) hl :: L) := h
  have h9 := h.sub (L' := blkR g 137 #[.pointer (some ⟨gd, 0, none⟩), .int .i64 ja, .int .i64 (jn : Nat), .int .u32 jf, .int .u32 je, .int .u32 jl, .slice A k c] :: growR 158 2 RecJR (.slice A k c) hl :: dsR gd (saveD D ja xs) :: L) (by (repeat (first | with_reducible exact Sub.refl _ | (with_reducible apply Sub.take; focus (repeat (first | with_reducible exact At.here | with_reducible apply At.there))) | with_reducible apply Sub.drop)))
  have H9 := hide h9
  clear h h0 h9
  go_wp2_with fail
  go_ret
  rw [E.out]
  exact ⟨rfl, St.addStarJ H9.out⟩

/-! ### meta -/
def metaA (b : List Int) : Int × Rd := (Rd.mk b false).num 4
def metaB (b : List Int) : Int × Rd := (metaA b).2.num 4
def metaC (b : List Int) : Int × Rd := (metaB b).2.num 4
def metaOk (b : List Int) : Bool := ((metaC b).2.endE == 0) && decide ((metaA b).1 > 0) && decide ((metaC b).1 ≤ (metaB b).1)
theorem end_q (g : Nat) (r : Rd) (A : Option Addr) (n c : Nat) (w : World) (hn : n = r.xs.length) (hb : Blk w g 168 #[.slice A n c, .bool r.s]) :
    Calls Tryz.prog 51 #[.pointer (some ⟨g, 0, none⟩)] w fun e w' => e = .returned (.int .i64 r.endE) ∧ ∃ n, w' = w.drewN n := by
  obtain ⟨xs, s⟩ := r
  have hn : n = xs.length := hn
  subst hn
  have c0 := hb.cell 0
  have c1 := hb.cell 1
  have c1 : w.cell? ⟨g, 1, none⟩ = some (.bool s) := c1
  clear hb
  unfold Rd.endE
  cases s with
  | true =>
    go_enter Tryz.func51, Tryz.ntmps51
    go_wp2
    go_ret
    exact ⟨rfl, 0, rfl⟩
  | false =>
    by_cases h0 : 0 < xs.length
    · go_enter Tryz.func51, Tryz.ntmps51
      go_wp2
      go_ret
      exact ⟨by simp, 0, rfl⟩
    · go_enter Tryz.func51, Tryz.ntmps51
      go_wp2
      go_ret
      exact ⟨by simp, 0, rfl⟩
set_option maxHeartbeats 4000000 in
set_option maxRecDepth 100000 in
theorem jMeta_st {M0 : Imm} {L : List Res} (g gd : Nat) (J : JM) (v : Value) (b : List Int) (w : World) (hb : Bytes b) (hl : b.length ≤ 100000) (h : St M0 w (jR g gd J :: intsR .u8 v b :: L)) :
    Calls Tryz.prog 71 #[.pointer (some ⟨g, 0, none⟩), v] w fun e w' => e = .returned (.bool (metaOk b)) ∧ St M0 w' (jR g gd { J with first := (metaA b).1, ep := (metaB b).1, low := (metaC b).1 } :: L) := by
  obtain ⟨A, c, h1⟩ := h.jO
  obtain ⟨ja, jn, jf, je, jl, hl2⟩ := J
  have h1 : St M0 w (blkR g 137 #[.pointer (some ⟨gd, 0, none⟩), .int .i64 ja, .int .i64 (jn : Nat), .int .u32 jf, .int .u32 je, .int .u32 jl, .slice A hl2.length c] :: growR 158 2 RecJR (.slice A hl2.length c) hl2 :: intsR .u8 v b :: L) := h1
  generalize hl2.length = k at h1
  have ok0 : Rd.Ok (Rd.mk b false) := ⟨hb, by show b.length ≤ 140737488355328; omega, fun h => by cases h⟩
  have E := hide (show metaOk b = (((metaC b).2.endE == 0) && decide ((metaA b).1 > 0) && decide ((metaC b).1 ≤ (metaB b).1)) from rfl)
  have H := hide (h1.front (X := intsR .u8 v b) (by (repeat (first | with_reducible exact At.here | with_reducible apply At.there))))
  have OK0 := hide ok0
  clear h h1 ok0 hb hl
  go_enter Tryz.func71, Tryz.ntmps71
  go_wp2_with fail
  refine (read_st v b _ H.out).mono ?_
  rintro e w1 ⟨gx, rfl, h⟩
  have H1 := hide h
  clear h H
  go_wp2_with fail
  have HB0 := hide (Rd.num4_lt OK0.out)
  have OK1 := hide (OK0.out.num 4)
  refine (rdnum_st gx _ 4 _ OK0.out.hb OK0.out.hl OK0.out.hz H1.out).mono ?_
  rintro e w2 ⟨rfl, h⟩
  have H2 := hide h
  clear h H1
  have HB0 : Hid (0 ≤ (metaA b).1 ∧ (metaA b).1 < 4294967296) := HB0
  have OK1 : Hid (metaA b).2.Ok := OK1
  have H2 : Hid (St M0 w2 (rdR gx (metaA b).2 :: _)) := H2
  have v0 : IntKind.u32.wrap (metaA b).1 = (metaA b).1 := u64_u32 HB0.out
  have v0 : IntKind.u32.wrap ((Rd.mk b false).num 4).1 = (metaA b).1 := v0
  go_wp2_with fail
  have HB1 := hide (Rd.num4_lt OK1.out)
  have OK2 := hide (OK1.out.num 4)
  refine (rdnum_st gx _ 4 _ OK1.out.hb OK1.out.hl OK1.out.hz H2.out).mono ?_
  rintro e w3 ⟨rfl, h⟩
  have HB1 : Hid (0 ≤ (metaB b).1 ∧ (metaB b).1 < 4294967296) := HB1
  have OK2 : Hid (metaB b).2.Ok := OK2
  have H3 : Hid (St M0 w3 (rdR gx (metaB b).2 :: _)) := hide h
  clear h H2
  have v1 : IntKind.u32.wrap ((metaA b).2.num 4).1 = (metaB b).1 := u64_u32 HB1.out
  go_wp2_with fail
  have HB2 := hide (Rd.num4_lt OK2.out)
  refine (rdnum_st gx _ 4 _ OK2.out.hb OK2.out.hl OK2.out.hz H3.out).mono ?_
  rintro e w4 ⟨rfl, h⟩
  have HB2 : Hid (0 ≤ (metaC b).1 ∧ (metaC b).1 < 4294967296) := HB2
  have h4 : St M0 w4 (rdR gx (metaC b).2 :: _) := h
  have v2 : IntKind.u32.wrap ((metaB b).2.num 4).1 = (metaC b).1 := u64_u32 HB2.out
  generalize hm1 : (metaA b).1 = m1 at *
  generalize hm2 : (metaB b).1 = m2 at *
  generalize hm3 : (metaC b).1 = m3 at *
  generalize (metaC b).2 = rc at *
  have h5 := h4.front (X := blkR g 137 #[.pointer (some ⟨gd, 0, none⟩), .int .i64 ja, .int .i64 (jn : Nat), .int .u32 jf, .int .u32 je, .int .u32 jl, .slice A k c]) (by (repeat (first | with_reducible exact At.here | with_reducible apply At.there)))
  have f := (h5.blk 0 rfl).frozen
  have y3 := (h5.blk 0 rfl).cell 3
  have y4 := (h5.blk 0 rfl).cell 4
  have y5 := (h5.blk 0 rfl).cell 5
  have h6 := ((h5.put_ 3 (.int .u32 m1) #[.pointer (some ⟨gd, 0, none⟩), .int .i64 ja, .int .i64 (jn : Nat), .int .u32 m1, .int .u32 je, .int .u32 jl, .slice A k c]).put_ 4 (.int .u32 m2) #[.pointer (some ⟨gd, 0, none⟩), .int .i64 ja, .int .i64 (jn : Nat), .int .u32 m1, .int .u32 m2, .int .u32 jl, .slice A k c]).put_ 5 (.int .u32 m3) #[.pointer (some ⟨gd, 0, none⟩), .int .i64 ja, .int .i64 (jn : Nat), .int .u32 m1, .int .u32 m2, .int .u32 m3, .slice A k c]
  obtain ⟨A2, c2, hc2, hm2', h7⟩ := (h6.front (X := rdR gx rc) (by (repeat (first | with_reducible exact At.here | with_reducible apply At.there)))).rd
  have x3 := (h7.blkA (g := g) (t := 137) (cs := #[.pointer (some ⟨gd, 0, none⟩), .int .i64 ja, .int .i64 (jn : Nat), .int .u32 m1, .int .u32 m2, .int .u32 m3, .slice A k c]) (by (repeat (first | with_reducible exact At.here | with_reducible apply At.there)))).cell 3
  have x4 := (h7.blkA (g := g) (t := 137) (cs := #[.pointer (some ⟨gd, 0, none⟩), .int .i64 ja, .int .i64 (jn : Nat), .int .u32 m1, .int .u32 m2, .int .u32 m3, .slice A k c]) (by (repeat (first | with_reducible exact At.here | with_reducible apply At.there)))).cell 4
  have x5 := (h7.blkA (g := g) (t := 137) (cs := #[.pointer (some ⟨gd, 0, none⟩), .int .i64 ja, .int .i64 (jn : Nat), .int .u32 m1, .int .u32 m2, .int .u32 m3, .slice A k c]) (by (repeat (first | with_reducible exact At.here | with_reducible apply At.there)))).cell 5
  have HE := hide (fun n => end_q gx rc A2 _ c2 _ rfl ((h7.blk 0 rfl).drewN n))
  have H6 := hide (h7.sub (L' := blkR g 137 #[.pointer (some ⟨gd, 0, none⟩), .int .i64 ja, .int .i64 (jn : Nat), .int .u32 m1, .int .u32 m2, .int .u32 m3, .slice A k c] :: growR 158 2 RecJR (.slice A k c) hl2 :: L) (by (repeat (first | with_reducible exact Sub.refl _ | (with_reducible apply Sub.take; focus (repeat (first | with_reducible exact At.here | with_reducible apply At.there))) | with_reducible apply Sub.drop))))
  clear h h4 h5 h6 h7 H3 hc2 hm2'
  obtain ⟨t1, ht1⟩ : ∃ t1, (rc.endE == 0) = t1 := ⟨_, rfl⟩
  obtain ⟨t2, ht2⟩ : ∃ t2, decide (m1 > 0) = t2 := ⟨_, rfl⟩
  have ht2' : decide (0 < m1) = t2 := ht2
  obtain ⟨t3, ht3⟩ : ∃ t3, decide (m3 ≤ m2) = t3 := ⟨_, rfl⟩
  have E : Hid (metaOk b = (t1 && t2 && t3)) := hide (by rw [E.out, ← ht1, ← ht2, ← ht3])
  have HM1 := hide hm1
  have HM2 := hide hm2
  have HM3 := hide hm3
  clear hm1 hm2 hm3
  cases t1
  case' true => cases t2
  case' true.true => cases t3
  all_goals
    go_wp2_with fail
    go_quiet ((go_at_call 51; exact Calls.quiet_of (HE.out _)))
    go_wp2_with fail
    go_ret
    refine ⟨by rw [E.out]; rfl, ?_⟩
    rw [HM1.out, HM2.out, HM3.out]
    exact St.addStarJ (H6.out.drewN _)
end Go.Proofs.YtpaelngpmbeedaaGreatDoor
