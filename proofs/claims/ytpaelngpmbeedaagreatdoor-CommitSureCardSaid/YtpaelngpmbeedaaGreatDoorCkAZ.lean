/- journal.All. -/
import Derived.Test.YtpaelngpmbeedaaGreatDoorCkK
import Derived.Test.YtpaelngpmbeedaaGreatDoorImgOZ
namespace Go.Proofs.YtpaelngpmbeedaaGreatDoor
open Go.RowKit

/-- an element of a slice that still grows -/
theorem St.elemJ {α : Type} {M0 : Imm} {w : World} {L : List Res} {e : TypeId} {size : Nat} {R : World → List Value → α → Prop} {A : Option Addr} {n c : Nat} {xs : List α} (h : St M0 w (growR e size R (.slice A n c) xs :: L)) (hs : 0 < size) {k : Nat} {x : α} (hk : xs[k]? = some x) :
    ∃ ad cs, A = some ad ∧ cs.length = size ∧ (∀ j u, cs[j]? = some u → w.cell? (ad.add (k * size + j)) = some u) ∧ R w cs x ∧ n = xs.length ∧ St M0 w (persR (fun w' => R w' cs x) :: growR e size R (.slice A n c) xs :: L) := by
  obtain ⟨vs, hn, hl, h1⟩ := h.openGrowS
  have hlt := (List.getElem?_eq_some_iff.1 hk).1
  have hle : (k + 1) * size ≤ n * size := Nat.mul_le_mul_right _ (by omega)
  rw [Nat.add_mul, Nat.one_mul] at hle
  have hsl := h1.sl
  have hr := h1.get 1 rfl k x hk
  obtain ⟨ad, hA, _, _, hc⟩ := hsl.2 (by omega)
  refine ⟨ad, (vs.drop (k * size)).take size, hA, by rw [List.length_take, List.length_drop]; omega, fun j u hu => ?_, hr, hn, ?_⟩
  · refine hc (k * size + j) u ?_
    rw [List.getElem?_take] at hu
    split at hu
    · rwa [List.getElem?_drop] at hu
    · cases hu
  · have h2 := (h1.copy 1 rfl).pers1 (R' := fun w' => R w' ((vs.drop (k * size)).take size) x) (fun w' hr => hr k x hk)
    have h3 := h2.dn2
    subst hn
    exact (St.addEx (f := fun vs => starR (rowR e size (.slice A xs.length c) xs.length vs) (persR (fun w => ∀ (i : Nat) x, xs[i]? = some x → R w ((vs.drop (i * size)).take size) x))) vs h3.addStar).swap
def JM.all (J : JM) : List (List Int) := J.held.map Prod.snd
set_option maxHeartbeats 2000000 in
theorem jAll_st {M0 : Imm} {L : List Res} (g gd : Nat) (J : JM) (w : World) (hJ : JOk J) (h : St M0 w (jR g gd J :: L)) :
    Calls Tryz.prog 74 #[.pointer (some ⟨g, 0, none⟩)] w fun e w' => ∃ V, e = .returned V ∧ St M0 w' (rowsR 1 LogR V J.all :: jR g gd J :: L) := by
  obtain ⟨A, c, h1⟩ := h.jO
  obtain ⟨ja, jn, jf, je, jl, hl⟩ := J
  have hn : hl.length ≤ 100 := by have := hJ.h0; have := hJ.n0; simp only at *; omega
  have hb : ∀ x ∈ hl, x.2.length ≤ 43 := fun x hx => (hJ.b0 x hx).1
  have E : Hid (JM.all ⟨ja, jn, jf, je, jl, hl⟩ = hl.map Prod.snd) := rfl
  have h1 : St M0 w (blkR g 137 #[.pointer (some ⟨gd, 0, none⟩), .int .i64 ja, .int .i64 (jn : Nat), .int .u32 jf, .int .u32 je, .int .u32 jl, .slice A hl.length c] :: growR 158 2 RecJR (.slice A hl.length c) hl :: L) := h1
  have c6 := (h1.blk 0 rfl).cell 6
  generalize hq : hl.length = n at *
  have HN := hide hq
  have HB := hide hb
  have H := hide h1
  clear h h1 hJ hq hb
  go_enter Tryz.func74, Tryz.ntmps74
  go_wp2_with fail
  clear c6
  go_loopg [3, 11] n (fun gh out i wr => ∃ k q A' c', gh = n - k ∧ k ≤ n ∧ i = .int .i64 (k : Nat) ∧ out = .slice A' q c' ∧ q = k ∧ St M0 wr (growR 34 1 LogR (.slice A' q c') ((hl.map Prod.snd).take k) :: growR 158 2 RecJR (.slice A n c) hl :: blkR g 137 #[.pointer (some ⟨gd, 0, none⟩), .int .i64 ja, .int .i64 (jn : Nat), .int .u32 jf, .int .u32 je, .int .u32 jl, .slice A n c] :: L))
  case atStart => exact ⟨0, 0, none, 0, rfl, by omega, rfl, rfl, rfl, (H.out.swap).nilGrow 34 1 LogR⟩
  case round =>
    obtain ⟨k, q, A', c', hg, hk, rfl, rfl, hq, h⟩ := hrel
    have HG := hide hg
    clear hg H
    by_cases hlt : k < n
    · have hx := List.getElem?_eq_getElem (l := hl) (i := k) (by rw [HN.out]; exact hlt)
      generalize hl[k]'(by rw [HN.out]; exact hlt) = x at hx
      obtain ⟨ad, cs, rfl, _, hcs, ⟨A2, c2, rfl, hs2⟩, hz, h0⟩ := h.swap.elemJ (by decide) hx
      have hx1 : x.2.length ≤ 43 := HB.out x (List.mem_of_getElem? hx)
      have hx2 : (hl.map Prod.snd)[k]? = some x.2 := by rw [List.getElem?_map, hx]; rfl
      obtain ⟨xe, xb⟩ := x
      have k0 : wr.cell? (ad.add (k * 2)) = some (.int .u32 xe) := hcs 0 _ rfl
      have k1 : wr.cell? ((ad.add (k * 2)).add 1) = some (.slice A2 xb.length c2) := by rw [addr_add]; exact hcs 1 _ rfl
      have k1 : wr.cell? ⟨(ad.add (k * 2)).block, (ad.add (k * 2)).off + 1, none⟩ = some (.slice A2 xb.length c2) := k1
      have hx1 : xb.length ≤ 43 := hx1
      have hx2 : (hl.map Prod.snd)[k]? = some xb := hx2
      have hs2 : Ints wr .u8 (.slice A2 xb.length c2) xb := hs2
      have HX := hide hx2
      have h0 := h0.pers1 (R' := fun w' => Ints w' .u8 (.slice A2 xb.length c2) xb) (fun w' hi => by obtain ⟨A9, c9, e9, hi⟩ := hi; injection e9 with _ e9; injection e9 with e9 _; rw [e9]; exact hi)
      have HS2 := hide (fun o : Obj => ((h0.junk o).get 0 rfl).sl.2.2.2)
      have HQ := hide hq
      have H := hide h
      generalize hnx : xb.length = nx at *
      have HNX := hide hnx
      clear hx hx2 hcs h hs2 hq hnx h0 hz
      go_wp2_with fail
      refine (clone_st A2 nx c2 xb _ (HS2.out _) (by omega) (H.out.junk _)).mono ?_
      rintro e w2 ⟨v2, rfl, h⟩
      obtain ⟨A3, c3, rfl⟩ := h.slice
      obtain ⟨vs, hq, hvs, h3⟩ := (h.ints.swap).openGrowS
      have H3 := hide (h3.junk (.cells #[.slice A3 nx c3] 34))
      have HVS := hide hvs
      have hq1 : q ≤ 1000 := by have := HQ.out; omega
      clear h h3 hq hvs k0 k1 H
      go_wp2_with (at_builtin; refine St.app_step logs_elem H3.out rfl _ _ rfl rfl (some ⟨w2.heap.size, 0, none⟩) 1 1 rfl [.slice A3 nx c3] (sl_new1 _ _ _) (by simp [Value.oneCell']) (by omega) (by omega) ?_; intro A4 c4 w4 h4)
      go_roundg (n - (k + 1))
      case measure => have := HG.out; omega
      case rel =>
        refine ⟨k + 1, q + 1, A4, c4, rfl, by omega, by go_num, rfl, by rw [HQ.out], ?_⟩
        rw [take_snoc HX.out]
        have h5 := (h4.up2.pers1 (R' := fun w' => LogR w' [.slice A3 nx c3] xb) (fun w' hi => ⟨_, rfl, hi⟩))
        exact h5.dn2.snocGrow (by rw [List.length_take, List.length_map, HQ.out, HN.out]; omega) rfl HVS.out
    · obtain rfl : k = n := by omega
      rw [List.take_of_length_le (by rw [List.length_map, HN.out]; exact Nat.le_refl _)] at h
      have H := hide h
      have HQ := hide hq
      clear h hq
      go_wp2_with fail
      go_ret
      refine ⟨_, rfl, ?_⟩
      rw [E.out]
      obtain ⟨_, _, _, h5⟩ := H.out.openGrowS
      have h6 := h5.rows (by rw [List.length_map, HN.out]; exact HQ.out)
      have h7 := h6.sub (L' := blkR g 137 #[.pointer (some ⟨gd, 0, none⟩), .int .i64 ja, .int .i64 (jn : Nat), .int .u32 jf, .int .u32 je, .int .u32 jl, .slice A k c] :: growR 158 2 RecJR (.slice A k c) hl :: rowsR 1 LogR _ (hl.map Prod.snd) :: L) (by (repeat (first | with_reducible exact Sub.refl _ | (with_reducible apply Sub.take; focus (repeat (first | with_reducible exact At.here | with_reducible apply At.there))) | with_reducible apply Sub.drop)))
      exact (St.addJk HN.out.symm h7).swap
end Go.Proofs.YtpaelngpmbeedaaGreatDoor
/- journal.Append. Printed by gen_ckb.py out of ckb.in. -/
namespace Go.Proofs.YtpaelngpmbeedaaGreatDoor
open Go.RowKit Go.Shelf

def JM.app (J : JM) (b : List Int) : JM := { J with held := J.held ++ [(J.ep, b)] }
def JM.appE (J : JM) (D : DS) (b : List Int) : Int := D.writeE (J.sec J.next) (stampM J.next J.ep b)
def JM.appD (J : JM) (D : DS) (b : List Int) : DS := D.write (J.sec J.next) (stampM J.next J.ep b)
set_option maxHeartbeats 8000000 in
set_option maxRecDepth 100000 in
theorem jApp_st {M0 : Imm} {L : List Res} (hT : Tbl M0) (g gd kk : Nat) (D : DS) (J : JM) (A1 : Option Addr) (n1 c1 : Nat) (b : List Int) (w : World) (hD : DsOk D kk) (hkk : kk < 900000) (hJ : JOk J) (hlt : J.held.length < J.n) (hb : Bytes b) (hn : n1 ≤ 43) (h : St M0 w (intsR .u8 (.slice A1 n1 c1) b :: jR g gd J :: dsR gd D :: L)) :
    Calls Tryz.prog 61 #[.pointer (some ⟨g, 0, none⟩), .slice A1 n1 c1] w fun e w' => e = .returned (.int .i64 (J.appE D b)) ∧ St M0 w' (jR g gd (J.app b) :: dsR gd (J.appD D b) :: L) := by
  have hnb : n1 = b.length := (h.get 0 rfl).sl.1
  obtain ⟨A, c, h1⟩ := h.swap.jO
  obtain ⟨ja, jn, jf, je, jl, hl⟩ := J
  have hlt : hl.length < jn := hlt
  have HJA := hide (show 0 ≤ ja ∧ ja ≤ 1000 from hJ.a0)
  have HJN := hide (show 1 ≤ jn ∧ jn ≤ 100 from hJ.n0)
  have hjf : 0 ≤ jf ∧ jf ≤ 4000000000 := hJ.f0
  have HJE := hide (show 0 ≤ je ∧ je < 4294967296 from hJ.e0)
  have HD := hide hD
  have h1 : St M0 w (blkR g 137 #[.pointer (some ⟨gd, 0, none⟩), .int .i64 ja, .int .i64 (jn : Nat), .int .u32 jf, .int .u32 je, .int .u32 jl, .slice A hl.length c] :: growR 158 2 RecJR (.slice A hl.length c) hl :: intsR .u8 (.slice A1 n1 c1) b :: dsR gd D :: L) := h1
  obtain ⟨k, hk⟩ : ∃ k, k = hl.length := ⟨_, rfl⟩
  rw [← hk] at h1 hlt
  have hk100 : k < 100 := by have := HJN.out; omega
  obtain ⟨q, hq⟩ : ∃ q, q = jf + (k : Int) := ⟨_, rfl⟩
  obtain ⟨ix, hix⟩ : ∃ ix, ix = ja + 2 + q % (jn : Nat) := ⟨_, rfl⟩
  obtain ⟨sb, hsb⟩ : ∃ sb, sb = stampM q je b := ⟨_, rfl⟩
  have EI := hide (show JM.appE ⟨ja, jn, jf, je, jl, hl⟩ D b = D.writeE ix sb by rw [hsb, hix, hq, hk]; rfl)
  have EB := hide (show JM.appD ⟨ja, jn, jf, je, jl, hl⟩ D b = D.write ix sb by rw [hsb, hix, hq, hk]; rfl)
  have hn100 : jn ≤ 100 := HJN.out.2
  have HQR := hide (show 0 ≤ q ∧ q < 4294967296 by omega)
  have wq : IntKind.u32.wrap q = q := u64_u32 HQR.out
  have d1 : decide (q > 4294967295) = false := decide_eq_false (by omega)
  have d1' : decide (4294967295 < q) = false := d1
  have d2 : ((k : Int) == (jn : Int)) = false := isF (by omega)
  have d3 : decide ((k : Int) = (jn : Int)) = false := decide_eq_false (by omega)
  have d4 : (k == jn) = false := beq_eq_false_iff_ne.2 (by omega)
  have d5 : decide (k = jn) = false := decide_eq_false (by omega)
  have c2 := (h1.blk 0 rfl).cell 2
  have c4 := (h1.blk 0 rfl).cell 4
  have x6 := (h1.blk 0 rfl).cell 6
  have HNX := hide (fun n => next_q g gd ja jn jf je jl A k c (w.drewN n) (by omega) (by omega) ((h1.blk 0 rfl).drewN n))
  rw [← hq] at HNX
  have H := hide h1
  have HK := hide hk.symm
  have HNB := hide hnb
  have HIX := hide hix
  have HSB := hide hsb
  have HB := hide hb
  have dn : decide ((n1 : Int) > 43) = false := decide_eq_false (by omega)
  have dn' : decide (43 < n1) = false := decide_eq_false (by omega)
  clear h h1 hJ hD hk hq hix hsb hnb hb hlt hjf
  go_enter Tryz.func61, Tryz.ntmps61
  go_wp2_with fail
  go_quiet ((go_at_call 93; exact Calls.quiet_of (HNX.out _)))
  go_wp2_with (go_at_call 93; refine (HNX.out _).mono ?_; rintro e w6 ⟨rfl, nn, rfl⟩)
  refine (stamp_st hT q je A1 n1 c1 b _ HQR.out HJE.out hn HB.out ((H.out.drewN _).sub (L' := intsR .u8 (.slice A1 n1 c1) b :: blkR g 137 #[.pointer (some ⟨gd, 0, none⟩), .int .i64 ja, .int .i64 (jn : Nat), .int .u32 jf, .int .u32 je, .int .u32 jl, .slice A k c] :: growR 158 2 RecJR (.slice A k c) hl :: dsR gd D :: L) (by (repeat (first | with_reducible exact Sub.refl _ | (with_reducible apply Sub.take; focus (repeat (first | with_reducible exact At.here | with_reducible apply At.there))) | with_reducible apply Sub.drop))))).mono ?_
  rintro u w2 ⟨A6, c6, rfl, h⟩
  rw [← HSB.out] at h
  have h0 := h.sub (L' := blkR g 137 #[.pointer (some ⟨gd, 0, none⟩), .int .i64 ja, .int .i64 (jn : Nat), .int .u32 jf, .int .u32 je, .int .u32 jl, .slice A k c] :: growR 158 2 RecJR (.slice A k c) hl :: intsR .u8 (.slice A1 n1 c1) b :: intsR .u8 (.slice A6 64 c6) sb :: dsR gd D :: L) (by (repeat (first | with_reducible exact Sub.refl _ | (with_reducible apply Sub.take; focus (repeat (first | with_reducible exact At.here | with_reducible apply At.there))) | with_reducible apply Sub.drop)))
  clear h H HNX c2 c4 x6 d1 d1' d2 d3 d4 d5 dn dn'
  go_wp2_with fail
  refine region_flow (M0 := M0) (L0 := intsR .u8 (.slice A6 64 c6) sb :: dsR gd D :: L) [⟨none, some 16, fun e => blkR g 137 #[.pointer (some ⟨gd, 0, none⟩), .int .i64 ja, .int .i64 (jn : Nat), .int .u32 jf, .int .u32 je, .int .u32 jl, .slice A k c]⟩, ⟨none, some 13, fun e => growR 158 2 RecJR (.slice A k c) hl⟩, ⟨none, none, fun e => intsR .u8 (.slice A1 n1 c1) b⟩, ⟨some 10, none, fun e => persR (fun w => RecJR w [.int .u32 je, .slice (e 10).A n1 (e 10).n] (je, b))⟩, ⟨some 12, none, fun e => blkR (e 12).n 158 #[.int .u32 je, .slice (e 10).A n1 (e 10).n]⟩, ⟨some 13, none, fun e => growR 158 2 RecJR (.slice (e 13).A (k + 1) (e 13).n) (hl ++ [(je, b)])⟩, ⟨some 16, none, fun e => blkR g 137 #[.pointer (some ⟨gd, 0, none⟩), .int .i64 ja, .int .i64 (jn : Nat), .int .u32 jf, .int .u32 je, .int .u32 jl, .slice (e 13).A (k + 1) (e 13).n]⟩] [[], [], [1], [1, 2], [1, 2, 3], [], [5], [5, 6], [5, 6, 7], [], [9], [5, 6, 7, 8, 9, 10], [5, 6, 7, 8, 9, 10, 11], [1, 2, 3, 4, 5, 6, 7, 8, 9, 10, 11, 12], [0, 1, 2, 3, 4, 5, 6, 7, 8, 9, 10, 11, 12, 13], [0, 1, 2, 3, 4, 5, 6, 7, 8, 9, 10, 11, 12, 13, 14], [0, 1, 2, 3, 4, 5, 6, 7, 8, 9, 10, 11, 12, 13, 14, 15]] [0, 1, 2, 3, 4, 5, 6, 7, 8, 9, 10, 11, 12, 13, 14, 15, 16] rfl (by kernel_rfl) (by kernel_rfl) (by kernel_rfl) (by rfl) (fun _ => rfl) (show St M0 _ (blkR g 137 #[.pointer (some ⟨gd, 0, none⟩), .int .i64 ja, .int .i64 (jn : Nat), .int .u32 jf, .int .u32 je, .int .u32 jl, .slice A k c] :: growR 158 2 RecJR (.slice A k c) hl :: intsR .u8 (.slice A1 n1 c1) b :: intsR .u8 (.slice A6 64 c6) sb :: dsR gd D :: L) from h0) ?_
  refine flow_run _ rfl (fun _ => rfl) (fun e wx Lx h => by (go_simp; try rfl)) (by intro e; rfl) (by intro e; rfl) (by intro e x; rfl) ?_
  (simp only [Act.put, List.setIfInBounds_toArray, List.set_cons_succ, List.set_cons_zero])
  refine flow_run _ rfl (fun _ => rfl) (fun e wx Lx h => by (go_simp; try rfl)) (by intro e; rfl) (by intro e; rfl) (by intro e x; rfl) ?_
  (simp only [Act.put, List.setIfInBounds_toArray, List.set_cons_succ, List.set_cons_zero])
  refine flow_run _ rfl (fun _ => rfl) (fun e wx Lx h => by (go_simp; try rfl)) (by intro e; rfl) (by intro e; rfl) (by intro e x; rfl) ?_
  (simp only [Act.put, List.setIfInBounds_toArray, List.set_cons_succ, List.set_cons_zero])
  refine flow_run _ rfl (fun _ => rfl) (fun e wx Lx h => by (go_simp; try rfl)) (by intro e; rfl) (by intro e; rfl) (by intro e x; rfl) ?_
  (simp only [Act.put, List.setIfInBounds_toArray, List.set_cons_succ, List.set_cons_zero])
  refine flow_run _ rfl (fun _ => rfl) (fun e wx Lx h => by (have h : St M0 wx (blkR g 137 #[.pointer (some ⟨gd, 0, none⟩), .int .i64 ja, .int .i64 (jn : Nat), .int .u32 jf, .int .u32 je, .int .u32 jl, .slice A k c] :: growR 158 2 RecJR (.slice A k c) hl :: intsR .u8 (.slice A1 n1 c1) b :: Lx) := h; have y4 := (h.blkA (g := g) (t := 137) (cs := #[.pointer (some ⟨gd, 0, none⟩), .int .i64 ja, .int .i64 (jn : Nat), .int .u32 jf, .int .u32 je, .int .u32 jl, .slice A k c]) (by (repeat (first | with_reducible exact At.here | with_reducible apply At.there)))).cell 4; have y6 := (h.blkA (g := g) (t := 137) (cs := #[.pointer (some ⟨gd, 0, none⟩), .int .i64 ja, .int .i64 (jn : Nat), .int .u32 jf, .int .u32 je, .int .u32 jl, .slice A k c]) (by (repeat (first | with_reducible exact At.here | with_reducible apply At.there)))).cell 6; go_simp; try rfl)) (by intro e; rfl) (by intro e; rfl) (by intro e x; rfl) ?_
  (simp only [Act.put, List.setIfInBounds_toArray, List.set_cons_succ, List.set_cons_zero])
  refine flow_run _ rfl (fun _ => rfl) (fun e wx Lx h => by (go_simp; try rfl)) (by intro e; rfl) (by intro e; rfl) (by intro e x; rfl) ?_
  (simp only [Act.put, List.setIfInBounds_toArray, List.set_cons_succ, List.set_cons_zero])
  refine flow_run _ rfl (fun _ => rfl) (fun e wx Lx h => by (go_simp; try rfl)) (by intro e; rfl) (by intro e; rfl) (by intro e x; rfl) ?_
  (simp only [Act.put, List.setIfInBounds_toArray, List.set_cons_succ, List.set_cons_zero])
  refine flow_run _ rfl (fun _ => rfl) (fun e wx Lx h => by (go_simp; try rfl)) (by intro e; rfl) (by intro e; rfl) (by intro e x; rfl) ?_
  (simp only [Act.put, List.setIfInBounds_toArray, List.set_cons_succ, List.set_cons_zero])
  refine flow_run _ rfl (fun _ => rfl) (fun e wx Lx h => by (have h : St M0 wx (blkR g 137 #[.pointer (some ⟨gd, 0, none⟩), .int .i64 ja, .int .i64 (jn : Nat), .int .u32 jf, .int .u32 je, .int .u32 jl, .slice A k c] :: growR 158 2 RecJR (.slice A k c) hl :: intsR .u8 (.slice A1 n1 c1) b :: Lx) := h; have y4 := (h.blkA (g := g) (t := 137) (cs := #[.pointer (some ⟨gd, 0, none⟩), .int .i64 ja, .int .i64 (jn : Nat), .int .u32 jf, .int .u32 je, .int .u32 jl, .slice A k c]) (by (repeat (first | with_reducible exact At.here | with_reducible apply At.there)))).cell 4; have y6 := (h.blkA (g := g) (t := 137) (cs := #[.pointer (some ⟨gd, 0, none⟩), .int .i64 ja, .int .i64 (jn : Nat), .int .u32 jf, .int .u32 je, .int .u32 jl, .slice A k c]) (by (repeat (first | with_reducible exact At.here | with_reducible apply At.there)))).cell 6; go_simp; try rfl)) (by intro e; rfl) (by intro e; rfl) (by intro e x; rfl) ?_
  (simp only [Act.put, List.setIfInBounds_toArray, List.set_cons_succ, List.set_cons_zero])
  refine flow_run _ rfl (fun _ => rfl) (fun e wx Lx h => by (go_simp; try rfl)) (by intro e; rfl) (by intro e; rfl) (by intro e x; rfl) ?_
  (simp only [Act.put, List.setIfInBounds_toArray, List.set_cons_succ, List.set_cons_zero])
  refine flow_call 76 (fun e => #[.slice A1 n1 c1]) (fun e => .slice (e 10).A n1 (e 10).n) rfl (fun _ => rfl) (by intro e; rfl) (fun e wx => by (go_simp; try rfl)) (fun e wx Lx h => by (
    have h : St M0 wx (blkR g 137 #[.pointer (some ⟨gd, 0, none⟩), .int .i64 ja, .int .i64 (jn : Nat), .int .u32 jf, .int .u32 je, .int .u32 jl, .slice A k c] :: growR 158 2 RecJR (.slice A k c) hl :: intsR .u8 (.slice A1 n1 c1) b :: Lx) := h
    refine (clone_st A1 n1 c1 b _ (h.getA (Q := fun w => Ints w .u8 (.slice A1 n1 c1) b) (by (repeat (first | with_reducible exact At.here | with_reducible apply At.there)))).sl.2.2.2 (by omega) h).mono ?_
    rintro u wy ⟨v, rfl, h1⟩
    obtain ⟨A', c', rfl⟩ := h1.slice
    have h2 := (St.ints (k := .u8) (xs := b) h1).pers1 (R' := fun w => RecJR w [.int .u32 je, .slice A' n1 c'] (je, b)) (fun w' hi => ⟨A', c', by rw [show (je, b).2.length = n1 from HNB.out.symm], by rw [show (je, b).2.length = n1 from HNB.out.symm]; exact hi⟩)
    have hk : St M0 wy (blkR g 137 #[.pointer (some ⟨gd, 0, none⟩), .int .i64 ja, .int .i64 (jn : Nat), .int .u32 jf, .int .u32 je, .int .u32 jl, .slice A k c] :: growR 158 2 RecJR (.slice A k c) hl :: intsR .u8 (.slice A1 n1 c1) b :: persR (fun w => RecJR w [.int .u32 je, .slice A' n1 c'] (je, b)) :: Lx) := h2.sub (by (repeat (first | with_reducible exact Sub.refl _ | (with_reducible apply Sub.take; focus (repeat (first | with_reducible exact At.here | with_reducible apply At.there))) | with_reducible apply Sub.drop)))
    exact ⟨⟨A', c', default⟩, rfl, hk⟩)) ?_
  (simp only [Act.put, List.setIfInBounds_toArray, List.set_cons_succ, List.set_cons_zero])
  refine flow_run (fun e => .agg #[.int .u32 je, .slice (e 10).A n1 (e 10).n]) rfl (fun _ => rfl) (fun e wx Lx h => by (go_simp; try rfl)) (by intro e; rfl) (by intro e; rfl) (by intro e x; rfl) ?_
  (simp only [Act.put, List.setIfInBounds_toArray, List.set_cons_succ, List.set_cons_zero])
  refine flow_do (fun e => .slice (some ⟨(e 12).n, 0, none⟩) 1 1) rfl (fun _ => rfl) (by intro e; rfl) (fun e wx Lx h => by (
    have h : St M0 wx (blkR g 137 #[.pointer (some ⟨gd, 0, none⟩), .int .i64 ja, .int .i64 (jn : Nat), .int .u32 jf, .int .u32 je, .int .u32 jl, .slice A k c] :: growR 158 2 RecJR (.slice A k c) hl :: intsR .u8 (.slice A1 n1 c1) b :: persR (fun w => RecJR w [.int .u32 je, .slice (e 10).A n1 (e 10).n] (je, b)) :: Lx) := h
    have hk : St M0 _ (blkR g 137 #[.pointer (some ⟨gd, 0, none⟩), .int .i64 ja, .int .i64 (jn : Nat), .int .u32 jf, .int .u32 je, .int .u32 jl, .slice A k c] :: growR 158 2 RecJR (.slice A k c) hl :: intsR .u8 (.slice A1 n1 c1) b :: persR (fun w => RecJR w [.int .u32 je, .slice (e 10).A n1 (e 10).n] (je, b)) :: blkR wx.heap.size 158 #[.int .u32 je, .slice (e 10).A n1 (e 10).n] :: Lx) := (h.alloc 158 #[.int .u32 je, .slice (e 10).A n1 (e 10).n]).sub (by (repeat (first | with_reducible exact Sub.refl _ | (with_reducible apply Sub.take; focus (repeat (first | with_reducible exact At.here | with_reducible apply At.there))) | with_reducible apply Sub.drop)))
    exact ⟨⟨none, wx.heap.size, default⟩, _, exec_buildSlice1 rfl rfl (recJ_build _ _ _ _ _), hk⟩)) ?_
  (simp only [Act.put, List.setIfInBounds_toArray, List.set_cons_succ, List.set_cons_zero])
  refine flow_do (fun e => .slice (e 13).A (k + 1) (e 13).n) rfl (fun _ => rfl) (by intro e; rfl) (fun e wx Lx h => by (
    have h : St M0 wx (blkR g 137 #[.pointer (some ⟨gd, 0, none⟩), .int .i64 ja, .int .i64 (jn : Nat), .int .u32 jf, .int .u32 je, .int .u32 jl, .slice A k c] :: growR 158 2 RecJR (.slice A k c) hl :: intsR .u8 (.slice A1 n1 c1) b :: persR (fun w => RecJR w [.int .u32 je, .slice (e 10).A n1 (e 10).n] (je, b)) :: blkR (e 12).n 158 #[.int .u32 je, .slice (e 10).A n1 (e 10).n] :: Lx) := h
    have hz := sl_blkJ (cs := [.int .u32 je, .slice (e 10).A n1 (e 10).n]) (h.blkA (g := (e 12).n) (t := 158) (cs := #[.int .u32 je, .slice (e 10).A n1 (e 10).n]) (by (repeat (first | with_reducible exact At.here | with_reducible apply At.there))))
    obtain ⟨A', c', w', hr, h2⟩ := ((h.copyA (Q := fun w => RecJR w [.int .u32 je, .slice (e 10).A n1 (e 10).n] (je, b)) (by (repeat (first | with_reducible exact At.here | with_reducible apply At.there)))).sub (L' := growR 158 2 RecJR (.slice A k c) hl :: persR (fun w => RecJR w [.int .u32 je, .slice (e 10).A n1 (e 10).n] (je, b)) :: blkR g 137 #[.pointer (some ⟨gd, 0, none⟩), .int .i64 ja, .int .i64 (jn : Nat), .int .u32 jf, .int .u32 je, .int .u32 jl, .slice A k c] :: intsR .u8 (.slice A1 n1 c1) b :: persR (fun w => RecJR w [.int .u32 je, .slice (e 10).A n1 (e 10).n] (je, b)) :: blkR (e 12).n 158 #[.int .u32 je, .slice (e 10).A n1 (e 10).n] :: Lx) (by (repeat (first | with_reducible exact Sub.refl _ | (with_reducible apply Sub.take; focus (repeat (first | with_reducible exact At.here | with_reducible apply At.there))) | with_reducible apply Sub.drop)))).grow1 recJ_elem _ ⟨(e 12).n, 0, none⟩ 1 hz (recJ_one _ _ _ _) rfl (by omega) (by omega)
    have hk : St M0 _ (blkR g 137 #[.pointer (some ⟨gd, 0, none⟩), .int .i64 ja, .int .i64 (jn : Nat), .int .u32 jf, .int .u32 je, .int .u32 jl, .slice A k c] :: intsR .u8 (.slice A1 n1 c1) b :: persR (fun w => RecJR w [.int .u32 je, .slice (e 10).A n1 (e 10).n] (je, b)) :: blkR (e 12).n 158 #[.int .u32 je, .slice (e 10).A n1 (e 10).n] :: growR 158 2 RecJR (.slice A' (k + 1) c') (hl ++ [(je, b)]) :: Lx) := h2.sub (by (repeat (first | with_reducible exact Sub.refl _ | (with_reducible apply Sub.take; focus (repeat (first | with_reducible exact At.here | with_reducible apply At.there))) | with_reducible apply Sub.drop)))
    exact ⟨⟨A', c', default⟩, _, exec_append rfl rfl rfl hr, hk⟩)) ?_
  (simp only [Act.put, List.setIfInBounds_toArray, List.set_cons_succ, List.set_cons_zero])
  refine flow_run _ rfl (fun _ => rfl) (fun e wx Lx h => by (go_simp; try rfl)) (by intro e; rfl) (by intro e; rfl) (by intro e x; rfl) ?_
  (simp only [Act.put, List.setIfInBounds_toArray, List.set_cons_succ, List.set_cons_zero])
  refine flow_run _ rfl (fun _ => rfl) (fun e wx Lx h => by (go_simp; try rfl)) (by intro e; rfl) (by intro e; rfl) (by intro e x; rfl) ?_
  (simp only [Act.put, List.setIfInBounds_toArray, List.set_cons_succ, List.set_cons_zero])
  refine flow_store _ _ _ (fun e => .pointer (some ⟨g, 6, none⟩)) (fun e => .slice (e 13).A (k + 1) (e 13).n) rfl (fun _ => rfl) rfl (fun _ => rfl) (fun _ => rfl) (fun e wx Lx h => by (
    have h : St M0 wx (blkR g 137 #[.pointer (some ⟨gd, 0, none⟩), .int .i64 ja, .int .i64 (jn : Nat), .int .u32 jf, .int .u32 je, .int .u32 jl, .slice A k c] :: intsR .u8 (.slice A1 n1 c1) b :: persR (fun w => RecJR w [.int .u32 je, .slice (e 10).A n1 (e 10).n] (je, b)) :: blkR (e 12).n 158 #[.int .u32 je, .slice (e 10).A n1 (e 10).n] :: growR 158 2 RecJR (.slice (e 13).A (k + 1) (e 13).n) (hl ++ [(je, b)]) :: Lx) := h
    have x6 := (h.blkA (g := g) (t := 137) (cs := #[.pointer (some ⟨gd, 0, none⟩), .int .i64 ja, .int .i64 (jn : Nat), .int .u32 jf, .int .u32 je, .int .u32 jl, .slice A k c]) (by (repeat (first | with_reducible exact At.here | with_reducible apply At.there)))).cell 6
    have f := (h.blkA (g := g) (t := 137) (cs := #[.pointer (some ⟨gd, 0, none⟩), .int .i64 ja, .int .i64 (jn : Nat), .int .u32 jf, .int .u32 je, .int .u32 jl, .slice A k c]) (by (repeat (first | with_reducible exact At.here | with_reducible apply At.there)))).frozen
    have h1 := (h.front (X := blkR g 137 #[.pointer (some ⟨gd, 0, none⟩), .int .i64 ja, .int .i64 (jn : Nat), .int .u32 jf, .int .u32 je, .int .u32 jl, .slice A k c]) (by (repeat (first | with_reducible exact At.here | with_reducible apply At.there)))).put_ 6 (.slice (e 13).A (k + 1) (e 13).n) #[.pointer (some ⟨gd, 0, none⟩), .int .i64 ja, .int .i64 (jn : Nat), .int .u32 jf, .int .u32 je, .int .u32 jl, .slice (e 13).A (k + 1) (e 13).n]
    have hk : St M0 _ (intsR .u8 (.slice A1 n1 c1) b :: persR (fun w => RecJR w [.int .u32 je, .slice (e 10).A n1 (e 10).n] (je, b)) :: blkR (e 12).n 158 #[.int .u32 je, .slice (e 10).A n1 (e 10).n] :: growR 158 2 RecJR (.slice (e 13).A (k + 1) (e 13).n) (hl ++ [(je, b)]) :: blkR g 137 #[.pointer (some ⟨gd, 0, none⟩), .int .i64 ja, .int .i64 (jn : Nat), .int .u32 jf, .int .u32 je, .int .u32 jl, .slice (e 13).A (k + 1) (e 13).n] :: Lx) := h1.sub (by (repeat (first | with_reducible exact Sub.refl _ | (with_reducible apply Sub.take; focus (repeat (first | with_reducible exact At.here | with_reducible apply At.there))) | with_reducible apply Sub.drop)))
    exact ⟨_, (by (go_simp; try rfl)), hk⟩)) ?_
  simp only [Act.put]
  refine flow_nil ?_
  intro e w1 h
  have h : St M0 w1 (intsR .u8 (.slice A1 n1 c1) b :: persR (fun w => RecJR w [.int .u32 je, .slice (e 10).A n1 (e 10).n] (je, b)) :: blkR (e 12).n 158 #[.int .u32 je, .slice (e 10).A n1 (e 10).n] :: growR 158 2 RecJR (.slice (e 13).A (k + 1) (e 13).n) (hl ++ [(je, b)]) :: blkR g 137 #[.pointer (some ⟨gd, 0, none⟩), .int .i64 ja, .int .i64 (jn : Nat), .int .u32 jf, .int .u32 je, .int .u32 jl, .slice (e 13).A (k + 1) (e 13).n] :: intsR .u8 (.slice A6 64 c6) sb :: dsR gd D :: L) := h
  obtain ⟨A13, hA13⟩ : ∃ A13, (e 13).A = A13 := ⟨_, rfl⟩
  obtain ⟨c13, hc13⟩ : ∃ c13, (e 13).n = c13 := ⟨_, rfl⟩
  rw [hA13, hc13] at h
  have H7 := hide (h.sub (L' := blkR g 137 #[.pointer (some ⟨gd, 0, none⟩), .int .i64 ja, .int .i64 (jn : Nat), .int .u32 jf, .int .u32 je, .int .u32 jl, .slice A13 (k + 1) c13] :: intsR .u8 (.slice A6 64 c6) sb :: dsR gd D :: growR 158 2 RecJR (.slice A13 (k + 1) c13) (hl ++ [(je, b)]) :: L) (by (repeat (first | with_reducible exact Sub.refl _ | (with_reducible apply Sub.take; focus (repeat (first | with_reducible exact At.here | with_reducible apply At.there))) | with_reducible apply Sub.drop))))
  clear h h0
  go_wp2_with fail
  clear hA13 hc13
  refine region_flow (M0 := M0) (L0 := growR 158 2 RecJR (.slice A13 (k + 1) c13) (hl ++ [(je, b)]) :: L) [⟨none, none, fun e => blkR g 137 #[.pointer (some ⟨gd, 0, none⟩), .int .i64 ja, .int .i64 (jn : Nat), .int .u32 jf, .int .u32 je, .int .u32 jl, .slice A13 (k + 1) c13]⟩, ⟨none, none, fun e => intsR .u8 (.slice A6 64 c6) sb⟩, ⟨none, some 8, fun e => dsR gd D⟩, ⟨some 8, none, fun e => dsR gd (D.write ix sb)⟩] [[], [0], [0, 1], [0, 1, 2], [], [], [4, 5], [], [0, 1, 2, 3, 4, 5, 6, 7], [0, 1, 2, 3, 4, 5, 6, 7, 8]] [0, 1, 2, 3, 4, 5, 6, 7, 8, 9] rfl (by kernel_rfl) (by kernel_rfl) (by kernel_rfl) (by rfl) (fun _ => rfl) (show St M0 _ (blkR g 137 #[.pointer (some ⟨gd, 0, none⟩), .int .i64 ja, .int .i64 (jn : Nat), .int .u32 jf, .int .u32 je, .int .u32 jl, .slice A13 (k + 1) c13] :: intsR .u8 (.slice A6 64 c6) sb :: dsR gd D :: growR 158 2 RecJR (.slice A13 (k + 1) c13) (hl ++ [(je, b)]) :: L) from H7.out) ?_
  refine flow_run _ rfl (fun _ => rfl) (fun e wx Lx h => by (go_simp; try rfl)) (by intro e; rfl) (by intro e; rfl) (by intro e x; rfl) ?_
  (simp only [Act.put, List.setIfInBounds_toArray, List.set_cons_succ, List.set_cons_zero])
  refine flow_run _ rfl (fun _ => rfl) (fun e wx Lx h => by (go_simp; try rfl)) (by intro e; rfl) (by intro e; rfl) (by intro e x; rfl) ?_
  (simp only [Act.put, List.setIfInBounds_toArray, List.set_cons_succ, List.set_cons_zero])
  refine flow_run _ rfl (fun _ => rfl) (fun e wx Lx h => by (go_simp; try rfl)) (by intro e; rfl) (by intro e; rfl) (by intro e x; rfl) ?_
  (simp only [Act.put, List.setIfInBounds_toArray, List.set_cons_succ, List.set_cons_zero])
  refine flow_run _ rfl (fun _ => rfl) (fun e wx Lx h => by (have h : St M0 wx (blkR g 137 #[.pointer (some ⟨gd, 0, none⟩), .int .i64 ja, .int .i64 (jn : Nat), .int .u32 jf, .int .u32 je, .int .u32 jl, .slice A13 (k + 1) c13] :: intsR .u8 (.slice A6 64 c6) sb :: dsR gd D :: Lx) := h; have y0 := (h.blkA (g := g) (t := 137) (cs := #[.pointer (some ⟨gd, 0, none⟩), .int .i64 ja, .int .i64 (jn : Nat), .int .u32 jf, .int .u32 je, .int .u32 jl, .slice A13 (k + 1) c13]) (by (repeat (first | with_reducible exact At.here | with_reducible apply At.there)))).cell 0; go_simp; try rfl)) (by intro e; rfl) (by intro e; rfl) (by intro e x; rfl) ?_
  (simp only [Act.put, List.setIfInBounds_toArray, List.set_cons_succ, List.set_cons_zero])
  refine flow_run _ rfl (fun _ => rfl) (fun e wx Lx h => by (go_simp; try rfl)) (by intro e; rfl) (by intro e; rfl) (by intro e x; rfl) ?_
  (simp only [Act.put, List.setIfInBounds_toArray, List.set_cons_succ, List.set_cons_zero])
  refine flow_run _ rfl (fun _ => rfl) (fun e wx Lx h => by (go_simp; try rfl)) (by intro e; rfl) (by intro e; rfl) (by intro e x; rfl) ?_
  (simp only [Act.put, List.setIfInBounds_toArray, List.set_cons_succ, List.set_cons_zero])
  refine flow_call 94 (fun e => #[.pointer (some ⟨g, 0, none⟩), .int .u32 q]) (fun e => .int .i64 ix) rfl (fun _ => rfl) (by intro e; rfl) (fun e wx => by (go_simp; try rfl)) (fun e wx Lx h => by (
    have h : St M0 wx (blkR g 137 #[.pointer (some ⟨gd, 0, none⟩), .int .i64 ja, .int .i64 (jn : Nat), .int .u32 jf, .int .u32 je, .int .u32 jl, .slice A13 (k + 1) c13] :: intsR .u8 (.slice A6 64 c6) sb :: dsR gd D :: Lx) := h
    refine (sector_q g gd ja jn jf je jl q A13 (k + 1) c13 _ (by have := HQR.out; omega) HJA.out HJN.out (h.blkA (g := g) (t := 137) (cs := #[.pointer (some ⟨gd, 0, none⟩), .int .i64 ja, .int .i64 (jn : Nat), .int .u32 jf, .int .u32 je, .int .u32 jl, .slice A13 (k + 1) c13]) (by (repeat (first | with_reducible exact At.here | with_reducible apply At.there))))).mono ?_
    rintro u wy ⟨rfl, nn, hw⟩
    rw [← HIX.out]
    have hk : St M0 wy (blkR g 137 #[.pointer (some ⟨gd, 0, none⟩), .int .i64 ja, .int .i64 (jn : Nat), .int .u32 jf, .int .u32 je, .int .u32 jl, .slice A13 (k + 1) c13] :: intsR .u8 (.slice A6 64 c6) sb :: dsR gd D :: Lx) := (by rw [hw]; exact (h.drewN nn).sub (by (repeat (first | with_reducible exact Sub.refl _ | (with_reducible apply Sub.take; focus (repeat (first | with_reducible exact At.here | with_reducible apply At.there))) | with_reducible apply Sub.drop))))
    exact ⟨⟨none, 0, default⟩, rfl, hk⟩)) ?_
  (simp only [Act.put, List.setIfInBounds_toArray, List.set_cons_succ, List.set_cons_zero])
  refine flow_run _ rfl (fun _ => rfl) (fun e wx Lx h => by (go_simp; try rfl)) (by intro e; rfl) (by intro e; rfl) (by intro e x; rfl) ?_
  (simp only [Act.put, List.setIfInBounds_toArray, List.set_cons_succ, List.set_cons_zero])
  refine flow_call 82 (fun e => #[.pointer (some ⟨gd, 0, none⟩), .int .i64 ix, .slice A6 64 c6]) (fun e => .int .i64 (D.writeE ix sb)) rfl (fun _ => rfl) (by intro e; rfl) (fun e wx => by (go_simp; try rfl)) (fun e wx Lx h => by (
    have h : St M0 wx (blkR g 137 #[.pointer (some ⟨gd, 0, none⟩), .int .i64 ja, .int .i64 (jn : Nat), .int .u32 jf, .int .u32 je, .int .u32 jl, .slice A13 (k + 1) c13] :: intsR .u8 (.slice A6 64 c6) sb :: dsR gd D :: Lx) := h
    refine (write_ds ix (.slice A6 64 c6) sb 0 HD.out.ok (by have := HD.out.p; omega) rfl ((h.front (X := intsR .u8 (.slice A6 64 c6) sb) (by (repeat (first | with_reducible exact At.here | with_reducible apply At.there)))).front (X := dsR gd D) (by (repeat (first | with_reducible exact At.here | with_reducible apply At.there))))).mono ?_
    rintro u wy ⟨rfl, h1⟩
    have hk : St M0 wy (blkR g 137 #[.pointer (some ⟨gd, 0, none⟩), .int .i64 ja, .int .i64 (jn : Nat), .int .u32 jf, .int .u32 je, .int .u32 jl, .slice A13 (k + 1) c13] :: intsR .u8 (.slice A6 64 c6) sb :: dsR gd (D.write ix sb) :: Lx) := h1.sub (by (repeat (first | with_reducible exact Sub.refl _ | (with_reducible apply Sub.take; focus (repeat (first | with_reducible exact At.here | with_reducible apply At.there))) | with_reducible apply Sub.drop)))
    exact ⟨⟨none, 0, default⟩, rfl, hk⟩)) ?_
  (simp only [Act.put, List.setIfInBounds_toArray, List.set_cons_succ, List.set_cons_zero])
  refine flow_run _ rfl (fun _ => rfl) (fun e wx Lx h => by (go_simp; try rfl)) (by intro e; rfl) (by intro e; rfl) (by intro e x; rfl) ?_
  (simp only [Act.put, List.setIfInBounds_toArray, List.set_cons_succ, List.set_cons_zero])
  refine flow_nil ?_
  intro e w1 h
  have h : St M0 w1 (blkR g 137 #[.pointer (some ⟨gd, 0, none⟩), .int .i64 ja, .int .i64 (jn : Nat), .int .u32 jf, .int .u32 je, .int .u32 jl, .slice A13 (k + 1) c13] :: intsR .u8 (.slice A6 64 c6) sb :: dsR gd (D.write ix sb) :: growR 158 2 RecJR (.slice A13 (k + 1) c13) (hl ++ [(je, b)]) :: L) := h
  have H9 := hide (h.sub (L' := blkR g 137 #[.pointer (some ⟨gd, 0, none⟩), .int .i64 ja, .int .i64 (jn : Nat), .int .u32 jf, .int .u32 je, .int .u32 jl, .slice A13 (k + 1) c13] :: growR 158 2 RecJR (.slice A13 (k + 1) c13) (hl ++ [(je, b)]) :: dsR gd (D.write ix sb) :: L) (by (repeat (first | with_reducible exact Sub.refl _ | (with_reducible apply Sub.take; focus (repeat (first | with_reducible exact At.here | with_reducible apply At.there))) | with_reducible apply Sub.drop))))
  clear h H7
  go_wp2_with fail
  go_ret
  rw [EI.out, EB.out]
  exact ⟨rfl, St.addJk (by rw [List.length_append, HK.out]; rfl) H9.out⟩
end Go.Proofs.YtpaelngpmbeedaaGreatDoor
