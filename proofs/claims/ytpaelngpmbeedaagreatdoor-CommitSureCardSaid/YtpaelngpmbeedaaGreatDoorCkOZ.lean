/- commit: begin. -/
import Derived.Test.YtpaelngpmbeedaaGreatDoorCkDZ
import Derived.Test.YtpaelngpmbeedaaGreatDoorUnpP
import Derived.Test.YtpaelngpmbeedaaGreatDoorImgPZ
import Derived.Defers
namespace Go.Proofs.YtpaelngpmbeedaaGreatDoor
open Go.RowKit

theorem lvGo_ok {D : DS} {k : Nat} (hD : DsOk D k) (a ar nu sz : Int) : ∀ (i : Nat) (out : List Int), lvGo D a ar nu sz i = some out → out.length ≤ i * 43 ∧ Bytes out
  | 0, out, h => by
    obtain rfl : [] = out := Option.some.inj h
    exact ⟨Nat.zero_le _, Bytes.nil⟩
  | i + 1, out, h => by
    have h : (lvGo D a ar nu sz i).bind _ = some out := h
    cases hp : lvGo D a ar nu sz i with
    | none => rw [hp] at h; cases h
    | some o =>
      have ih := lvGo_ok hD a ar nu sz i o hp
      rw [hp] at h
      simp only [Option.bind_some] at h
      have hb : Bytes (D.read (a + 2 + ar * 21 + (i : Nat))) := DS.read_bytes hD.b _
      split at h
      · split at h
        · obtain rfl := Option.some.inj h
          have h1 : (lvP D a ar i).b.length ≤ 43 := (parseM_range hb).2.2.2.2
          exact ⟨by rw [List.length_append]; omega, ih.2.append (parseM_bytes hb)⟩
        · cases h
      · obtain rfl := Option.some.inj h
        exact ⟨by omega, ih.2⟩
theorem vLoadB_ok {D : DS} {k : Nat} (hD : DsOk D k) (a : Int) : (vLoadB D a).length ≤ 903 ∧ Bytes (vLoadB D a) := by
  unfold vLoadB
  cases h : vLoadO D a with
  | none => exact ⟨Nat.zero_le _, Bytes.nil⟩
  | some o =>
    unfold vLoadO at h
    split at h
    · cases h
    · have := lvGo_ok hD _ _ _ _ 21 o h
      exact ⟨this.1, this.2⟩
def beginM (D : DS) (a : Int) : Nat → Rg := if vLoadE D a = 0 then (Rd.img ⟨vLoadB D a, false⟩ 4).1 else aw0
theorem begin_ok {D : DS} {k : Nat} (hD : DsOk D k) (a : Int) (h0 : vLoadE D a = 0 → unpE (vLoadB D a) = 0) : ∀ k, (beginM D a k).ok := by
  unfold beginM
  split
  · rename_i h
    exact (unp_law (bs := vLoadB D a) ⟨(vLoadB_ok hD a).2, by have := (vLoadB_ok hD a).1; show (vLoadB D a).length ≤ 140737488355328; omega, fun h => by cases h⟩ (h0 h)).2
  · exact aw_ok0
set_option maxHeartbeats 4000000 in
set_option maxRecDepth 100000 in
theorem begin_st {M0 : Imm} {L : List Res} (hT : Tbl M0) (gd kk : Nat) (D : DS) (a : Int) (w : World) (hD : DsOk D kk) (ha : 0 ≤ a ∧ a + 44 ≤ (D.n : Int)) (h0 : vLoadE D a = 0 → unpE (vLoadB D a) = 0) (h : St M0 w (dsR gd D :: L)) :
    Calls Tryz.prog 32 #[.pointer (some ⟨gd, 0, none⟩), .int .i64 a, .int .i64 21] w fun e w' => ∃ g, e = .returned (.tuple #[.pointer (some ⟨g, 0, none⟩), .int .i64 0]) ∧ St M0 w' (imgR g (beginM D a) :: dsR gd D :: L) := by
  have hE : vLoadE D a = 41 ∨ vLoadE D a = 0 := by unfold vLoadE; split <;> simp
  have HB := hide (vLoadB_ok hD a)
  have HD := hide hD
  have HA := hide ha
  have H0 := hide h0
  have H := hide h
  clear hD ha h0 h
  go_enter Tryz.func32, Tryz.ntmps32
  go_wp2_with fail
  refine (vLoad_st hT gd kk D a _ HD.out HA.out H.out).mono ?_
  rintro e w1 ⟨A1, c1, rfl, h⟩
  clear H
  rcases hE with hE | hE
  · have HM := hide (show beginM D a = aw0 from if_neg (by rw [hE]; decide))
    rw [hE]
    have H1 := hide h.tail.newImg
    clear h hE
    go_wp2_with fail
    go_ret2
    exact ⟨_, rfl, by rw [HM.out]; exact H1.out⟩
  · have HM := hide (show beginM D a = (Rd.img ⟨vLoadB D a, false⟩ 4).1 from if_pos hE)
    have HU := hide (H0.out hE)
    have H1 := hide h
    rw [hE]
    clear h hE
    go_wp2_with fail
    refine (unp_st _ _ _ HB.out.2 (by have := HB.out.1; omega) H1.out).mono ?_
    rintro e w2 ⟨p, rfl, hgood, _, _⟩
    obtain ⟨g, rfl, h⟩ := hgood HU.out
    rw [HU.out]
    have H2 := hide h
    clear h hgood H1
    go_wp2_with fail
    go_ret2
    exact ⟨g, rfl, by rw [HM.out]; exact H2.out⟩
end Go.Proofs.YtpaelngpmbeedaaGreatDoor
/- commit: replay. -/
namespace Go.Proofs.YtpaelngpmbeedaaGreatDoor
open Go.RowKit

def replayM (m : Nat → Rg) (ls : List (List Int)) : Nat → Rg := ls.foldl (fun m b => doM m (decQ b)) m
theorem replayM_snoc {m : Nat → Rg} {ls : List (List Int)} {k : Nat} {x : List Int} (h : ls[k]? = some x) : replayM m (ls.take (k + 1)) = doM (replayM m (ls.take k)) (decQ x) := by
  rw [take_snoc h]
  exact List.foldl_append
theorem replayM_ok : ∀ (ls : List (List Int)) (m : Nat → Rg), (∀ k, (m k).ok) → (∀ b ∈ ls, Bytes b ∧ b.length ≤ 43) → ∀ k, (replayM m ls k).ok
  | [], _, hm, _ => hm
  | b :: r, m, hm, hb => replayM_ok r (doM m (decQ b)) (doM_ok hm (decQ_ok ⟨(hb b (by simp)).1, by have := (hb b (by simp)).2; show b.length ≤ 140737488355328; omega, fun h => by cases h⟩)) (fun x hx => hb x (List.mem_cons_of_mem _ hx))
set_option maxHeartbeats 4000000 in
set_option maxRecDepth 100000 in
theorem replay_st {M0 : Imm} {L : List Res} (g : Nat) (m : Nat → Rg) (v : Value) (ls : List (List Int)) (w : World) (hm : ∀ k, (m k).ok) (hl : ls.length ≤ 100) (hb : ∀ b ∈ ls, Bytes b ∧ b.length ≤ 43) (hd : ∀ b ∈ ls, decQe b = 0) (h : St M0 w (rowsR 1 LogR v ls :: imgR g m :: L)) :
    Calls Tryz.prog 34 #[.pointer (some ⟨g, 0, none⟩), v] w fun e w' => e = .returned (.int .i64 0) ∧ St M0 w' (imgR g (replayM m ls) :: L) := by
  obtain ⟨A, c, rfl, hc, hcm⟩ := (h.getRows 0 rfl).slice
  generalize hn : ls.length = n at *
  have HN := hide hn
  have HB := hide hb
  have HDq := hide hd
  have HM := hide hm
  have HR := hide (fun k => replayM_ok (ls.take k) m hm (fun b hx => hb b (List.mem_of_mem_take hx)))
  have H := hide h
  clear hn h hb hd hm
  go_enter Tryz.func34, Tryz.ntmps34
  go_wp2_with fail
  go_loopg [15] n (fun gh i wr => ∃ k, gh = n - k ∧ k ≤ n ∧ i = .int .i64 (k : Nat) ∧ St M0 wr (rowsR 1 LogR (.slice A n c) ls :: imgR g m :: L))
  case atStart => exact ⟨0, rfl, by omega, rfl, H.out⟩
  case round =>
    obtain ⟨k, hg, hk, rfl, h⟩ := hrel
    have HG := hide hg
    clear hg H
    by_cases hlt : k < n
    · have hx := List.getElem?_eq_getElem (l := ls) (i := k) (by rw [HN.out]; exact hlt)
      generalize ls[k]'(by rw [HN.out]; exact hlt) = x at hx
      obtain ⟨ad, cs, rfl, _, hcs, ⟨vb, rfl, hvb⟩, h1⟩ := h.elem 0 rfl hx
      obtain ⟨A2, c2, rfl, hc2, hm2, hs2⟩ := hvb
      have k0 : wr.cell? (ad.add k) = some (.slice A2 x.length c2) := by simpa [Addr.add] using hcs 0 _ rfl
      have HXB := hide (HB.out x (List.mem_of_getElem? hx))
      have HXD := hide (HDq.out x (List.mem_of_getElem? hx))
      have H1 := hide (h1.pers1 (R' := fun w' => Ints w' .u8 (.slice A2 x.length c2) x) (fun w' hi => by obtain ⟨_, v9, e9, hi⟩ := hi; injection e9 with e9 _; rw [e9]; exact hi))
      generalize hnx : x.length = nx at *
      have HNX := hide hnx
      clear hx hcs h hs2 h1 hnx hc2 hm2
      go_wp2_with fail
      refine (decode_st _ x _ HXB.out.1 (by rw [HNX.out]; have := HXB.out.2; omega) H1.out).mono ?_
      rintro e w2 ⟨A3, n3, c3, rfl, h⟩
      rw [HXD.out]
      have H2 := hide h.tail
      clear h k0 H1
      go_wp2_with fail
      go_roundg (n - (k + 1))
      case measure => have := HG.out; omega
      case rel => exact ⟨k + 1, rfl, by omega, by go_num, H2.out.junk _⟩
    · obtain rfl : k = n := by omega
      have H := hide h
      clear h hk hlt HG
      go_wp2_with fail
      go_loopg [29] k (fun gh i wr => ∃ j, gh = k - j ∧ j ≤ k ∧ i = .int .i64 (j : Nat) ∧ St M0 wr (rowsR 1 LogR (.slice A k c) ls :: imgR g (replayM m (ls.take j)) :: L))
      case atStart => exact ⟨0, rfl, by omega, rfl, H.out⟩
      case round =>
        obtain ⟨j, hg, hk, rfl, h⟩ := hrel
        have HG := hide hg
        clear hg H
        by_cases hlt : j < k
        · have hx := List.getElem?_eq_getElem (l := ls) (i := j) (by rw [HN.out]; exact hlt)
          generalize ls[j]'(by rw [HN.out]; exact hlt) = x at hx
          obtain ⟨ad, cs, rfl, _, hcs, ⟨vb, rfl, hvb⟩, h1⟩ := h.elem 0 rfl hx
          obtain ⟨A2, c2, rfl, hc2, hm2, hs2⟩ := hvb
          have k0 : wr.cell? (ad.add j) = some (.slice A2 x.length c2) := by simpa [Addr.add] using hcs 0 _ rfl
          have HXB := hide (HB.out x (List.mem_of_getElem? hx))
          have HXD := hide (HDq.out x (List.mem_of_getElem? hx))
          have HSN := hide (replayM_snoc (m := m) hx)
          have HRJ := hide (HR.out j)
          have H1 := hide (h1.pers1 (R' := fun w' => Ints w' .u8 (.slice A2 x.length c2) x) (fun w' hi => by obtain ⟨_, v9, e9, hi⟩ := hi; injection e9 with e9 _; rw [e9]; exact hi))
          generalize hnx : x.length = nx at *
          have HNX := hide hnx
          clear hx hcs h hs2 h1 hnx hc2 hm2
          have HOK := hide (decQ_ok (bs := x) ⟨HXB.out.1, by show x.length ≤ 140737488355328; rw [HNX.out]; have := HXB.out.2; omega, fun h => by cases h⟩)
          go_wp2_with fail
          refine (decode_st _ x _ HXB.out.1 (by rw [HNX.out]; have := HXB.out.2; omega) H1.out).mono ?_
          rintro e w2 ⟨A3, n3, c3, rfl, h⟩
          rw [HXD.out]
          generalize decQ x = r at *
          have H2 := hide ((h.alloc 42 #[.int .i64 r.op, .int .i64 r.region, .int .i64 r.index, .int .u64 r.token, .int .u32 r.seq, .slice A3 n3 c3]).sub (L' := intsR .u8 (.slice A3 n3 c3) r.data :: imgR g (replayM m (ls.take j)) :: rowsR 1 LogR (.slice (some ad) k c) ls :: blkR w2.heap.size 42 #[.int .i64 r.op, .int .i64 r.region, .int .i64 r.index, .int .u64 r.token, .int .u32 r.seq, .slice A3 n3 c3] :: L) (by (repeat (first | with_reducible exact Sub.refl _ | (with_reducible apply Sub.take; focus (repeat (first | with_reducible exact At.here | with_reducible apply At.there))) | with_reducible apply Sub.drop))))
          obtain ⟨e0, e1, e2, e3, e4, e5⟩ := (H2.out.blk 3 rfl).six
          clear h k0 H1
          go_wp2_with fail
          refine (do_st g _ r A3 n3 c3 _ HOK.out HRJ.out H2.out).mono ?_
          rintro e w3 ⟨V, rfl, h⟩
          rw [← HSN.out] at h
          have H3 := hide (h.sub (L' := rowsR 1 LogR (.slice (some ad) k c) ls :: imgR g (replayM m (ls.take (j + 1))) :: L) (by (repeat (first | with_reducible exact Sub.refl _ | (with_reducible apply Sub.take; focus (repeat (first | with_reducible exact At.here | with_reducible apply At.there))) | with_reducible apply Sub.drop))))
          clear h H2 e0 e1 e2 e3 e4 e5
          go_wp2_with fail
          go_roundg (k - (j + 1))
          case measure => have := HG.out; omega
          case rel => exact ⟨j + 1, rfl, by omega, by go_num, H3.out⟩
        · obtain rfl : j = k := by omega
          rw [List.take_of_length_le (by rw [HN.out]; exact Nat.le_refl _)] at h
          have H := hide h.tail
          clear h hk hlt HG
          go_wp2_with fail
          go_ret
          exact ⟨rfl, H.out⟩
end Go.Proofs.YtpaelngpmbeedaaGreatDoor
/- commit.Open: the good road. -/
namespace Go.Proofs.YtpaelngpmbeedaaGreatDoor
open Go.RowKit

def openJ (D : DS) (a : Int) (ring : Nat) : JM := jOpenJ D (a + 44) ring
def openD (D : DS) (a : Int) (ring : Nat) : DS := jOpenD D (a + 44) ring
def openM (D : DS) (a : Int) (ring : Nat) : Nat → Rg := replayM (beginM D a) (openJ D a ring).all
structure OpOk (D : DS) (a : Int) (ring : Nat) : Prop where
  a0 : 0 ≤ a ∧ a + 44 ≤ (D.n : Int)
  u : vLoadE D a = 0 → unpE (vLoadB D a) = 0
  j : JoOk D (a + 44) ring
  d : ∀ b ∈ (openJ D a ring).all, decQe b = 0
theorem OpOk.bs {D : DS} {a : Int} {ring k : Nat} (hD : DsOk D k) (h : OpOk D a ring) : ∀ b ∈ (openJ D a ring).all, Bytes b ∧ b.length ≤ 43 := by
  intro b hb
  obtain ⟨x, hx, rfl⟩ := List.mem_map.1 hb
  have := (h.j.open hD).b0 x hx
  exact ⟨this.2.1, this.1⟩
theorem OpOk.m {D : DS} {a : Int} {ring k : Nat} (hD : DsOk D k) (h : OpOk D a ring) : ∀ k, (openM D a ring k).ok :=
  replayM_ok _ _ (begin_ok hD a h.u) (h.bs hD)
abbrev srvC (gd gj gi : Nat) (a : Int) (ring : Nat) (dn : Bool) : Array Value := #[.pointer (some ⟨gd, 0, none⟩), .pointer (some ⟨gj, 0, none⟩), .pointer (some ⟨gi, 0, none⟩), .int .i64 a, .int .i64 21, .int .i64 (ring : Nat), .bool dn]
set_option maxHeartbeats 4000000 in
set_option maxRecDepth 100000 in
theorem cOpen_st {M0 : Imm} {L : List Res} (hT : Tbl M0) (gd kk : Nat) (D : DS) (a : Int) (ring : Nat) (w : World) (hD : DsOk D kk) (hkk : kk ≤ 900000) (hO : OpOk D a ring) (h : St M0 w (dsR gd D :: L)) :
    Calls Tryz.prog 13 #[.pointer (some ⟨gd, 0, none⟩), .int .i64 a, .int .i64 21, .int .i64 (ring : Nat)] w fun e w' => ∃ gs gj gi, e = .returned (.tuple #[.pointer (some ⟨gs, 0, none⟩), .int .i64 0]) ∧ St M0 w' (blkR gs 73 (srvC gd gj gi a ring false) :: jR gj gd (openJ D a ring) :: imgR gi (openM D a ring) :: dsR gd (openD D a ring) :: L) := by
  have HD := hide hD
  have HO := hide hO
  have h0 := hO.a0
  have h1 := hO.j.a0
  have v1 : IntKind.i64.wrap (a + 2) = a + 2 := IntWalk.i64_in _ (by omega)
  have v2 : IntKind.i64.wrap (a + 2 + 42) = a + 44 := (IntWalk.i64_in _ (by omega)).trans (by omega)
  have H := hide h
  clear h hD hO h0 h1
  go_enter Tryz.func13, Tryz.ntmps13
  go_wp2_with fail
  refine (begin_st hT gd kk D a _ HD.out HO.out.a0 HO.out.u H.out).mono ?_
  rintro e w1 ⟨gi, rfl, h⟩
  have H1 := hide h.swap
  clear h H
  go_wp2_with fail
  refine (jOpen_st hT gd kk D (a + 44) ring _ HD.out hkk HO.out.j H1.out).mono ?_
  rintro e w2 ⟨gj, V, rfl, h⟩
  have h : St M0 w2 (rowsR 1 LogR V (openJ D a ring).all :: jR gj gd (openJ D a ring) :: dsR gd (openD D a ring) :: imgR gi (beginM D a) :: L) := h
  have H2 := hide (h.sub (L' := rowsR 1 LogR V (openJ D a ring).all :: imgR gi (beginM D a) :: jR gj gd (openJ D a ring) :: dsR gd (openD D a ring) :: L) (by (repeat (first | with_reducible exact Sub.refl _ | (with_reducible apply Sub.take; focus (repeat (first | with_reducible exact At.here | with_reducible apply At.there))) | with_reducible apply Sub.drop))))
  clear h H1
  go_wp2_with fail
  refine (replay_st gi _ V _ _ (begin_ok HD.out a HO.out.u) (by have h1 := (HO.out.j.open HD.out).h0; have h2 := (HO.out.j.open HD.out).n0; show (List.map _ _).length ≤ 100; rw [List.length_map]; exact Nat.le_trans h1 h2.2) (HO.out.bs HD.out) HO.out.d H2.out).mono ?_
  rintro e w3 ⟨rfl, h⟩
  have h : St M0 w3 (imgR gi (openM D a ring) :: jR gj gd (openJ D a ring) :: dsR gd (openD D a ring) :: L) := h
  have H3 := hide ((h.alloc 73 (srvC gd gj gi a ring false)).sub (L' := blkR w3.heap.size 73 (srvC gd gj gi a ring false) :: jR gj gd (openJ D a ring) :: imgR gi (openM D a ring) :: dsR gd (openD D a ring) :: L) (by (repeat (first | with_reducible exact Sub.refl _ | (with_reducible apply Sub.take; focus (repeat (first | with_reducible exact At.here | with_reducible apply At.there))) | with_reducible apply Sub.drop))))
  clear h H2
  go_wp2_with fail
  go_ret2
  exact ⟨_, gj, gi, rfl, H3.out⟩
end Go.Proofs.YtpaelngpmbeedaaGreatDoor
/- commit: Len, Image, and Checkpoint's deferred closure. -/
namespace Go.Proofs.YtpaelngpmbeedaaGreatDoor
open Go.RowKit

theorem srv7 {gs gd gj gi : Nat} {a : Int} {ring : Nat} {dn : Bool} {w : World} (h : Blk w gs 73 (srvC gd gj gi a ring dn)) :
    w.cell? ⟨gs, 0, none⟩ = some (.pointer (some ⟨gd, 0, none⟩)) ∧ w.cell? ⟨gs, 1, none⟩ = some (.pointer (some ⟨gj, 0, none⟩)) ∧ w.cell? ⟨gs, 2, none⟩ = some (.pointer (some ⟨gi, 0, none⟩)) ∧ w.cell? ⟨gs, 3, none⟩ = some (.int .i64 a) ∧ w.cell? ⟨gs, 4, none⟩ = some (.int .i64 21) ∧ w.cell? ⟨gs, 5, none⟩ = some (.int .i64 (ring : Nat)) ∧ w.cell? ⟨gs, 6, none⟩ = some (.bool dn) :=
  ⟨h.cell 0, h.cell 1, h.cell 2, h.cell 3, h.cell 4, h.cell 5, h.cell 6⟩
set_option maxHeartbeats 400000 in
theorem cLen_st {M0 : Imm} {L : List Res} (gs gd gj gi : Nat) (a : Int) (ring : Nat) (dn : Bool) (J : JM) (w : World) (h : St M0 w (blkR gs 73 (srvC gd gj gi a ring dn) :: jR gj gd J :: L)) :
    Calls Tryz.prog 22 #[.pointer (some ⟨gs, 0, none⟩)] w fun e w' => e = .returned (.int .i64 (J.held.length : Nat)) ∧ St M0 w' (blkR gs 73 (srvC gd gj gi a ring dn) :: jR gj gd J :: L) := by
  have c1 := (h.blk 0 rfl).cell 1
  have H := hide h.swap
  clear h
  go_enter Tryz.func22, Tryz.ntmps22
  go_wp2_with fail
  refine (jLen_st gj gd J _ H.out).mono ?_
  rintro e w1 ⟨rfl, h⟩
  have H1 := hide h.swap
  clear h H c1
  go_wp2_with fail
  go_ret
  exact ⟨rfl, H1.out⟩
set_option maxHeartbeats 400000 in
theorem cImage_q (gs gd gj gi : Nat) (a : Int) (ring : Nat) (dn : Bool) (w : World) (h : Blk w gs 73 (srvC gd gj gi a ring dn)) :
    Calls Tryz.prog 14 #[.pointer (some ⟨gs, 0, none⟩)] w fun e w' => e = .returned (.pointer (some ⟨gi, 0, none⟩)) ∧ w' = w := by
  have c2 := h.cell 2
  clear h
  go_enter Tryz.func14, Tryz.ntmps14
  go_wp2_with fail
  go_ret
  exact ⟨rfl, rfl⟩
set_option maxHeartbeats 400000 in
theorem cpd_st {M0 : Imm} {L : List Res} (gs gd gj gi ge gb : Nat) (a : Int) (ring : Nat) (dn : Bool) (v : Int) (u : FrameMode) (w : World) (h : St M0 w (blkR gs 73 (srvC gd gj gi a ring dn) :: blkR ge 45 #[.int .i64 v] :: blkR gb 26 #[.pointer (some ⟨gs, 0, none⟩)] :: L)) :
    CallsD Tryz.prog 38 #[.pointer (some ⟨ge, 0, none⟩), .pointer (some ⟨gb, 0, none⟩)] u w fun e u' w' => u' = u ∧ (e = .returned (.tuple #[]) ∧ St M0 w' (blkR gs 73 (srvC gd gj gi a ring (v == 43)) :: blkR ge 45 #[.int .i64 v] :: blkR gb 26 #[.pointer (some ⟨gs, 0, none⟩)] :: L)) := by
  have x6 := (h.blk 0 rfl).cell 6
  have f := (h.blk 0 rfl).frozen
  have e0 := (h.blk 1 rfl).cell 0
  have b0 := (h.blk 2 rfl).cell 0
  have H := hide (h.put_ 6 (.bool (v == 43)) (srvC gd gj gi a ring (v == 43)))
  clear h
  go_enter_d Tryz.func38, Tryz.ntmps38
  go_wp2_with fail
  go_end0
  exact ⟨rfl, H.out⟩
end Go.Proofs.YtpaelngpmbeedaaGreatDoor
