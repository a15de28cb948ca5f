/- CommitSure: the document's image beside the server; Checkpoint on a server that is down. -/
import Derived.Test.YtpaelngpmbeedaaGreatDoorUnpS
import Derived.Test.YtpaelngpmbeedaaGreatDoorRimP
import Derived.Test.YtpaelngpmbeedaaGreatDoorCkGZ
import Derived.Test.YtpaelngpmbeedaaGreatDoorCsC
namespace Go.Proofs.YtpaelngpmbeedaaGreatDoor
open Go.RowKit

theorem doc22_any (r : RQ) (A : Option Addr) (n c : Nat) (w : World) : Calls Tryz.prog 11 #[reqV r (.slice A n c)] w fun e w' => e = .returned (reqV r (.slice A n c)) ∧ Fr Non w w' := by
  obtain ⟨op, region, index, token, seq, data⟩ := r
  go_enter Tryz.func11, Tryz.ntmps11
  go_wp2
  refine bodyPost_ret (v := reqV ⟨op, region, index, token, seq, data⟩ (.slice A n c)) (results_cell1 rfl _ rfl ?_) rfl ⟨rfl, ((Fr.refl _ _).alloc _).alloc _⟩
  go_simp

theorem packI_short {m : Nat → Rg} (h : MI m) : (packI m).length ≤ 1000000 := by
  have := h.mok.pl
  omega
set_option maxRecDepth 100000 in
set_option maxHeartbeats 8000000 in
theorem after22_st {M0 : Imm} {L : List Res} (g : Nat) (m : Nat → Rg) (r : RQ) (A : Option Addr) (n c : Nat) (w : World) (hr : r.ok) (hM : MI m) (h : St M0 w (intsR .u8 (.slice A n c) r.data :: rimR g m :: L)) :
    Calls Tryz.prog 10 #[.pointer (some ⟨g, 0, none⟩), reqV r (.slice A n c)] w fun e w' => ∃ g', e = .returned (.pointer (some ⟨g', 0, none⟩)) ∧ St M0 w' (rimR g' (doM m r) :: rimR g m :: L) := by
  have h1 := h.alloc 51 #[.int .i64 r.op, .int .i64 r.region, .int .i64 r.index, .int .u64 r.token, .int .u32 r.seq, .slice A n c]
  have H1 := hide (h1.sub (L' := rimR g m :: intsR .u8 (.slice A n c) r.data :: blkR w.heap.size 51 #[.int .i64 r.op, .int .i64 r.region, .int .i64 r.index, .int .u64 r.token, .int .u32 r.seq, .slice A n c] :: L) (by (repeat (first | with_reducible exact Sub.refl _ | (with_reducible apply Sub.take; focus (repeat (first | with_reducible exact At.here | with_reducible apply At.there))) | with_reducible apply Sub.drop))))
  have HR := hide hr
  have HM := hide hM
  obtain ⟨gb, hgb⟩ : ∃ gb, gb = w.heap.size := ⟨_, rfl⟩
  rw [← hgb] at H1
  have HGB := hide hgb
  clear h h1 hr hM hgb
  go_enter Tryz.func10, Tryz.ntmps10
  go_wp2_with fail
  rw [← HGB.out]
  refine (rpack_st g m _ HM.out.ok H1.out).mono ?_
  rintro e w1 ⟨v, rfl, h⟩
  obtain ⟨A1, c1, rfl⟩ := h.slice
  have H2 := hide h.ints
  clear h H1
  generalize (packI m).length = nk at *
  go_wp2_with fail
  refine (runq_st _ (packI m) _ HM.out.mok.pb (packI_short HM.out) H2.out).mono ?_
  rintro e w2 ⟨hq, _⟩
  obtain ⟨g', rfl, h⟩ := hq (unp_back HM.out)
  rw [img_back HM.out] at h
  have H3 := hide (h.sub (L' := intsR .u8 (.slice A n c) r.data :: rimR g' m :: blkR gb 51 #[.int .i64 r.op, .int .i64 r.region, .int .i64 r.index, .int .u64 r.token, .int .u32 r.seq, .slice A n c] :: rimR g m :: L) (by (repeat (first | with_reducible exact Sub.refl _ | (with_reducible apply Sub.take; focus (repeat (first | with_reducible exact At.here | with_reducible apply At.there))) | with_reducible apply Sub.drop))))
  obtain ⟨r0, r1, r2, r3, r4, r5⟩ := (H3.out.blk 2 rfl).six
  clear h hq H2
  go_wp2_with fail
  refine (rdo_st g' m r A n c _ HR.out HM.out.ok H3.out).mono ?_
  rintro e w3 ⟨V, rfl, h⟩
  have H4 := hide (h.sub (L' := rimR g' (doM m r) :: rimR g m :: L) (by (repeat (first | with_reducible exact Sub.refl _ | (with_reducible apply Sub.take; focus (repeat (first | with_reducible exact At.here | with_reducible apply At.there))) | with_reducible apply Sub.drop))))
  clear h H3 r0 r1 r2 r3 r4 r5
  go_wp2_with fail
  go_ret
  exact ⟨g', rfl, H4.out⟩

set_option maxRecDepth 100000 in
set_option maxHeartbeats 8000000 in
theorem cpDn_st {M0 : Imm} {L : List Res} (gs gd gj gi : Nat) (a : Int) (ring : Nat) (w : World) (h : St M0 w (blkR gs 73 (srvC gd gj gi a ring true) :: L)) :
    Calls Tryz.prog 17 #[.pointer (some ⟨gs, 0, none⟩)] w fun e w' => e = .returned (.int .i64 43) ∧ St M0 w' (blkR gs 73 (srvC gd gj gi a ring true) :: L) := by
  have h1 := (h.alloc 26 #[.pointer (some ⟨gs, 0, none⟩)]).alloc 45 #[.int .i64 0]
  simp only [World.size_alloc] at h1
  obtain ⟨_, _, _, _, _, _, c6⟩ := srv7 (h1.blk 2 rfl)
  have b0 := (h1.blk 1 rfl).cell 0
  have x0 := (h1.blk 0 rfl).cell 0
  have fe := (h1.blk 0 rfl).frozen
  have h6 := (h.alloc 26 #[.pointer (some ⟨gs, 0, none⟩)]).alloc 45 #[.int .i64 43]
  simp only [World.size_alloc] at h6
  have H6 := hide h6
  clear h h1 h6
  go_enter_defers Tryz.func17, Tryz.ntmps17
  go_wp2_with fail
  have y0 := (H6.out.blk 0 rfl).cell 0
  refine ⟨.int .i64 43, results_cell1 rfl _ rfl ?_, rfl, ?_⟩
  · go_simp
  · exact H6.out.sub (by (repeat (first | with_reducible exact Sub.refl _ | (with_reducible apply Sub.take; focus (repeat (first | with_reducible exact At.here | with_reducible apply At.there))) | with_reducible apply Sub.drop)))

/-! ### what is sure and what may be: one image, or two -/
def twoR (gsu : Nat) (m : Nat → Rg) (gmb : Nat) (q : Nat → Rg) : Res := exR fun b : Bool => if b then starR (pureR (gmb = gsu ∧ q = m)) (rimR gsu m) else starR (rimR gsu m) (rimR gmb q)
section
variable {M0 : Imm} {w : World} {L : List Res} {gsu gmb : Nat} {m q : Nat → Rg}
theorem St.twoOpen (h : St M0 w (twoR gsu m gmb q :: L)) : (gmb = gsu ∧ q = m ∧ St M0 w (rimR gsu m :: L)) ∨ St M0 w (rimR gsu m :: rimR gmb q :: L) := by
  obtain ⟨b, h⟩ := h.ex
  cases b with
  | true =>
    have h : St M0 w (starR (pureR (gmb = gsu ∧ q = m)) (rimR gsu m) :: L) := h
    obtain ⟨⟨e1, e2⟩, h⟩ := h.star.pure_
    exact .inl ⟨e1, e2, h⟩
  | false =>
    have h : St M0 w (starR (rimR gsu m) (rimR gmb q) :: L) := h
    exact .inr h.star
theorem St.twoOne {g : Nat} (h : St M0 w (rimR g m :: L)) : St M0 w (twoR g m g m :: L) :=
  St.addEx (f := fun b : Bool => if b then starR (pureR (g = g ∧ m = m)) (rimR g m) else starR (rimR g m) (rimR g m)) true (St.addStar (h.addP ⟨rfl, rfl⟩))
theorem St.twoTwo (h : St M0 w (rimR gsu m :: rimR gmb q :: L)) : St M0 w (twoR gsu m gmb q :: L) :=
  St.addEx (f := fun b : Bool => if b then starR (pureR (gmb = gsu ∧ q = m)) (rimR gsu m) else starR (rimR gsu m) (rimR gmb q)) false h.addStar
theorem St.twoSure (h : St M0 w (twoR gsu m gmb q :: L)) : St M0 w (rimR gsu m :: L) := by
  rcases h.twoOpen with ⟨_, _, h⟩ | h
  · exact h
  · exact h.swap.tail
theorem St.twoMaybe (h : St M0 w (twoR gsu m gmb q :: L)) : St M0 w (rimR gmb q :: L) := by
  rcases h.twoOpen with ⟨rfl, rfl, h⟩ | h
  · exact h
  · exact h.tail
theorem packS_st (hm : ∀ k, (m k).ok) (h : St M0 w (twoR gsu m gmb q :: L)) :
    Calls Tryz.prog 9 #[.pointer (some ⟨gsu, 0, none⟩)] w fun e w' => ∃ A c, e = .returned (.slice A (packI m).length c) ∧ St M0 w' (intsR .u8 (.slice A (packI m).length c) (packI m) :: twoR gsu m gmb q :: L) := by
  rcases h.twoOpen with ⟨rfl, rfl, h⟩ | h
  · refine (rpack_st gmb q _ hm h).mono ?_
    rintro e w' ⟨v, rfl, h⟩
    obtain ⟨A, c, rfl⟩ := h.slice
    exact ⟨A, c, rfl, h.ints.swap.twoOne.swap⟩
  · refine (rpack_st gsu m _ hm h).mono ?_
    rintro e w' ⟨v, rfl, h⟩
    obtain ⟨A, c, rfl⟩ := h.slice
    exact ⟨A, c, rfl, (h.ints.sub (L' := rimR gsu m :: rimR gmb q :: intsR .u8 (.slice A (packI m).length c) (packI m) :: L) (by (repeat (first | with_reducible exact Sub.refl _ | (with_reducible apply Sub.take; focus (repeat (first | with_reducible exact At.here | with_reducible apply At.there))) | with_reducible apply Sub.drop)))).twoTwo.swap⟩
theorem packM_st (hq : ∀ k, (q k).ok) (h : St M0 w (twoR gsu m gmb q :: L)) :
    Calls Tryz.prog 9 #[.pointer (some ⟨gmb, 0, none⟩)] w fun e w' => ∃ A c, e = .returned (.slice A (packI q).length c) ∧ St M0 w' (intsR .u8 (.slice A (packI q).length c) (packI q) :: twoR gsu m gmb q :: L) := by
  rcases h.twoOpen with ⟨rfl, rfl, h⟩ | h
  · refine (rpack_st gmb q _ hq h).mono ?_
    rintro e w' ⟨v, rfl, h⟩
    obtain ⟨A, c, rfl⟩ := h.slice
    exact ⟨A, c, rfl, h.ints.swap.twoOne.swap⟩
  · refine (rpack_st gmb q _ hq h.swap).mono ?_
    rintro e w' ⟨v, rfl, h⟩
    obtain ⟨A, c, rfl⟩ := h.slice
    exact ⟨A, c, rfl, (h.ints.sub (L' := rimR gsu m :: rimR gmb q :: intsR .u8 (.slice A (packI q).length c) (packI q) :: L) (by (repeat (first | with_reducible exact Sub.refl _ | (with_reducible apply Sub.take; focus (repeat (first | with_reducible exact At.here | with_reducible apply At.there))) | with_reducible apply Sub.drop)))).twoTwo.swap⟩
theorem afterS_st (r : RQ) (A : Option Addr) (n c : Nat) (hr : r.ok) (hM : MI m) (h : St M0 w (intsR .u8 (.slice A n c) r.data :: twoR gsu m gmb q :: L)) :
    Calls Tryz.prog 10 #[.pointer (some ⟨gsu, 0, none⟩), reqV r (.slice A n c)] w fun e w' => ∃ g', e = .returned (.pointer (some ⟨g', 0, none⟩)) ∧ St M0 w' (rimR g' (doM m r) :: rimR gsu m :: L) :=
  after22_st gsu m r A n c w hr hM h.swap.twoSure.swap
end
end Go.Proofs.YtpaelngpmbeedaaGreatDoor
