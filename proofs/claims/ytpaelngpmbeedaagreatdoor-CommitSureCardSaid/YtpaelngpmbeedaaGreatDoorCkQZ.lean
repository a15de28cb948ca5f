/- CommitChecks: what the walks ask, as tests; the examples' states, computed. -/
import Derived.Test.YtpaelngpmbeedaaGreatDoorCkGZ
namespace Go.Proofs.YtpaelngpmbeedaaGreatDoor

/-! ### the tests -/
def byB (l : List Int) : Bool := l.all fun x => decide (0 ≤ x) && decide (x ≤ 255)
theorem byB_ok {l : List Int} (h : byB l = true) : Bytes l := by
  intro x hx
  have := List.all_eq_true.1 h x hx
  simp only [Bool.and_eq_true, decide_eq_true_eq] at this
  exact this
def dsB (D : DS) (k : Nat) : Bool := decide (1 ≤ D.n) && (decide (D.n ≤ 512) && (decide (D.seen.length = D.n * 64) && (decide (D.sure.length = D.n * 64) && (D.pend.all (fun p => decide (p.1 < D.n) && decide (p.2.length = 64)) && (decide (-9223372036854775808 ≤ D.fuse) && (decide (D.fuse ≤ 9223372036854775807) && (byB D.seen && decide (D.pend.length ≤ k))))))))
theorem dsB_ok {D : DS} {k : Nat} (h : dsB D k = true) : DsOk D k := by
  simp only [dsB, Bool.and_eq_true, decide_eq_true_eq] at h
  obtain ⟨h1, h2, h3, h4, h5, h6, h7, h8, h9⟩ := h
  refine ⟨⟨h1, h2, h3, h4, fun p hp => ?_, h6, h7⟩, byB_ok h8, h9⟩
  have := List.all_eq_true.1 h5 p hp
  simp only [Bool.and_eq_true, decide_eq_true_eq] at this
  exact this
def jB (J : JM) : Bool := decide (0 ≤ J.at_ ∧ J.at_ ≤ 1000) && (decide (1 ≤ J.n ∧ J.n ≤ 100) && (decide (0 ≤ J.first ∧ J.first ≤ 4000000000) && (decide (0 ≤ J.ep ∧ J.ep < 4294967296) && (decide (0 ≤ J.low ∧ J.low < 4294967296) && (decide (J.held.length ≤ J.n) && J.held.all (fun x => decide (x.2.length ≤ 43) && (byB x.2 && decide (0 ≤ x.1 ∧ x.1 < 4294967296))))))))
theorem jB_ok {J : JM} (h : jB J = true) : JOk J := by
  simp only [jB, Bool.and_eq_true, decide_eq_true_eq] at h
  obtain ⟨h1, h2, h3, h4, h5, h6, h7⟩ := h
  refine ⟨h1, h2, h3, h4, h5, h6, fun x hx => ?_⟩
  have := List.all_eq_true.1 h7 x hx
  simp only [Bool.and_eq_true, decide_eq_true_eq] at this
  exact ⟨this.1, byB_ok this.2.1, this.2.2⟩
def soB (s : SM) (a : Int) (ring k : Nat) : Bool := dsB s.D k && (jB s.J && (decide ((packI s.M).length ≤ 903) && (byB (packI s.M) && (decide (s.J.first + (s.J.held.length : Nat) ≤ 4000000000) && (decide (0 ≤ a ∧ a + 44 ≤ (s.D.n : Int)) && (decide (0 ≤ s.J.at_ ∧ s.J.at_ + 1 < (s.D.n : Int)) && decide (s.J.n = ring)))))))
theorem soB_ok {s : SM} {a : Int} {ring k : Nat} (h : soB s a ring k = true) (hm : ∀ k, (s.M k).ok) : SOk s a ring k := by
  simp only [soB, Bool.and_eq_true, decide_eq_true_eq] at h
  obtain ⟨h1, h2, h3, h4, h5, h6, h7, h8⟩ := h
  exact ⟨dsB_ok h1, ⟨hm, h3, byB_ok h4⟩, jB_ok h2, h5, h6, h7, h8⟩
def opB (D : DS) (a : Int) (ring : Nat) : Bool := decide (0 ≤ a ∧ a + 44 ≤ (D.n : Int)) && (decide (vLoadE D a = 0 → unpE (vLoadB D a) = 0) && ((openJ D a ring).all.all (fun b => decide (decQe b = 0)) &&
  (decide (0 ≤ a + 44 ∧ a + 44 + 2 + (ring : Int) ≤ (D.n : Int) ∧ a + 44 ≤ 1000) && (decide (1 ≤ ring ∧ ring ≤ 100) && (decide (loadE D (a + 44) = 0 → metaOk (loadB D (a + 44)) = true) && (decide (0 ≤ (jMetaJ D (a + 44) ring).first ∧ (jMetaJ D (a + 44) ring).first ≤ 4000000000) && (decide (0 ≤ (jMetaJ D (a + 44) ring).ep ∧ (jMetaJ D (a + 44) ring).ep < 4294967295) && (decide (0 ≤ (jMetaJ D (a + 44) ring).low ∧ (jMetaJ D (a + 44) ring).low < 4294967296) && decide (saveE D (a + 44) (jOpenJ D (a + 44) ring).slot = 0)))))))))
theorem opB_ok {D : DS} {a : Int} {ring : Nat} (h : opB D a ring = true) : OpOk D a ring := by
  simp only [opB, Bool.and_eq_true, decide_eq_true_eq] at h
  obtain ⟨h1, h2, h3, h4, h5, h6, h7, h8, h9, h10⟩ := h
  refine ⟨h1, h2, ⟨h4, h5, h6, h7, h8, h9, h10⟩, fun b hb => ?_⟩
  have := List.all_eq_true.1 h3 b hb
  simpa using this

/-! ### the examples -/
def srvOf (D : DS) : SM := ⟨openM D 1 6, openD D 1 6, openJ D 1 6, false⟩
abbrev put1 : RQ := ⟨2, 0, 0, 1, 1, [97]⟩
abbrev put2 : RQ := ⟨2, 0, 0, 1, 2, [98]⟩
abbrev get1 : RQ := ⟨1, 0, 0, 1, 0, []⟩
def ds0 : DS := DS.new 60
def sa0 : SM := srvOf ds0
def sa1 : SM := sa0.doS 1 6 put1
def ds2 : DS := sa1.D.crash []
def sa2 : SM := srvOf ds2
def sa3 : SM := sa2.doS 1 6 get1
def sa4 : SM := sa3.cpS 1
def ds5 : DS := sa4.D.crash []
def sa5 : SM := srvOf ds5
def sa6 : SM := sa5.doS 1 6 get1
def sa7 : SM := { sa6 with D := { sa6.D with fuse := 0 } }
def sa8 : SM := sa7.doS 1 6 put2
def ds9 : DS := sa8.D.crash [64]
def sa9 : SM := srvOf ds9
set_option maxRecDepth 1000000
theorem op0 : opB ds0 1 6 = true := by decide +kernel
theorem so0 : soB sa0 1 6 100 = true := by decide +kernel
theorem eE1 : sa0.doE 1 6 put1 = 0 := by decide +kernel
theorem op2 : opB ds2 1 6 = true := by decide +kernel
theorem so2 : soB sa2 1 6 100 = true := by decide +kernel
theorem eO2 : sa2.doO 1 6 get1 = [[97]] := by decide +kernel
theorem so3 : soB sa3 1 6 100 = true := by decide +kernel
theorem eC3 : cpE sa3.M sa3.D sa3.J 1 = 0 := by decide +kernel
theorem op5 : opB ds5 1 6 = true := by decide +kernel
theorem so5 : soB sa5 1 6 100 = true := by decide +kernel
theorem eO5 : sa5.doO 1 6 get1 = [[97]] := by decide +kernel
theorem eN6 : sa6.J.held.length = 0 := by decide +kernel
theorem so7 : soB sa7 1 6 100 = true := by decide +kernel
theorem eE7 : sa7.doE 1 6 put2 = 43 := by decide +kernel
theorem op9 : opB ds9 1 6 = true := by decide +kernel
theorem so9 : soB sa9 1 6 100 = true := by decide +kernel
theorem eO9 : (sa9.doO 1 6 get1).length = 1 := by decide +kernel
end Go.Proofs.YtpaelngpmbeedaaGreatDoor
/- CommitChecks: opened. -/
namespace Go.Proofs.YtpaelngpmbeedaaGreatDoor
open Go.RowKit

set_option maxRecDepth 1000000
theorem ds0_dok : DsOk ds0 0 := dsB_ok (by decide +kernel)
theorem sa0_m : ∀ k, (sa0.M k).ok := fun k => OpOk.m (D := ds0) (a := 1) (ring := 6) (k := 0) ds0_dok (opB_ok op0) k
set_option maxHeartbeats 1000000 in
set_option maxRecDepth 100000 in
theorem opened_st {M0 : Imm} {L : List Res} (hT : Tbl M0) (w : World) (h : St M0 w L) :
    Calls Tryz.prog 6 #[] w fun e w' => ∃ gd gs gj gi, e = .returned (.tuple #[.pointer (some ⟨gd, 0, none⟩), .pointer (some ⟨gs, 0, none⟩)]) ∧ St M0 w' (srvR gs gd gj gi 1 6 sa0 L) := by
  have H := hide h
  clear h
  go_enter Tryz.func6, Tryz.ntmps6
  go_wp2_with fail
  refine (new_ds 60 (by decide) (by decide) H.out).mono ?_
  rintro e w1 ⟨gd, rfl, h⟩
  have h : St M0 w1 (dsR gd ds0 :: L) := h
  have H1 := hide h
  clear h H
  go_wp2_with fail
  refine (cOpen_st hT gd 0 ds0 1 6 _ ds0_dok (by decide) (opB_ok op0) H1.out).mono ?_
  rintro e w2 ⟨gs, gj, gi, rfl, h⟩
  have H2 := hide h
  clear h H1
  go_wp2_with fail
  go_ret2
  exact ⟨gd, gs, gj, gi, rfl, H2.out⟩
end Go.Proofs.YtpaelngpmbeedaaGreatDoor
/- CommitChecks: more of the examples' states, computed. -/
namespace Go.Proofs.YtpaelngpmbeedaaGreatDoor

set_option maxRecDepth 1000000
theorem dz1 : dsB sa1.D 1000 = true := by decide +kernel
theorem dz2 : dsB ds2 1000 = true := by decide +kernel
theorem dz4 : dsB sa4.D 1000 = true := by decide +kernel
theorem dz5 : dsB ds5 1000 = true := by decide +kernel
theorem dz8 : dsB sa8.D 1000 = true := by decide +kernel
theorem dz9 : dsB ds9 1000 = true := by decide +kernel
theorem eP9 : sa9.doO 1 6 get1 = [[97]] := by decide +kernel
theorem SM.doS_m {s : SM} {r : RQ} {a : Int} {ring : Nat} (h : ∀ k, (s.M k).ok) (hr : r.ok) : ∀ k, ((s.doS a ring r).M k).ok := by
  have hM : (s.logS a ring r).M = s.M := by unfold SM.logS; split <;> rfl
  unfold SM.doS
  split
  · exact doM_ok h hr
  · rw [hM]; exact h
theorem put1_ok : put1.ok := ⟨by decide, by decide, by decide, by decide⟩
theorem put2_ok : put2.ok := ⟨by decide, by decide, by decide, by decide⟩
theorem get1_ok : get1.ok := ⟨by decide, by decide, by decide, by decide⟩
theorem sa2_m : ∀ k, (sa2.M k).ok := fun k => OpOk.m (D := ds2) (a := 1) (ring := 6) (k := 1000) (dsB_ok dz2) (opB_ok op2) k
theorem sa3_m : ∀ k, (sa3.M k).ok := SM.doS_m sa2_m get1_ok
theorem sa5_m : ∀ k, (sa5.M k).ok := fun k => OpOk.m (D := ds5) (a := 1) (ring := 6) (k := 1000) (dsB_ok dz5) (opB_ok op5) k
theorem sa6_m : ∀ k, (sa6.M k).ok := SM.doS_m sa5_m get1_ok
theorem sa9_m : ∀ k, (sa9.M k).ok := fun k => OpOk.m (D := ds9) (a := 1) (ring := 6) (k := 1000) (dsB_ok dz9) (opB_ok op9) k
end Go.Proofs.YtpaelngpmbeedaaGreatDoor
/- CommitChecks: the opened server is fine. -/
namespace Go.Proofs.YtpaelngpmbeedaaGreatDoor

set_option maxRecDepth 1000000
theorem fi_v : vLoadE ds0 1 = 41 := by decide +kernel
theorem fi_l : (openJ ds0 1 6).all = [] := by decide +kernel
theorem fi_f : sa0.D.fuse = -1 := by decide +kernel
theorem fi_d : sa0.D.down = false := by decide +kernel
theorem fi_n : sa0.D.n = 60 := by decide +kernel
theorem fi_a : sa0.J.at_ = 45 := by decide +kernel
theorem fi_q : (lastM sa0.D 1).q ≤ 10 ∧ (lastM sa0.D 45).q ≤ 10 ∧ (markM sa0.D 1).nu ≤ 10 := by decide +kernel
theorem fi_j : 1 ≤ sa0.J.first ∧ sa0.J.first + (sa0.J.held.length : Nat) ≤ 10 ∧ sa0.J.ep ≤ 10 := by decide +kernel
theorem fi_m : sa0.M = aw0 := by
  show replayM (beginM ds0 1) (openJ ds0 1 6).all = aw0
  rw [fi_l]
  show beginM ds0 1 = aw0
  unfold beginM
  rw [fi_v, if_neg (by decide)]
theorem fine0 : Fine sa0 10 100 where
  so := soB_ok so0 sa0_m
  mb := by rw [fi_m]; exact MB.aw0
  lv := ⟨(dsB_ok (D := sa0.D) (k := 100) (by have := so0; unfold soB at this; simp only [Bool.and_eq_true] at this; exact this.1)).ok, fi_f, fi_d⟩
  n := fi_n
  at_ := fi_a
  dn := rfl
  q1 := fi_q.1
  q2 := fi_q.2.1
  nu := fi_q.2.2
  f := ⟨fi_j.1, fi_j.2.1⟩
  e := fi_j.2.2
theorem Fine.cpM (s : SM) (a : Int) : (s.cpS a).M = s.M := rfl
theorem Fine.same {s t : SM} {K K' : Int} {kk kk' : Nat} (hs : Fine s K kk) (ht : Fine t K' kk') (hM : t.M = s.M) (hK : K ≤ 900000000) (hK' : K' ≤ 900000000) {r : RQ} (hr : r.ok) (hb : Bytes r.data) : t.doE 1 6 r = s.doE 1 6 r ∧ t.doO 1 6 r = s.doO 1 6 r ∧ (t.doS 1 6 r).M = (s.doS 1 6 r).M := by
  obtain ⟨a1, a2, _⟩ := hs.doS hK hr hb
  obtain ⟨b1, b2, _⟩ := ht.doS hK' hr hb
  have e : t.doE 1 6 r = s.doE 1 6 r := by rw [a1, b1, hM]
  refine ⟨e, ?_, by rw [a2, b2, hM]⟩
  unfold SM.doO
  rw [e, hM]
end Go.Proofs.YtpaelngpmbeedaaGreatDoor
