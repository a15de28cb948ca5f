/- Locks: a new table; the statement's awake. -/
import Derived.Test.YtbgknfdaaffeaaaLkD
import Derived.Test.YtbgknfdaaffeaaaNumSt
namespace Go.Proofs.Ytbgknfdaaffeaaa
open Go.RowKit Go.Shelf

def newT : TabM := ⟨0, 0, fun _ => ⟨[], []⟩⟩
theorem newT_ok : TabOk newT := ⟨by decide, by decide, by decide, by decide, fun _ _ => Nat.zero_le _, fun _ _ => Nat.zero_le _⟩
theorem St.newTab {M0 : Imm} {w : World} {L : List Res} (h : St M0 w L) : St M0 (w.alloc (.cells (tabC 0 0 fun _ => ⟨⟨none, 0, 0⟩, ⟨none, 0, 0⟩⟩) 79)) (tabR w.heap.size newT :: L) := by
  have hr : ∀ {L : List Res}, St M0 w L → St M0 w (regT (fun _ => ⟨⟨none, 0, 0⟩, ⟨none, 0, 0⟩⟩) newT.r 0 :: L) := fun h => St.addStar ((h.keepNil wantC 2).ownNil holdC 91 4)
  exact St.toTab (T := newT) ((hr (hr (hr (hr h)))).alloc 79 (tabC 0 0 fun _ => ⟨⟨none, 0, 0⟩, ⟨none, 0, 0⟩⟩))
def awT1 : TabM := (newT.acquire 1 0 1).1
def awT2 : TabM := (awT1.acquire 2 0 1).1
def awT3 : TabM := (awT2.acquire 3 0 2).1
def awT4 : TabM := (awT3.acquire 4 0 1).1
def awT5 : TabM := (awT4.release 1 0 1).1
def awT6 : TabM := (awT5.release 2 0 2).1
def awT7 : TabM := (awT6.acquire 3 0 2).1
def awT8 : TabM := awT7.time 10
def awT9 : TabM := (awT8.acquire 4 0 1).1
set_option maxRecDepth 100000 in
theorem aw1 : (newT.acquire 1 0 1).2 = (1, 0) := by rfl
set_option maxRecDepth 100000 in
theorem aw2 : (awT1.acquire 2 0 1).2 = (2, 0) := by rfl
set_option maxRecDepth 100000 in
theorem aw3 : (awT2.acquire 3 0 2).2 = (0, 90) := by rfl
set_option maxRecDepth 100000 in
theorem aw4 : (awT3.acquire 4 0 1).2 = (0, 90) := by rfl
set_option maxRecDepth 100000 in
theorem awA : awT4.asked 0 = [1, 2] := by rfl
set_option maxRecDepth 100000 in
theorem aw5 : (awT4.release 1 0 1).2 = 0 := by rfl
set_option maxRecDepth 100000 in
theorem aw6 : (awT5.release 2 0 2).2 = 0 := by rfl
set_option maxRecDepth 100000 in
theorem aw7 : (awT6.acquire 3 0 2).2 = (3, 0) := by rfl
set_option maxRecDepth 100000 in
theorem aw9 : (awT8.acquire 4 0 1).2 = (4, 0) := by rfl
set_option maxRecDepth 100000 in
theorem aw10 : (awT9.renew 3 0 3).2 = (0, 92) := by rfl
set_option maxHeartbeats 4000000 in
set_option maxRecDepth 100000 in
theorem awakeL_st {M0 : Imm} {L : List Res} (w : World) (h : St M0 w L) :
    Calls Try.prog 39 #[] w fun e w' => e = .returned (.bool true) ∧ St M0 w' L := by
  have h0 := h.newTab
  generalize hg : w.heap.size = g at h0
  have H0 := hide h0
  have HG := hide hg
  clear h h0 hg
  go_enter Try.func39, Try.ntmps39
  go_wp2_with fail
  rw [HG.out]
  refine (acquire_st g newT 1 0 1 _ newT_ok H0.out).mono ?_
  rintro e w1 ⟨rfl, h1⟩
  rw [show (newT.acquire 1 0 1).2 = (1, 0) from aw1]
  have H1 := hide (show St M0 w1 (tabR g awT1 :: L) from h1)
  have ok1 : TabOk awT1 := newT_ok.acquire 1 0 1
  clear h1 H0
  go_wp2_with fail
  refine (acquire_st g awT1 2 0 1 _ ok1 H1.out).mono ?_
  rintro e w2 ⟨rfl, h2⟩
  rw [show (awT1.acquire 2 0 1).2 = (2, 0) from aw2]
  have H2 := hide (show St M0 w2 (tabR g awT2 :: L) from h2)
  have ok2 : TabOk awT2 := ok1.acquire 2 0 1
  clear h2 H1
  go_wp2_with fail
  refine (acquire_st g awT2 3 0 2 _ ok2 H2.out).mono ?_
  rintro e w3 ⟨rfl, h3⟩
  rw [show (awT2.acquire 3 0 2).2 = (0, 90) from aw3]
  have H3 := hide (show St M0 w3 (tabR g awT3 :: L) from h3)
  have ok3 : TabOk awT3 := ok2.acquire 3 0 2
  clear h3 H2
  go_wp2_with fail
  refine (acquire_st g awT3 4 0 1 _ ok3 H3.out).mono ?_
  rintro e w4 ⟨rfl, h4⟩
  rw [show (awT3.acquire 4 0 1).2 = (0, 90) from aw4]
  have H4 := hide (show St M0 w4 (tabR g awT4 :: L) from h4)
  have ok4 : TabOk awT4 := ok3.acquire 4 0 1
  clear h4 H3
  go_wp2_with fail
  refine (asked_st g awT4 0 _ ok4 H4.out).mono ?_
  rintro e wa ⟨va, rfl, ha⟩
  rw [awA] at ha
  have HA := hide ha.swap
  clear ha H4
  go_wp2_with fail
  refine (release_st g awT4 1 0 1 _ ok4 HA.out).mono ?_
  rintro e w5 ⟨rfl, h5⟩
  rw [aw5]
  have H5 := hide (show St M0 w5 (tabR g awT5 :: intsR .i64 va [1, 2] :: L) from h5)
  have ok5 : TabOk awT5 := ok4.release 1 0 1
  clear h5 HA
  go_wp2_with fail
  refine (release_st g awT5 2 0 2 _ ok5 H5.out).mono ?_
  rintro e w6 ⟨rfl, h6⟩
  rw [aw6]
  have H6 := hide (show St M0 w6 (tabR g awT6 :: intsR .i64 va [1, 2] :: L) from h6)
  have ok6 : TabOk awT6 := ok5.release 2 0 2
  clear h6 H5
  go_wp2_with fail
  refine (acquire_st g awT6 3 0 2 _ ok6 H6.out).mono ?_
  rintro e w7 ⟨rfl, h7⟩
  rw [show (awT6.acquire 3 0 2).2 = (3, 0) from aw7]
  have H7 := hide (show St M0 w7 (tabR g awT7 :: intsR .i64 va [1, 2] :: L) from h7)
  have ok7 : TabOk awT7 := ok6.acquire 3 0 2
  clear h7 H6
  go_wp2_with fail
  refine (time_st g awT7 10 _ ok7 (by decide) H7.out).mono ?_
  rintro e w8 ⟨rfl, h8⟩
  have H8 := hide (show St M0 w8 (tabR g awT8 :: intsR .i64 va [1, 2] :: L) from h8)
  have ok8 : TabOk awT8 := ok7.time (by decide)
  clear h8 H7
  go_wp2_with fail
  refine (acquire_st g awT8 4 0 1 _ ok8 H8.out).mono ?_
  rintro e w9 ⟨rfl, h9⟩
  rw [show (awT8.acquire 4 0 1).2 = (4, 0) from aw9]
  have H9 := hide (show St M0 w9 (tabR g awT9 :: intsR .i64 va [1, 2] :: L) from h9)
  have ok9 : TabOk awT9 := ok8.acquire 4 0 1
  clear h9 H8
  go_wp2_with fail
  refine (renew_st g awT9 3 0 3 _ ok9 H9.out).mono ?_
  rintro e w10 ⟨rfl, h10⟩
  rw [show (awT9.renew 3 0 3).2 = (0, 92) from aw10]
  have H10 := hide (h10.tail.litInts 3 .i64 [1, 2] (by decide) w10.heap.size rfl)
  clear h10 H9 ok1 ok2 ok3 ok4 ok5 ok6 ok7 ok8 ok9
  go_wp2_with fail
  refine (nums_st va _ [1, 2] [1, 2] _ (H10.out.get 1 rfl) (H10.out.get 0 rfl) (by decide) (by decide) H10.out).mono ?_
  rintro e w11 ⟨rfl, h11⟩
  have H11 := hide h11.tail.tail
  clear h11 H10
  go_wp2_with fail
  go_ret
  exact ⟨rfl, H11.out⟩
def OpLR (_w : World) (cs : List Value) (o : OpL) : Prop := cs = opC o
theorem cells6 {w : World} {p : Addr} {a b c d e f : Value} (h : ∀ j u, [a, b, c, d, e, f][j]? = some u → w.cell? (p.add j) = some u) : w.cell? p = some a ∧ w.cell? ⟨p.block, p.off + 1, none⟩ = some b ∧ w.cell? ⟨p.block, p.off + 2, none⟩ = some c ∧ w.cell? ⟨p.block, p.off + 3, none⟩ = some d ∧ w.cell? ⟨p.block, p.off + 4, none⟩ = some e ∧ w.cell? ⟨p.block, p.off + 5, none⟩ = some f :=
  ⟨by simpa [Addr.add] using h 0 a rfl, by simpa [Addr.add] using h 1 b rfl, by simpa [Addr.add] using h 2 c rfl, by simpa [Addr.add] using h 3 d rfl, by simpa [Addr.add] using h 4 e rfl, by simpa [Addr.add] using h 5 f rfl⟩
theorem there_nat {i : Nat} (h : i < 4) : thereB (i : Int) = true := by unfold thereB; simp; omega
theorem holders_nat (T : TabM) {i : Nat} (h : i < 4) : T.holders (i : Int) = (T.r i).h := if_pos (there_nat h)
theorem queue_nat (T : TabM) {i : Nat} (h : i < 4) : T.queue (i : Int) = (T.r i).w := if_pos (there_nat h)
end Go.Proofs.Ytbgknfdaaffeaaa
