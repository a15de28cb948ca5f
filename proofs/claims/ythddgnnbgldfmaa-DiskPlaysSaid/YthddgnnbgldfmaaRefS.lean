/- The document's disk: Sync. -/
import Derived.Test.YthddgnnbgldfmaaRefC
import Derived.Test.YthddgnnbgldfmaaDiskOps
namespace Go.Proofs.Ythddgnnbgldfmaa
open Go.RowKit

theorem RD.after_ok {E : RD} {n : Nat} (h : E.ok n) : E.after.ok n := by
  obtain ⟨e1, e2⟩ := E.after_keep
  exact ⟨h.n2, by rw [e1]; exact h.hs, by rw [e2]; exact h.hp⟩
theorem nums_sixty (k : Nat) : (sixty (k + 1)).map (Value.int .i64) = (sixty k).map (Value.int .i64) ++ [.int .i64 64] := by rw [sixty_succ, List.map_append]; rfl

set_option maxRecDepth 100000 in
set_option maxHeartbeats 1000000 in
theorem rsync_st {M0 : Imm} {L : List Res} (g : Nat) (E : RD) (n : Nat) (w : World) (ho : E.ok n) (hp : E.pend.length < 1000000) (hl : E.lo) (h : St M0 w (rfR g E :: L)) :
    Calls Try.prog 37 #[.pointer (some ⟨g, 0, none⟩)] w fun e w' => e = .returned (.tuple #[]) ∧ St M0 w' (rfR g E.sync :: L) := by
  have H0 := hide h
  have HD := hide (fun w' (h : St M0 w' (rfR g E :: L)) => rdone_st g E w' hl h)
  cases hgo : E.goes with
  | false =>
    have K : Hid (E.sync = E.after) := by unfold RD.sync; rw [hgo]; exact hide rfl
    rw [hgo] at HD
    clear h hgo
    go_enter Try.func37, Try.ntmps37
    go_wp2_with fail
    refine (HD.out _ H0.out).mono ?_
    rintro e w1 ⟨rfl, h1⟩
    have H1 := hide h1
    clear h1 H0 HD
    go_wp2_with fail
    ((try simp only [Exit.inBlock, Exit.then]); refine bodyPost_ret (results_none rfl _ _ _) rfl ?_)
    rw [K.out]
    exact ⟨rfl, H1.out⟩
  | true =>
    have K : Hid (E.sync = { (E.after.crash (List.replicate E.after.pend.length 64)) with fused := E.after.fused }) := by
      unfold RD.sync
      rw [hgo, E.after_keep.2, E.after_fused]
      exact hide rfl
    rw [hgo] at HD
    have ho2 := RD.after_ok ho
    rw [← E.after_keep.2] at hp
    clear h hgo
    go_enter Try.func37, Try.ntmps37
    go_wp2_with fail
    refine (HD.out _ H0.out).mono ?_
    rintro e w1 ⟨rfl, h1⟩
    have H1 := hide h1
    clear h1 H0 HD ho
    generalize E.after = F at *
    obtain ⟨A, c, B, d, h1, h2, h3, h4, h⟩ := H1.out.rf
    have c2 := (h.blk 0 rfl).cell 2
    have HO := hide ho2
    clear h h1 h2 h3 h4 ho2
    generalize hm : F.pend.length = m at *
    have HM := hide hm
    clear hm
    go_wp2_with fail
    go_loopg [4, 5] m (fun gh x i wr => ∃ (k : Nat) (A' : Option Addr) (c' : Nat), gh = m - k ∧ k ≤ m ∧ i = .int .i64 k ∧ x = .slice A' k c' ∧ St M0 wr (rowR 3 1 (.slice A' k c') k ((sixty k).map (Value.int .i64)) :: rfR g F :: L))
    case atStart => exact ⟨0, none, 0, rfl, Nat.zero_le _, rfl, rfl, H1.out.nilRow 3 1⟩
    case round =>
      clear c2
      obtain ⟨k, A', c', hgk, hk, rfl, rfl, h⟩ := hrel
      obtain ⟨A1, c1, B1, d1, _, _, _, _, h'⟩ := h.swap.rf
      have c1 := (h'.blk 0 rfl).cell 1
      rw [HM.out] at c1
      have HG := hide hgk
      have H := hide h
      clear h h' hgk
      by_cases hkm : k < m
      · go_wp2_with (at_builtin; refine St.app_step int_row (H.out.junk _) rfl _ _ rfl rfl (some ⟨wr.heap.size, 0, none⟩) 1 1 rfl [.int .i64 64] (sl_new1 _ _ _) (nums_oneCell .i64 [64]) (by omega) (by omega) ?_; intro A2 c2 w2 h2; rw [← nums_sixty] at h2; have H2 := hide h2; clear h2)
        go_roundg (m - (k + 1))
        case measure => have := HG.out; omega
        case rel => exact ⟨k + 1, _, _, rfl, by omega, by go_num, rfl, H2.out⟩
      · obtain rfl : k = m := by omega
        go_wp2_with fail
        refine (rcrash_st g F n _ (sixty k) _ HO.out (by rw [HM.out]; omega) H.out.ints.swap).mono ?_
        rintro e w3 ⟨rfl, h3⟩
        have hf : (F.crash (sixty k)) = ⟨(F.crash (sixty k)).sure, [], false, F.left, false⟩ := rfl
        rw [hf] at h3
        obtain ⟨A3, c3, B3, d3, _, _, _, _, h5⟩ := h3.rf
        have f2 := (h5.blk 0 rfl).frozen 2
        have b2 := (h5.blk 0 rfl).cell 2
        have H5 := hide h5
        clear h3 h5 hf
        go_wp2_with fail
        go_end0
        refine ⟨rfl, ?_⟩
        have h9 := St.addRf (H5.out.set_ 2 (.bool F.fused)).del3
        rw [K.out]
        exact h9

end Go.Proofs.Ythddgnnbgldfmaa
