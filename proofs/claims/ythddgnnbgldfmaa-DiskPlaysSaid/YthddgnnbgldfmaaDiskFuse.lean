/- DiskFuse, the walk. -/
import Derived.Test.YthddgnnbgldfmaaDiskOps
import Derived.Test.YthddgnnbgldfmaaFuseM
namespace Go.Proofs.Ythddgnnbgldfmaa
open Go.RowKit

theorem bv_sixty (k : Nat) : (sixty (k + 1)).map (Value.int .i64) = (sixty k).map (Value.int .i64) ++ [.int .i64 64] := by rw [sixty_succ, List.map_append]; rfl

theorem same_nums {M0 : Imm} {w : World} {L : List Res} (v u : Value) (xs : List Int) (hx : Nums w Any .u8 v xs) (hy : Nums w Any .u8 u xs) (h : St M0 w L) :
    Calls Try.prog 30 #[v, u] w fun e w' => e = .returned (.bool true) ∧ St M0 w' L := by
  refine (same_any v u xs xs w _ _ hx hy).mono ?_
  rintro e w' ⟨he, hf⟩
  exact ⟨by rw [he]; simp, h.grow hf⟩

set_option maxRecDepth 100000 in
set_option maxHeartbeats 4000000 in
theorem fuse_law {M0 : Imm} {L : List Res} (n : Int) (v : Value) (os : List Op4) (w : World) (h : St M0 w (rowsR 4 Op4R v os :: L)) :
    Calls Try.prog 8 #[.int .i64 n, v] w fun e w' => e = .returned (.bool true) ∧ St M0 w' (rowsR 4 Op4R v os :: L) := by
  obtain ⟨A, c, rfl, hc, hm⟩ := (h.getRows 0 rfl).slice
  generalize hmm : os.length = m at *
  have HM := hide hmm
  have H := hide h
  clear h hmm
  go_enter Try.func8, Try.ntmps8
  go_wp2_with fail
  refine (awake_ds H.out).mono ?_
  rintro e w1 ⟨rfl, h⟩
  have H1 := hide h
  clear H h
  go_wp2_with fail
  refine (new_ds 8 (by omega) (by omega) H1.out).mono ?_
  rintro e w2 ⟨g, rfl, h⟩
  have H2 := hide h
  clear H1 h
  go_wp2_with fail
  refine (new_ds 8 (by omega) (by omega) H2.out).mono ?_
  rintro e w3 ⟨gx, rfl, h⟩
  have H3 := hide h
  clear H2 h
  by_cases hn0 : n < 0
  · go_wp2_with fail
    go_ret
    exact ⟨rfl, H3.out.tail.tail⟩
  by_cases hn20 : 20 < n
  · go_wp2_with fail
    go_ret
    exact ⟨rfl, H3.out.tail.tail⟩
  by_cases hm20 : 20 < m
  · go_wp2_with fail
    go_ret
    exact ⟨rfl, H3.out.tail.tail⟩
  obtain ⟨q, rfl⟩ := Int.eq_ofNat_of_zero_le (show 0 ≤ n by omega)
  go_wp2_with fail
  refine (fuse_ds (q : Int) H3.out.swap).mono ?_
  rintro e w4 ⟨rfl, h⟩
  have hinv := FInv.init q (by omega)
  have hp00 : (fuse0 q).pend.length = 0 := rfl
  have h' : St M0 w4 (dsR g (fuse0 q) :: dsR gx (fuse0 q).free :: rowsR 4 Op4R (.slice A m c) os :: L) := h
  clear h
  generalize fuse0 q = D0 at *
  have hp0 : D0.pend.length ≤ q := hinv.le
  have H4 := hide h'
  have HI0 := hide hinv
  have HP0 := hide hp00
  clear H3 h' hinv hp00
  go_wp2_with fail
  go_loopg [10, 11, 12] m (fun gh y x i wr => ∃ (k : Nat) (D : DS) (A' : Option Addr) (c' : Nat), gh = m - k ∧ k ≤ m ∧ i = .int .i64 k ∧ x = .slice A' D.pend.length c' ∧ y = .int .i64 D.pend.length ∧ FInv q D ∧
    St M0 wr (dsR g D :: rowR 3 1 (.slice A' D.pend.length c') D.pend.length ((sixty D.pend.length).map (Value.int .i64)) :: dsR gx D.free :: rowsR 4 Op4R (.slice A m c) os :: L))
  case atStart =>
    refine ⟨0, D0, none, 0, rfl, Nat.zero_le _, rfl, by rw [HP0.out], by rw [HP0.out]; rfl, HI0.out, ?_⟩
    rw [HP0.out]
    exact (H4.out.nilRow 3 1).swap
  case round =>
    clear H4 HI0 HP0 hp0
    obtain ⟨k, D, A', c', hgk, hk, rfl, rfl, rfl, hinv, h⟩ := hrel
    have HGK := hide hgk
    have HI := hide hinv
    have hple : D.pend.length ≤ q := hinv.le
    have hinv2 := hinv
    clear hgk hinv
    by_cases hlt : k < m
    · clear hinv2
      have hx := List.getElem?_eq_getElem (l := os) (i := k) (by rw [HM.out]; exact hlt)
      generalize os[k]'(by rw [HM.out]; exact hlt) = o at hx
      obtain ⟨ad, cs, rfl, hl, hcs, ⟨B, C, rfl, hB, hC⟩, h⟩ := h.elem 3 rfl hx
      obtain ⟨k0, k1, k2, k3⟩ := cells4 hcs
      obtain ⟨B1, b1, rfl, hb1, hb2, _⟩ := id hB
      obtain ⟨C1, c1, rfl, hc1, hc2, _⟩ := id hC
      unfold maxLen at hb2
      -- the disk, the bytes, the element, the row, the other disk, the rows
      have h2 := (h.copy 0 rfl).pers1 (R' := fun w' => Ints w' .u8 (.slice B1 o.b.length b1) o.b) (fun w' h => Op4R.b h.2)
      have H := hide (show St M0 wr (dsR g D :: rowR 3 1 (.slice A' D.pend.length c') D.pend.length ((sixty D.pend.length).map (Value.int .i64)) :: dsR gx D.free :: persR _ :: intsR .u8 (.slice B1 o.b.length b1) o.b :: rowsR 4 Op4R (.slice (some ad) m c) os :: L) from h2.pick 5 [2, 3, 4, 1, 0])
      clear hx hcs hl hB hC h h2
      by_cases c0 : o.i < 0
      · obtain ⟨e1, e2⟩ := HI.out.bad (i := o.i) (b := o.b) (.inl c0)
        have E1 := hide e1
        have E2 := hide e2
        clear e1 e2
        go_wp2_with fail
        refine region_tail 11 (by kernel_rfl) (by kernel_rfl) (fun W hW => ?_)
        have HW := hide (H.out.grow (show Fr Non wr W by rw [hW]; exact (Fr.refl _ _).drew))
        obtain ⟨j0, j1, j2, j3⟩ := cells4 (HW.out.get 3 rfl).1
        clear H hW k0 k1 k2 k3
        simp only [List.take_succ_cons, List.take_zero, List.drop_succ_cons, List.drop_zero]
        repeat still_step
        try refine wpStill_nil ?_
        clear j0 j1 j2 j3
        go_wp2_with fail
        refine (write_ds o.i _ o.b 3 HI.out.ok (by have := HI.out.le; omega) rfl HW.out).mono ?_
        rintro e w5 ⟨rfl, h⟩
        rw [E1.out]
        rw [E2.out] at h
        have H2 := hide h
        clear HW h
        go_wp2_with fail
        go_roundg (m - (k + 1))
        case measure => have := HGK.out; omega
        case rel => exact ⟨k + 1, D, A', c', rfl, hlt, by go_num, rfl, rfl, HI.out, H2.out.del3.del3⟩
      by_cases c7 : 8 ≤ o.i
      · obtain ⟨e1, e2⟩ := HI.out.bad (i := o.i) (b := o.b) (.inr c7)
        have E1 := hide e1
        have E2 := hide e2
        clear e1 e2
        go_wp2_with fail
        refine region_tail 11 (by kernel_rfl) (by kernel_rfl) (fun W hW => ?_)
        have HW := hide (H.out.grow (show Fr Non wr W by rw [hW]; exact (Fr.refl _ _).drew))
        obtain ⟨j0, j1, j2, j3⟩ := cells4 (HW.out.get 3 rfl).1
        clear H hW k0 k1 k2 k3
        simp only [List.take_succ_cons, List.take_zero, List.drop_succ_cons, List.drop_zero]
        repeat still_step
        try refine wpStill_nil ?_
        clear j0 j1 j2 j3
        go_wp2_with fail
        refine (write_ds o.i _ o.b 3 HI.out.ok (by have := HI.out.le; omega) rfl HW.out).mono ?_
        rintro e w5 ⟨rfl, h⟩
        rw [E1.out]
        rw [E2.out] at h
        have H2 := hide h
        clear HW h
        go_wp2_with fail
        go_roundg (m - (k + 1))
        case measure => have := HGK.out; omega
        case rel => exact ⟨k + 1, D, A', c', rfl, hlt, by go_num, rfl, rfl, HI.out, H2.out.del3.del3⟩
      by_cases c64 : 64 < o.b.length
      · obtain ⟨e1, e2⟩ := HI.out.long (i := o.i) (b := o.b) (by omega) (by omega) c64
        have E1 := hide e1
        have E2 := hide e2
        clear e1 e2
        go_wp2_with fail
        refine region_tail 11 (by kernel_rfl) (by kernel_rfl) (fun W hW => ?_)
        have HW := hide (H.out.grow (show Fr Non wr W by rw [hW]; exact (Fr.refl _ _).drew))
        obtain ⟨j0, j1, j2, j3⟩ := cells4 (HW.out.get 3 rfl).1
        clear H hW k0 k1 k2 k3
        simp only [List.take_succ_cons, List.take_zero, List.drop_succ_cons, List.drop_zero]
        repeat still_step
        try refine wpStill_nil ?_
        clear j0 j1 j2 j3
        go_wp2_with fail
        refine (write_ds o.i _ o.b 3 HI.out.ok (by have := HI.out.le; omega) rfl HW.out).mono ?_
        rintro e w5 ⟨rfl, h⟩
        rw [E1.out]
        rw [E2.out] at h
        have H2 := hide h
        clear HW h
        go_wp2_with fail
        go_roundg (m - (k + 1))
        case measure => have := HGK.out; omega
        case rel => exact ⟨k + 1, D, A', c', rfl, hlt, by go_num, rfl, rfl, HI.out, H2.out.del3.del3⟩
      by_cases hgo : D.pend.length < q
      · obtain ⟨e1, e2, e3, e4, e5⟩ := HI.out.yes (i := o.i) (b := o.b) (by omega) (by omega) (by omega) hgo
        have HY := hide (And.intro e2 (And.intro e3 (And.intro e4 e5)))
        have E1 := hide e1
        clear e1 e2 e3 e4 e5
        go_wp2_with fail
        refine region_tail 11 (by kernel_rfl) (by kernel_rfl) (fun W hW => ?_)
        have HW := hide (H.out.grow (show Fr Non wr W by rw [hW]; exact (Fr.refl _ _).drew))
        obtain ⟨j0, j1, j2, j3⟩ := cells4 (HW.out.get 3 rfl).1
        clear H hW k0 k1 k2 k3
        simp only [List.take_succ_cons, List.take_zero, List.drop_succ_cons, List.drop_zero]
        repeat still_step
        try refine wpStill_nil ?_
        clear j0 j1 j2 j3
        go_wp2_with fail
        refine (write_ds o.i _ o.b 3 HI.out.ok (by have := HI.out.le; omega) rfl HW.out).mono ?_
        rintro e w5 ⟨rfl, h⟩
        rw [E1.out]
        have H2 := hide h.swap
        clear HW h
        go_wp2_with (at_builtin; refine St.app_step int_row (H2.out.junk _) rfl _ _ rfl rfl (some ⟨w5.heap.size, 0, none⟩) 1 1 rfl [.int .i64 64] (sl_new1 _ _ _) (nums_oneCell .i64 [64]) (by omega) (by omega) ?_; intro A5 c5 w6 h6; have H6 := hide h6.up2; have J := cells4 (h6.get 3 rfl).1; obtain ⟨j0, j1, j2, j3⟩ := J; clear h6)
        refine region_tail 11 (by kernel_rfl) (by kernel_rfl) (fun W hW => ?_)
        have HW := hide (H6.out.grow (show Fr Non w6 W by rw [hW]; exact (Fr.refl _ _).drew))
        clear j0 j1 j2 j3
        obtain ⟨j0, j1, j2, j3⟩ := cells4 (HW.out.get 3 rfl).1
        clear H6 hW
        simp only [List.take_succ_cons, List.take_zero, List.drop_succ_cons, List.drop_zero]
        repeat still_step
        try refine wpStill_nil ?_
        clear j0 j1 j2 j3
        go_wp2_with fail
        refine (write_ds o.i _ o.b 3 HI.out.free_ok (by have := HI.out.le; show D.pend.length < _; omega) rfl HW.out).mono ?_
        rintro e w7 ⟨rfl, h⟩
        rw [HY.out.1]
        rw [HY.out.2.2.1] at h
        have H8 := hide h
        clear HW h
        go_wp2_with fail
        go_roundg (m - (k + 1))
        case measure => have := HGK.out; omega
        case rel =>
          refine ⟨k + 1, D.write o.i o.b, A5, c5, rfl, hlt, by go_num, ?_, ?_, HY.out.2.1, ?_⟩
          · rw [HY.out.2.2.2]
          · rw [HY.out.2.2.2]; go_num
          · rw [HY.out.2.2.2, bv_sixty]
            exact H8.out.pick 5 [2, 1, 0]
      · obtain ⟨e1, e2, e3, e4⟩ := HI.out.no (i := o.i) (b := o.b) (by omega) (by omega) (by omega) hgo
        have HN := hide (And.intro e2 (And.intro e3 e4))
        have E1 := hide e1
        clear e1 e2 e3 e4
        go_wp2_with fail
        refine region_tail 11 (by kernel_rfl) (by kernel_rfl) (fun W hW => ?_)
        have HW := hide (H.out.grow (show Fr Non wr W by rw [hW]; exact (Fr.refl _ _).drew))
        obtain ⟨j0, j1, j2, j3⟩ := cells4 (HW.out.get 3 rfl).1
        clear H hW k0 k1 k2 k3
        simp only [List.take_succ_cons, List.take_zero, List.drop_succ_cons, List.drop_zero]
        repeat still_step
        try refine wpStill_nil ?_
        clear j0 j1 j2 j3
        go_wp2_with fail
        refine (write_ds o.i _ o.b 3 HI.out.ok (by have := HI.out.le; omega) rfl HW.out).mono ?_
        rintro e w5 ⟨rfl, h⟩
        rw [E1.out]
        rw [HN.out.2.1] at h
        have H2 := hide h
        clear HW h
        go_wp2_with fail
        go_roundg (m - (k + 1))
        case measure => have := HGK.out; omega
        case rel => exact ⟨k + 1, D.write o.i o.b, A', c', rfl, hlt, by go_num, by rw [HN.out.2.2], by rw [HN.out.2.2], HN.out.1, by rw [HN.out.2.2]; exact H2.out.del3.del3⟩
    · have H := hide h
      have hnn := hinv2.n8
      clear h hinv2
      go_wp2_with fail
      refine (all_ds HI.out.ok hnn H.out).mono ?_
      rintro e w5 ⟨va, rfl, h⟩
      have H2 := hide h.up3
      clear H h
      go_wp2_with fail
      refine (all_ds HI.out.free_ok hnn H2.out).mono ?_
      rintro e w6 ⟨vb, rfl, h⟩
      have H := hide h.up3
      clear H2 h
      go_wp2_with fail
      refine (sync_ds HI.out.ok (by omega) H.out).mono ?_
      rintro e w7 ⟨rfl, h⟩
      have H2 := hide h
      clear H h
      go_wp2_with fail
      refine (pending_ds H2.out).mono ?_
      rintro e w8 ⟨rfl, h⟩
      have H := hide h
      clear H2 h
      by_cases hgo : D.pend.length < q
      · have HS := hide (HI.out.sync_yes hgo)
        rw [HS.out.1]
        go_wp2_with fail
        refine (down_ds H.out).mono ?_
        rintro e w9 ⟨rfl, h⟩
        rw [HS.out.2]
        have H2 := hide h
        clear H h
        go_wp2_with fail
        refine (same_nums va vb _ (H2.out.get 3 rfl) (H2.out.get 1 rfl) H2.out).mono ?_
        rintro e wa ⟨rfl, h⟩
        clear H2
        go_wp2_with fail
        go_ret
        exact ⟨rfl, h.tail.tail.tail.tail.tail⟩
      · have HS := hide (HI.out.sync_no hgo)
        rw [HS.out.1]
        go_wp2_with fail
        refine (down_ds H.out).mono ?_
        rintro e w9 ⟨rfl, h⟩
        rw [HS.out.2.1]
        have H2 := hide (h.up4.ints.swap)
        clear H h
        go_wp2_with fail
        refine (crash_ds _ (sixty D.pend.length) 0 HI.out.ok.sync (by rw [HS.out.1]; omega) rfl H2.out).mono ?_
        rintro e wa ⟨rfl, h⟩
        have H := hide h
        clear H2 h
        go_wp2_with fail
        refine (all_ds (HI.out.ok.sync.crash _) HS.out.2.2.2.2 H.out).mono ?_
        rintro e wb ⟨vc, rfl, h⟩
        rw [HS.out.2.2.1] at h
        have H2 := hide h.swap
        clear H h
        go_wp2_with fail
        refine (down_ds H2.out).mono ?_
        rintro e wc ⟨rfl, h⟩
        rw [HS.out.2.2.2.1]
        have H := hide h.tail
        clear H2 h
        go_wp2_with fail
        refine (same_nums va vb _ (H.out.get 4 rfl) (H.out.get 2 rfl) H.out).mono ?_
        rintro e wd ⟨rfl, h⟩
        have H2 := hide h
        clear H h
        go_wp2_with fail
        refine (same_nums vb vc _ (H2.out.get 2 rfl) (H2.out.get 0 rfl) H2.out).mono ?_
        rintro e we ⟨rfl, h⟩
        clear H2
        go_wp2_with fail
        go_ret
        exact ⟨rfl, h.tail.tail.tail.tail.tail⟩

end Go.Proofs.Ythddgnnbgldfmaa
