/- PackWrites, the walk. -/
import Derived.Test.YtdhkklcjhbnnlaaPackAw
import Derived.Test.YtdhkklcjhbnnlaaPackR
namespace Go.Proofs.Ytdhkklcjhbnnlaa
open Go.RowKit

set_option maxRecDepth 100000 in
set_option maxHeartbeats 2000000 in
theorem writes_st {M0 : Imm} {L : List Res} (v : Value) (fs : List Fld) (w : World) (h : St M0 w (rowsR 3 FldR v fs :: L)) :
    Calls Try.prog 5 #[v] w fun e w' => e = .returned (.bool true) ∧ St M0 w' (rowsR 3 FldR v fs :: L) := by
  obtain ⟨A, c, rfl, hc, hm⟩ := (h.getRows 0 rfl).slice
  have H := hide h
  clear h
  go_enter Try.func5, Try.ntmps5
  go_wp2_with fail
  refine (awake_st _ H.out).mono ?_
  rintro e w1 ⟨rfl, h⟩
  have H1 := hide h
  clear H h
  by_cases h40 : 40 < fs.length
  · go_wp2_with fail
    go_ret
    exact ⟨rfl, H1.out⟩
  · generalize hn : fs.length = n at *
    have HN := hide hn
    clear hn
    generalize hg : w1.heap.size = g
    have h2 := H1.out.alloc 37 #[.slice none 0 0]
    rw [hg] at h2
    have H2 := hide h2
    clear H1 h2
    go_wp2_with fail
    clear hg
    go_loopg [5, 6] n (fun gh x i wr => ∃ (k : Nat) (A' : Option Addr) (c' q : Nat), gh = n - k ∧ k ≤ n ∧ i = .int .i64 k ∧ x = .slice A' q c' ∧ q = (fldsB (fs.take k)).length ∧ St M0 wr (wrR g (fldsB (fs.take k)) :: rowR 5 1 (.slice A' q c') q (bv (fldsB (fs.take k))) :: rowsR 3 FldR (.slice A n c) fs :: L))
    case atStart => exact ⟨0, none, 0, 0, rfl, Nat.zero_le _, rfl, rfl, rfl, St.addWr ((H2.out.nilRow 5 1).nilRow 5 1).up2 rfl⟩
    case round =>
      clear H2
      obtain ⟨k, A', c', q, hgk, hk, rfl, rfl, hq, h⟩ := hrel
      have HGK := hide hgk
      have HQ := hide hq
      have hq2 : q ≤ 100000 := by
        have := fldsB_length (fs.take k)
        have h2 : (fs.take k).length ≤ k := List.length_take_le _ _
        have h3 := Nat.mul_le_mul_right 1002 h2
        omega
      clear hgk hq
      by_cases hlt : k < n
      · have hx := List.getElem?_eq_getElem (l := fs) (i := k) (by rw [HN.out]; exact hlt)
        generalize fs[k]'(by rw [HN.out]; exact hlt) = f at hx
        have HY := hide (fldsB_take hx)
        have hfl := fldB_length f
        obtain ⟨ad, cs, rfl, hll, hcs, ⟨vb, rfl, _, hn0, hn1⟩, _⟩ := h.elem 2 rfl hx
        have HO := hide (out_st g (fldsB (fs.take k)) wr (by rw [← HQ.out]; omega) h)
        rw [← HQ.out] at HO
        have HX := hide hx
        clear hcs hll hx h
        go_wp2_with fail
        refine HO.out.mono ?_
        rintro e w2 ⟨u, rfl, h⟩
        obtain ⟨A1, c1, rfl⟩ := h.slice
        have h := h.ints
        obtain ⟨ad', cs, e', _, hcs, hcv, he⟩ := h.elem 3 rfl HX.out
        injection e' with e'
        subst e'
        obtain ⟨vb', rfl, hI, hn0, hn1⟩ := hcv
        obtain ⟨A2, c2, rfl, hl2, hm2, _⟩ := id hI
        obtain ⟨k0, k1, k2⟩ := cells3 hcs
        have H := hide he
        clear HO h he hcs hI
        by_cases h9 : f.k = 9
        · have HF : Hid (fldB f = bytB f.b) := hide (by unfold fldB; rw [if_pos h9])
          rw [HF.out] at hfl
          rw [h9] at k0
          clear h9
          go_wp2_with fail
          have h2 := (H.out.copy 0 rfl).pers1 (R' := fun w' => Ints w' .u8 (.slice A2 f.b.length c2) f.b) (fun w' h => FldR.bytes h.2)
          refine (byt_st g _ f.b _ _ (by rw [← HQ.out]; omega) h2.up3).mono ?_
          rintro e w3 ⟨rfl, h⟩
          obtain ⟨k0, k1, k2⟩ := cells3 (h.get 2 rfl).1
          have H2 := hide h.swap
          clear H h h2
          go_wp2_with fail
          refine (rbyt_st _ f.b _ H2.out).mono ?_
          rintro e w4 ⟨u, rfl, h⟩
          obtain ⟨A3, c3, rfl⟩ := h.slice
          have H3 := hide h.ints
          generalize hz : (bytB f.b).length = z at *
          have HZ := hide hz
          clear H2 h hz
          go_wp2_with (at_builtin; refine St.app_step u8_row H3.out.up5 rfl _ _ rfl rfl A3 z c3 rfl (bv (bytB f.b)) (H3.out.get 0 rfl).sl.2.2.2 (bv_one _) (by omega) (by omega) ?_; intro A4 c4 wT h1)
          have hT : St M0 wT (wrR g (fldsB (fs.take k) ++ fldB f) :: rowR 5 1 (.slice A4 (q + z) c4) (q + z) (bv (fldsB (fs.take k) ++ fldB f)) :: intsR .u8 (.slice A1 q c1) (fldsB (fs.take k)) :: rowsR 3 FldR (.slice (some ad) n c) fs :: L) := by
            rw [HF.out, bv_append]; exact h1.del1.del1.swap.del2
          have HZ2 : Hid ((fldB f).length = z) := hide (by rw [HF.out]; exact HZ.out)
          clear H3 HF HZ h1 k0 k1 k2
          have H5 := hide hT
          generalize fldsB (fs.take k) = xs at *
          generalize fldB f = ys at *
          have hql := (H5.out.row 1 rfl).1
          rw [bv_length, List.length_append] at hql
          have hqx : q = xs.length := HQ.out
          have hyz : ys.length = z := HZ2.out
          have hcap : q + z ≤ c4 ∧ c4 ≤ 9223372036854775807 := by
            obtain ⟨h1, h2, h3, h4⟩ := (Ints.of_own (k := .u8) (H5.out.row 1 rfl)).sl
            exact ⟨h2, h3⟩
          have hq4 : (q : Int) ≤ (c4 : Int) := by omega
          have HO := hide (out_st g (xs ++ ys) _ (by rw [List.length_append]; omega) H5.out)
          have HL := hide (show (xs ++ ys).length = q + z by rw [List.length_append]; omega)
          have HXL := hide (show (xs ++ ys).take q = xs by rw [hqx, List.take_left])
          clear H5 hql hqx hyz hT HZ2
          go_wp2_with fail
          refine HO.out.mono ?_
          rintro e w7 ⟨u, rfl, h⟩
          rw [HL.out] at h
          obtain ⟨A5, c5, rfl⟩ := h.slice
          have H6 := hide h.ints
          clear HO h
          go_wp2_with fail
          refine (same_true _ _ (xs ++ ys) _ (H6.out.get 0 rfl) (Ints.of_own (k := .u8) (H6.out.row 2 rfl)) H6.out.tail).mono ?_
          rintro e w8 ⟨rfl, h⟩
          have H7 := hide h
          clear H6 h
          go_wp2_with fail
          have hI := (Ints.of_own (k := .u8) (H7.out.row 1 rfl)).cut (m := q) (by omega)
          rw [HXL.out] at hI
          refine (same_true _ _ xs _ (H7.out.get 2 rfl) hI H7.out).mono ?_
          rintro e w9 ⟨rfl, h⟩
          have H8 := hide h
          clear H7 h hI
          go_wp2_with fail
          go_roundg (n - (k + 1))
          case measure => have := HGK.out; omega
          case rel => exact ⟨k + 1, A4, c4, q + z, rfl, hlt, by go_num, rfl, by rw [HY.out, HL.out], by rw [HY.out]; exact H8.out.up2.tail⟩
        · have HF : Hid (fldB f = numI f.n f.k) := hide (by unfold fldB; rw [if_neg h9])
          rw [HF.out] at hfl
          have h9b := isF h9
          clear h9
          go_wp2_with fail
          refine region_tail 11 (by kernel_rfl) (by kernel_rfl) (fun W hW => ?_)
          rw [← World.cell?_drew] at k0 k1
          rw [← hW] at k0 k1
          have H2 := hide (H.out.up2.grow (show Fr Non w2 W by rw [hW]; exact (Fr.refl _ _).drew))
          clear H hW
          simp only [List.take_succ_cons, List.take_zero, List.drop_succ_cons, List.drop_zero]
          repeat still_step
          try refine wpStill_nil ?_
          go_wp2_with fail
          refine (num_st g f.n f.k _ _ (by rw [← HQ.out]; omega) H2.out).mono ?_
          rintro e w3 ⟨rfl, h⟩
          obtain ⟨k0, k1, k2⟩ := cells3 (h.get 1 rfl).1
          have H := hide h
          clear H2 h
          go_wp2_with fail
          refine region_mix (fun W => W.cell? (ad.add (k * 3)) = some (.int .i64 f.k) ∧ W.cell? ⟨(ad.add (k * 3)).block, (ad.add (k * 3)).off + 1, none⟩ = some (.int .u64 f.n)) 13 [0, 1, 2, 3, 4, 5, 6, 7, 8, 9, 10] [11, 12, 13] (by kernel_rfl) (by kernel_rfl)
            (fun d => by cases d <;> exact fun _ _ _ _ h => h) (fun W hW => ?_)
          refine ⟨⟨by rw [hW]; exact k0, by rw [hW]; exact k1⟩, ?_⟩
          clear k0 k1 k2
          have H2 := hide (H.out.grow (show Fr Non w3 W by rw [hW]; exact (Fr.refl _ _).drew))
          clear H hW
          have i0 : (0 : Int) ≤ (k : Int) := by omega
          have i1 : (k : Int) < (n : Int) := by omega
          iterate 11 (refine take_run rfl rfl (fun W hW => by (rcases hW with ⟨_, _⟩; go_simp; try rfl)) ?_; simp only [Act.put, List.setIfInBounds_toArray, List.set_cons_succ, List.set_cons_zero])
          refine take_nil ?_
          refine seq_call (f := 27) (args := #[.int .u64 f.n, .int .i64 f.k]) rfl rfl (by go_simp) ((rnum_st f.n f.k _ hn0 hn1 H2.out).mono ?_)
          rintro e w4 ⟨u, rfl, h⟩
          obtain ⟨A3, c3, rfl⟩ := h.slice
          obtain ⟨k0, k1, k2⟩ := cells3 (h.get 2 rfl).1
          refine ⟨_, rfl, fun _ => ⟨k0, k1⟩, ?_⟩
          clear k0 k1 k2
          have H3 := hide h.ints
          generalize hz : (numI f.n f.k).length = z at *
          have HZ := hide hz
          clear H2 h hz
          (simp only [Act.put, List.setIfInBounds_toArray, List.set_cons_succ, List.set_cons_zero])
          refine seq_app u8_row H3.out.up4 rfl rfl _ _ rfl rfl A3 z c3 rfl (bv (numI f.n f.k)) (H3.out.get 0 rfl).sl.2.2.2 (bv_one _) (by omega) (by omega) (fun A4 c4 wT h1 => ⟨fun _ => ⟨(cells3 (h1.get 3 rfl).1).1, (cells3 (h1.get 3 rfl).1).2.1⟩, ?_⟩)
          (simp only [Act.put, List.setIfInBounds_toArray, List.set_cons_succ, List.set_cons_zero])
          (refine seq_read rfl rfl (by (go_simp; try rfl)) (fun h => absurd h (by decide)) ?_; simp only [Act.put, List.setIfInBounds_toArray, List.set_cons_succ, List.set_cons_zero])
          refine seq_nil ?_
          have hT : St M0 wT (wrR g (fldsB (fs.take k) ++ fldB f) :: rowR 5 1 (.slice A4 (q + z) c4) (q + z) (bv (fldsB (fs.take k) ++ fldB f)) :: intsR .u8 (.slice A1 q c1) (fldsB (fs.take k)) :: rowsR 3 FldR (.slice (some ad) n c) fs :: L) := by
            rw [HF.out, bv_append]; exact h1.del1.swap.del2
          have HZ2 : Hid ((fldB f).length = z) := hide (by rw [HF.out]; exact HZ.out)
          clear H3 HF HZ h1
          have H5 := hide hT
          generalize fldsB (fs.take k) = xs at *
          generalize fldB f = ys at *
          have hql := (H5.out.row 1 rfl).1
          rw [bv_length, List.length_append] at hql
          have hqx : q = xs.length := HQ.out
          have hyz : ys.length = z := HZ2.out
          have hcap : q + z ≤ c4 ∧ c4 ≤ 9223372036854775807 := by
            obtain ⟨h1, h2, h3, h4⟩ := (Ints.of_own (k := .u8) (H5.out.row 1 rfl)).sl
            exact ⟨h2, h3⟩
          have hq4 : (q : Int) ≤ (c4 : Int) := by omega
          have HO := hide (out_st g (xs ++ ys) _ (by rw [List.length_append]; omega) H5.out)
          have HL := hide (show (xs ++ ys).length = q + z by rw [List.length_append]; omega)
          have HXL := hide (show (xs ++ ys).take q = xs by rw [hqx, List.take_left])
          clear H5 hql hqx hyz hT HZ2
          go_wp2_with fail
          refine HO.out.mono ?_
          rintro e w7 ⟨u, rfl, h⟩
          rw [HL.out] at h
          obtain ⟨A5, c5, rfl⟩ := h.slice
          have H6 := hide h.ints
          clear HO h
          go_wp2_with fail
          refine (same_true _ _ (xs ++ ys) _ (H6.out.get 0 rfl) (Ints.of_own (k := .u8) (H6.out.row 2 rfl)) H6.out.tail).mono ?_
          rintro e w8 ⟨rfl, h⟩
          have H7 := hide h
          clear H6 h
          go_wp2_with fail
          have hI := (Ints.of_own (k := .u8) (H7.out.row 1 rfl)).cut (m := q) (by omega)
          rw [HXL.out] at hI
          refine (same_true _ _ xs _ (H7.out.get 2 rfl) hI H7.out).mono ?_
          rintro e w9 ⟨rfl, h⟩
          have H8 := hide h
          clear H7 h hI
          go_wp2_with fail
          go_roundg (n - (k + 1))
          case measure => have := HGK.out; omega
          case rel => exact ⟨k + 1, A4, c4, q + z, rfl, hlt, by go_num, rfl, by rw [HY.out, HL.out], by rw [HY.out]; exact H8.out.up2.tail⟩
      · go_wp2_with fail
        go_ret
        exact ⟨rfl, by rw [HN.out]; exact h.tail.tail⟩

end Go.Proofs.Ytdhkklcjhbnnlaa
