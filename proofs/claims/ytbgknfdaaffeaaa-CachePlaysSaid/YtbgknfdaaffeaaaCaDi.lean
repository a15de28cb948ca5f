/- Cache: Dirty. -/
import Derived.Test.YtbgknfdaaffeaaaCaRd
namespace Go.Proofs.Ytbgknfdaaffeaaa
open Go.RowKit Go.Shelf

def putS (y : Nat) (a b d : Value) (W : World) : Prop := W.cell? ⟨y, 0, none⟩ = some a ∧ W.cell? ⟨y, 1, none⟩ = some b ∧ W.cell? ⟨y, 2, none⟩ = some d
theorem putS_of {M0 : Imm} {W : World} {Ls : List Res} {y : Nat} {a b d : Value} (h : St M0 W Ls) (j : Nat) (hj : Ls[j]? = some (blkR y 153 #[a, b, d])) : putS y a b d W :=
  ⟨(h.blk j hj).cell 0, (h.blk j hj).cell 1, (h.blk j hj).cell 2⟩
def inReg (r : Int) (x : PU) : Bool := x.region == r
set_option maxHeartbeats 2000000 in
set_option maxRecDepth 100000 in
theorem dirtyL_st {M0 : Imm} {L : List Res} (g : Nat) (bl ws : List PU) (r : Int) (w : World) (hl : ws.length ≤ 1000000) (hd : ∀ x ∈ ws, x.data.length ≤ 1000000) (h : St M0 w (cacheR g bl ws :: L)) :
    Calls Try.prog 37 #[.pointer (some ⟨g, 0, none⟩), .int .i64 r] w fun e w' => ∃ v, e = .returned v ∧ St M0 w' (growR 153 3 PutR v (ws.filter (inReg r)) :: cacheR g bl ws :: L) := by
  obtain ⟨A, c, B, d, _, hdd, _, hdm, h1⟩ := h.cacheO
  obtain ⟨n, hn⟩ : ∃ n, n = ws.length := ⟨_, rfl⟩
  rw [← hn] at h1 hdd
  have x0 := (h1.blk 0 rfl).cell 1
  have HN := hide hn
  have hn1 : n ≤ 1000000 := by omega
  have HD := hide hd
  have H := hide ((h1.nilGrow 153 3 PutR).pick (L' := growR 153 3 PutR (.slice none 0 0) [] :: growR 153 3 PutR (.slice B n d) ws :: blkR g 43 #[.slice A bl.length c, .slice B n d] :: growR 153 3 PutR (.slice A bl.length c) bl :: L) 4 [0, 3, 1, 2])
  clear h h1 hn hl hd hdd
  go_enter Try.func37, Try.ntmps37
  go_wp2_with fail
  go_loopg [5, 13] n (fun gh v i wr => ∃ (k : Nat) (C : Option Addr) (q e : Nat), gh = n - k ∧ k ≤ n ∧ v = .slice C q e ∧ i = .int .i64 (k : Nat) ∧ q = ((ws.take k).filter (inReg r)).length ∧ St M0 wr (growR 153 3 PutR (.slice C q e) ((ws.take k).filter (inReg r)) :: growR 153 3 PutR (.slice B n d) ws :: blkR g 43 #[.slice A bl.length c, .slice B n d] :: growR 153 3 PutR (.slice A bl.length c) bl :: L))
  case atStart => exact ⟨0, none, 0, 0, rfl, by omega, rfl, rfl, rfl, H.out⟩
  case round =>
    clear H x0
    obtain ⟨k, C, q, e, hg, hk, rfl, rfl, hq, h⟩ := hrel
    have HG := hide hg
    clear hg
    by_cases hlt : k < n
    · have hx := List.getElem?_eq_getElem (l := ws) (i := k) (by rw [← HN.out]; exact hlt)
      generalize ws[k]'(by rw [← HN.out]; exact hlt) = x at hx
      have ht : ws.take (k + 1) = ws.take k ++ [x] := by rw [List.take_add_one, hx]; rfl
      obtain ⟨ad, cs, rfl, _, hcs, ⟨v, rfl, hv⟩, -, h1⟩ := h.swap.elemG (by omega) hx
      obtain ⟨X, xc, rfl, _, _, _⟩ := id hv
      obtain ⟨e0, e1, e2⟩ := cells3 hcs
      have H1 := hide h1
      have HT := hide ht
      have HQ := hide hq
      have hqn : q ≤ 1000000 := by
        have := List.length_filter_le (inReg r) (ws.take k)
        rw [List.length_take] at this
        omega
      have hdx : x.data.length ≤ 1000000 := HD.out x (List.mem_of_getElem? hx)
      have i0 : (0 : Int) ≤ (k : Int) := by omega
      have i1 : (k : Int) < (n : Int) := by omega
      clear h h1 ht hq hx hv hcs
      by_cases hr : x.region = r
      · have b1 : (x.region == r) = true := isT hr
        have ee : (ws.take (k + 1)).filter (inReg r) = (ws.take k).filter (inReg r) ++ [x] := by rw [HT.out, List.filter_append]; simp [inReg, hr]
        have E := hide ee
        clear ee hr
        go_wp2_with fail
        have h2 := H1.out.alloc 153 #[.int .i64 x.region, .int .i64 x.index, .slice X x.data.length xc]
        generalize wr.heap.size = y at h2 ⊢
        have H2 := hide h2
        clear h2 H1 e0 e1 e2
        generalize wr.alloc _ = w3 at H2 ⊢
        refine region_mix (putS y (.int .i64 x.region) (.int .i64 x.index) (.slice X x.data.length xc)) 9 [0, 1, 2, 3, 4] [5, 6, 7, 8, 9] (by kernel_rfl) (by kernel_rfl) (fun d => by cases d <;> exact fun _ _ _ _ h => h) (fun W hW => ?_)
        have HW := hide (H2.out.drew)
        rw [← hW] at HW
        clear hW H2
        refine ⟨putS_of HW.out 0 rfl, ?_⟩
        iterate 5 (refine take_run rfl rfl (fun W hW => by (obtain ⟨y0, y1, y2⟩ := hW; go_simp; try rfl)) ?_; (simp only [Act.put, List.setIfInBounds_toArray, List.set_cons_succ, List.set_cons_zero]))
        refine take_nil ?_
        have h3 := (HW.out.copy 1 rfl).pers1 (R' := fun w' => Ints w' .u8 (.slice X x.data.length xc) x.data) (fun w' hp => by
          obtain ⟨v, hv, hi⟩ := hp
          simp only [List.cons.injEq, and_true, true_and] at hv
          rw [hv]
          exact hi)
        refine seq_call (f := 76) (args := #[.slice X x.data.length xc]) rfl rfl (by go_simp; try rfl) ?_
        refine (clone_st X x.data.length xc x.data W (h3.get 0 rfl).sl.2.2.2 (by omega) h3).mono ?_
        rintro e w4 ⟨v4, rfl, h4⟩
        obtain ⟨A4, c4, rfl⟩ := h4.slice
        refine ⟨_, rfl, fun _ => putS_of h4 2 rfl, ?_⟩
        (simp only [Act.put, List.setIfInBounds_toArray, List.set_cons_succ, List.set_cons_zero])
        refine seq_read rfl rfl (by (go_simp; try rfl)) (fun _ => putS_of h4 2 rfl) ?_
        (simp only [Act.put, List.setIfInBounds_toArray, List.set_cons_succ, List.set_cons_zero])
        have h5 := h4.ints.alloc 153 #[.int .i64 x.region, .int .i64 x.index, .slice A4 x.data.length c4]
        refine seq_buildSlice1 rfl rfl 41 1 0 _ (.agg #[.int .i64 x.region, .int .i64 x.index, .slice A4 x.data.length c4]) rfl rfl (put_build _ _ _ _ _ _) (fun _ => putS_of h5 3 rfl) ?_
        (simp only [Act.put, List.setIfInBounds_toArray, List.set_cons_succ, List.set_cons_zero])
        generalize w4.heap.size = z at h5 ⊢
        generalize w4.alloc _ = w5 at h5 ⊢
        have h6 := (h5.swap.pers1 (R' := fun w' => PutR w' [.int .i64 x.region, .int .i64 x.index, .slice A4 x.data.length c4] x) (fun w' hi => ⟨_, rfl, hi⟩)).pick (L' := growR 153 3 PutR (.slice C q e) ((ws.take k).filter (inReg r)) :: blkR z 153 #[.int .i64 x.region, .int .i64 x.index, .slice A4 x.data.length c4] :: persR (fun w' => PutR w' [.int .i64 x.region, .int .i64 x.index, .slice A4 x.data.length c4] x) :: blkR y 153 #[.int .i64 x.region, .int .i64 x.index, .slice X x.data.length xc] :: growR 153 3 PutR (.slice (some ad) n d) ws :: blkR g 43 #[.slice A bl.length c, .slice (some ad) n d] :: growR 153 3 PutR (.slice A bl.length c) bl :: L) 9 [6, 1, 0, 3, 5, 7, 8]
        clear h3 h4 h5 HW
        obtain ⟨vs, hq2, hxl, h7⟩ := h6.openGrowS
        refine seq_app put_elem h7 rfl rfl _ _ rfl rfl (some ⟨z, 0, none⟩) 1 1 rfl [.int .i64 x.region, .int .i64 x.index, .slice A4 x.data.length c4] (sl_blkN (cs := [.int .i64 x.region, .int .i64 x.index, .slice A4 x.data.length c4]) (h7.blk 2 rfl)) (put_one _ _ _ _ _) (by omega) (by omega) (fun A6 c6 w7 h9 => ⟨fun _ => putS_of h9 4 rfl, ?_⟩)
        (simp only [Act.put, List.setIfInBounds_toArray, List.set_cons_succ, List.set_cons_zero])
        have h10 := (h9.pick (L' := rowR 153 3 (.slice A6 (q + 1) c6) (q + 1) (vs ++ [.int .i64 x.region, .int .i64 x.index, .slice A4 x.data.length c4]) :: persR (fun w => ∀ (j : Nat) p, ((ws.take k).filter (inReg r))[j]? = some p → PutR w ((vs.drop (j * 3)).take 3) p) :: persR (fun w' => PutR w' [.int .i64 x.region, .int .i64 x.index, .slice A4 x.data.length c4] x) :: growR 153 3 PutR (.slice (some ad) n d) ws :: blkR g 43 #[.slice A bl.length c, .slice (some ad) n d] :: growR 153 3 PutR (.slice A bl.length c) bl :: L) 8 [0, 1, 3, 5, 6, 7]).snocGrow hq2 rfl hxl
        have H10 := hide h10
        clear h6 h7 h9 h10 hq2 hxl
        refine seq_read rfl rfl (by (go_simp; try rfl)) (fun h => absurd h (by decide)) ?_
        (simp only [Act.put, List.setIfInBounds_toArray, List.set_cons_succ, List.set_cons_zero])
        refine seq_nil ?_
        go_wp2_with fail
        go_roundg (n - (k + 1))
        case measure => have := HG.out; omega
        case rel => exact ⟨k + 1, A6, q + 1, c6, rfl, by omega, rfl, by go_num, by rw [E.out, List.length_append, ← HQ.out]; rfl, by rw [E.out]; exact H10.out⟩
      · have b1 : (x.region == r) = false := isF hr
        have ee : (ws.take (k + 1)).filter (inReg r) = (ws.take k).filter (inReg r) := by rw [HT.out, List.filter_append]; simp [inReg, hr]
        have E := hide ee
        clear ee
        go_wp2_with fail
        go_roundg (n - (k + 1))
        case measure => have := HG.out; omega
        case rel => exact ⟨k + 1, C, q, e, rfl, by omega, rfl, by go_num, by rw [E.out]; exact HQ.out, by rw [E.out]; exact ((H1.out.tail.swap).junk _)⟩
    · obtain rfl : k = n := by omega
      have htk : ws.take k = ws := List.take_of_length_le (by rw [← HN.out]; exact Nat.le_refl _)
      rw [htk] at h
      have HN2 := HN.out
      have H := hide (h.pick (L' := growR 153 3 PutR (.slice C q e) (ws.filter (inReg r)) :: blkR g 43 #[.slice A bl.length c, .slice B k d] :: growR 153 3 PutR (.slice A bl.length c) bl :: growR 153 3 PutR (.slice B k d) ws :: L) 4 [0, 2, 3, 1])
      clear h htk hq HN2
      go_wp2_with fail
      go_ret
      exact ⟨.slice C q e, rfl, (H.out.pick (L' := blkR g 43 #[.slice A bl.length c, .slice B k d] :: growR 153 3 PutR (.slice A bl.length c) bl :: growR 153 3 PutR (.slice B k d) ws :: growR 153 3 PutR (.slice C q e) (ws.filter (inReg r)) :: L) 4 [1, 2, 3, 0]).cacheC.swap⟩
end Go.Proofs.Ytbgknfdaaffeaaa
