/- Cache: the document's Read. -/
import Derived.Test.YtbgknfdaaffeaaaCaPm
import Derived.Test.YtbgknfdaaffeaaaCaRd
import Derived.Test.YtbgknfdaaffeaaaSub
namespace Go.Proofs.Ytbgknfdaaffeaaa
open Go.RowKit Go.Shelf

theorem idxP_at (p : PU → Bool) : ∀ (l : List PU) (k i : Nat) (x : PU), l[k]? = some x → p x = true → (l.take k).any p = false → idxP p i l = ((i + k : Nat) : Int)
  | [], k, i, x, h, _, _ => by simp at h
  | y :: r, 0, i, x, h, hp, _ => by
    obtain rfl : y = x := by simpa using h
    unfold idxP
    rw [if_pos hp]
    rfl
  | y :: r, k + 1, i, x, h, hp, ha => by
    rw [List.take_succ_cons, List.any_cons, Bool.or_eq_false_iff] at ha
    unfold idxP
    rw [if_neg (by rw [ha.1]; decide), idxP_at p r k (i + 1) x (by simpa using h) hp ha.2]
    congr 1
    omega
theorem idxP_no (p : PU → Bool) (l : List PU) (h : l.any p = false) : idxP p 0 l = -1 := by
  rcases idxP_spec p l 0 with ⟨h1, _⟩ | ⟨k, x, _, h2, h3⟩
  · exact h1
  · have := any_of p h2 h3
    rw [h] at this
    cases this
theorem rput_build (w : World) (a b : Int) (A : Option Addr) (n k : Nat) : (Instr.buildSlice 45 1 #[(0, .agg #[.int .i64 a, .int .i64 b, .slice A n k])]).run Try.prog w = .ok (.slice (some ⟨w.heap.size, 0, none⟩) 1 1) (w.alloc (.cells #[.int .i64 a, .int .i64 b, .slice A n k] 69)) := by kernel_rfl
def docS (g y z : Nat) (v : Value) (r i : Int) (a b d : Value) (W : World) : Prop := W.cell? ⟨g, 0, none⟩ = some v ∧ (W.cell? ⟨y, 0, none⟩ = some (.int .i64 r) ∧ W.cell? ⟨y, 1, none⟩ = some (.int .i64 i)) ∧ W.cell? ⟨z, 0, none⟩ = some a ∧ W.cell? ⟨z, 1, none⟩ = some b ∧ W.cell? ⟨z, 2, none⟩ = some d
theorem docS_of {M0 : Imm} {W : World} {Ls : List Res} {g y z : Nat} {v u a b d : Value} {r i : Int} (h : St M0 W Ls) (j k l : Nat) (hj : Ls[j]? = some (blkR g 47 #[v, u])) (hk : Ls[k]? = some (blkR y 53 #[.int .i64 r, .int .i64 i])) (hl : Ls[l]? = some (blkR z 69 #[a, b, d])) : docS g y z v r i a b d W :=
  ⟨(h.blk j hj).cell 0, ⟨(h.blk k hk).cell 0, (h.blk k hk).cell 1⟩, (h.blk l hl).cell 0, (h.blk l hl).cell 1, (h.blk l hl).cell 2⟩
set_option maxHeartbeats 4000000 in
set_option maxRecDepth 100000 in
theorem readD_st {M0 : Imm} {L : List Res} (g : Nat) (bl ws : List PU) (r i : Int) (w : World) (hl : bl.length ≤ 1000000) (hn : (bl.map keyOf).Nodup) (h : St M0 w (docR g bl ws :: L)) :
    Calls Try.prog 24 #[.pointer (some ⟨g, 0, none⟩), .agg #[.int .i64 r, .int .i64 i]] w fun e w' => ∃ v, e = .returned (.tuple #[v, .bool (decide (0 ≤ idxP (keyIs r i) 0 bl))]) ∧ St M0 w' (intsR .u8 v (readD bl r i) :: docR g (readB bl r i) ws :: L) := by
  obtain ⟨A0, c, B, d, hc, _, hcm, _, h0⟩ := h.docO
  obtain ⟨n, hn'⟩ : ∃ n, n = bl.length := ⟨_, rfl⟩
  rw [← hn'] at hc h0
  have HN := hide hn'
  have HD := hide hn
  have HL := hide hl
  have hn1 : n ≤ 1000000 := by omega
  have H := hide (h0.alloc 53 #[.int .i64 r, .int .i64 i])
  have k0 := (h0.blk 0 rfl).cell 0
  clear h h0 hn hn' hl
  go_enter Try.func24, Try.ntmps24
  go_wp2_with fail
  generalize w.heap.size = y at *
  clear k0
  go_loopg [6] n (fun gh iv wr => ∃ k, gh = n - k ∧ k ≤ n ∧ iv = .int .i64 (k : Nat) ∧ (bl.take k).any (keyIs r i) = false ∧ St M0 wr (blkR y 53 #[.int .i64 r, .int .i64 i] :: blkR g 47 #[.slice A0 n c, .slice B ws.length d] :: rowsR 3 PutR (.slice A0 n c) bl :: rowsR 3 PutR (.slice B ws.length d) ws :: L))
  case atStart => exact ⟨0, rfl, by omega, rfl, rfl, H.out⟩
  case round =>
    clear H
    obtain ⟨k, hg, hk, rfl, hno, h⟩ := hrel
    have HG := hide hg
    have HJ := hide h
    have HNO := hide hno
    clear hg hno
    have k0 := (h.blk 1 rfl).cell 0
    by_cases hlt : k < n
    · have hx := List.getElem?_eq_getElem (l := bl) (i := k) (by rw [← HN.out]; exact hlt)
      generalize bl[k]'(by rw [← HN.out]; exact hlt) = x at hx
      obtain ⟨ad, cs, rfl, _, hcs, ⟨v, rfl, hv⟩, h1⟩ := h.elem 2 rfl hx
      obtain ⟨X, xc, rfl, _, _, _⟩ := id hv
      obtain ⟨f0, f1, f2⟩ := cells3 hcs
      have y0 := (h.blk 0 rfl).cell 0
      have y1 := (h.blk 0 rfl).cell 1
      have i0 : (0 : Int) ≤ (k : Int) := by omega
      have i1 : (k : Int) < (n : Int) := by omega
      have HX := hide hx
      have H1 := hide (h1.pers1 (R' := fun w' => (∀ j u, [.int .i64 x.region, .int .i64 x.index, .slice X x.data.length xc][j]? = some u → w'.cell? ((ad.add (k * 3)).add j) = some u) ∧ PutR w' [.int .i64 x.region, .int .i64 x.index, .slice X x.data.length xc] x) (fun w' hw => hw))
      clear hcs hv h hx h1
      by_cases cr : x.region = r
      · have br : (x.region == r) = true := isT cr
        by_cases ci : x.index = i
        · have bi : (x.index == i) = true := isT ci
          have hkx := hide (show keyIs r i x = true by unfold keyIs; rw [br, bi]; rfl)
          have E0 := hide (idxP_at (keyIs r i) bl k 0 x HX.out hkx.out HNO.out)
          have E1 := hide (show readB bl r i = bl.filter (fun y => !keyIs r i y) ++ [x] by unfold readB; simp only [E0.out, Nat.zero_add]; rw [if_pos (by omega), Int.toNat_natCast, HX.out, erase_filter HD.out HX.out ((keyIs_iff r i x).1 hkx.out)]; rfl)
          have E2 := hide (show readD bl r i = x.data by unfold readD; simp only [E0.out, Nat.zero_add]; rw [if_pos (by omega), Int.toNat_natCast, HX.out]; rfl)
          have E3 := hide (show decide (0 ≤ idxP (keyIs r i) 0 bl) = true by rw [E0.out]; exact decide_eq_true (by omega))
          clear cr ci
          go_wp2_with fail
          go_quiet (fail)
          have H2 := hide (H1.out.drewN nq)
          generalize World.drewN _ _ = W at H2 ⊢
          obtain ⟨f0, f1, f2⟩ := cells3 (H2.out.get 0 rfl).1
          have k0 := (H2.out.blk 2 rfl).cell 0
          clear H1 HJ y0 y1
          go_wp2_with fail
          have h3 := H2.out.alloc 69 #[.int .i64 x.region, .int .i64 x.index, .slice X x.data.length xc]
          generalize W.heap.size = z at h3 ⊢
          have H3 := hide (((h3.swap.pers1 (R' := fun w' => PutR w' [.int .i64 x.region, .int .i64 x.index, .slice X x.data.length xc] x) (fun w' hw => hw.2)).sub (L' := blkR z 69 #[.int .i64 x.region, .int .i64 x.index, .slice X x.data.length xc] :: persR (fun w' => PutR w' [.int .i64 x.region, .int .i64 x.index, .slice X x.data.length xc] x) :: blkR y 53 #[.int .i64 r, .int .i64 i] :: blkR g 47 #[.slice (some ad) n c, .slice B ws.length d] :: rowsR 3 PutR (.slice (some ad) n c) bl :: rowsR 3 PutR (.slice B ws.length d) ws :: L) (by (repeat (first | with_reducible exact Sub.refl _ | (with_reducible apply Sub.take; focus (repeat (first | with_reducible exact At.here | with_reducible apply At.there))) | with_reducible apply Sub.drop)))))
          clear h3 H2 f0 f1 f2 k0
          generalize W.alloc _ = w3 at H3 ⊢
          refine region_mixs (docS g y z (.slice (some ad) n c) r i (.int .i64 x.region) (.int .i64 x.index) (.slice X x.data.length xc)) 10 5 [0, 1, 2, 3, 4, 5, 7] [[6, 8, 9, 10, 11, 12], [8, 6, 9, 10, 11, 12]] (by kernel_rfl) (by kernel_rfl) (fun d => by cases d <;> exact fun _ _ _ _ h => h) (fun W hW => ?_)
          have HW := hide (H3.out.drew)
          rw [← hW] at HW
          clear hW H3
          refine ⟨docS_of HW.out 3 2 0 rfl rfl rfl, ?_⟩
          iterate 7 (refine take_run rfl rfl (fun W hW => by (obtain ⟨x0, ⟨y0, y1⟩, z0, z1, z2⟩ := hW; go_simp; try rfl)) ?_; (simp only [Act.put, List.setIfInBounds_toArray, List.set_cons_succ, List.set_cons_zero]))
          refine take_nil ?_
          intro tl htl
          simp only [List.mem_cons, List.not_mem_nil, or_false] at htl
          rcases htl with rfl | rfl
          case' inl =>
            refine seq_call (f := 77) (args := #[.slice (some ad) n c, .agg #[.int .i64 r, .int .i64 i]]) rfl rfl (by go_simp; try rfl) ?_
            refine (without_st bl r i (some ad) n c W 4 rfl HL.out HW.out).mono ?_
            rintro e w4 ⟨v, rfl, h5⟩
            obtain ⟨A5, c5, rfl, _, _⟩ := h5.growLen
            refine ⟨_, rfl, fun _ => docS_of h5 4 3 1 rfl rfl rfl, ?_⟩
            (simp only [Act.put, List.setIfInBounds_toArray, List.set_cons_succ, List.set_cons_zero])
            have H5 := hide (h5.alloc 69 #[.int .i64 x.region, .int .i64 x.index, .slice X x.data.length xc])
            clear h5 HW
            refine seq_buildSlice1 rfl rfl 45 1 0 _ (.agg #[.int .i64 x.region, .int .i64 x.index, .slice X x.data.length xc]) rfl rfl (rput_build _ _ _ _ _ _) (fun _ => docS_of H5.out 5 4 2 rfl rfl rfl) ?_
            (simp only [Act.put, List.setIfInBounds_toArray, List.set_cons_succ, List.set_cons_zero])
            generalize w4.heap.size = q at H5 ⊢
            generalize w4.alloc _ = w6 at H5 ⊢
          case' inr =>
            have h4 := HW.out.alloc 69 #[.int .i64 x.region, .int .i64 x.index, .slice X x.data.length xc]
            refine seq_buildSlice1 rfl rfl 45 1 0 _ (.agg #[.int .i64 x.region, .int .i64 x.index, .slice X x.data.length xc]) rfl rfl (rput_build _ _ _ _ _ _) (fun _ => docS_of h4 4 3 1 rfl rfl rfl) ?_
            (simp only [Act.put, List.setIfInBounds_toArray, List.set_cons_succ, List.set_cons_zero])
            generalize W.heap.size = q at h4 ⊢
            generalize W.alloc _ = W4 at h4 ⊢
            refine seq_call (f := 77) (args := #[.slice (some ad) n c, .agg #[.int .i64 r, .int .i64 i]]) rfl rfl (by go_simp; try rfl) ?_
            refine (without_st bl r i (some ad) n c W4 5 rfl HL.out h4).mono ?_
            rintro e w6 ⟨v, rfl, h6⟩
            obtain ⟨A5, c5, rfl, _, _⟩ := h6.growLen
            refine ⟨_, rfl, fun _ => docS_of h6 5 4 2 rfl rfl rfl, ?_⟩
            (simp only [Act.put, List.setIfInBounds_toArray, List.set_cons_succ, List.set_cons_zero])
            have H5 := hide h6.swap
            clear h4 h6 HW
          all_goals
            obtain ⟨m, hm⟩ : ∃ m, m = (bl.filter (fun y => !keyIs r i y)).length := ⟨_, rfl⟩
            have hml : m ≤ 1000000 := by
              have := List.length_filter_le (fun y => !keyIs r i y) bl
              have := HL.out
              omega
            rw [← hm] at H5 ⊢
            have h7 := H5.out.pick (L' := growR 69 3 PutR (.slice A5 m c5) (bl.filter (fun y => !keyIs r i y)) :: blkR q 69 #[.int .i64 x.region, .int .i64 x.index, .slice X x.data.length xc] :: blkR z 69 #[.int .i64 x.region, .int .i64 x.index, .slice X x.data.length xc] :: persR (fun w' => PutR w' [.int .i64 x.region, .int .i64 x.index, .slice X x.data.length xc] x) :: blkR y 53 #[.int .i64 r, .int .i64 i] :: blkR g 47 #[.slice (some ad) n c, .slice B ws.length d] :: rowsR 3 PutR (.slice (some ad) n c) bl :: rowsR 3 PutR (.slice B ws.length d) ws :: L) 4 [1, 0, 2, 3]
            obtain ⟨vs, hq2, hxl, h8⟩ := h7.openGrowS
            refine seq_app rput_elem h8 rfl rfl _ _ rfl rfl (some ⟨q, 0, none⟩) 1 1 rfl [.int .i64 x.region, .int .i64 x.index, .slice X x.data.length xc] (sl_blkN (cs := [.int .i64 x.region, .int .i64 x.index, .slice X x.data.length xc]) (h8.blk 2 rfl)) (put_one _ _ _ _ _) (by omega) (by omega) (fun A4 c4 w7 h9 => ⟨fun _ => docS_of h9 6 5 3 rfl rfl rfl, ?_⟩)
            (simp only [Act.put, List.setIfInBounds_toArray, List.set_cons_succ, List.set_cons_zero])
            have h10 := ((h9.copy 4 rfl).sub (L' := rowR 69 3 (.slice A4 (m + 1) c4) (m + 1) (vs ++ [.int .i64 x.region, .int .i64 x.index, .slice X x.data.length xc]) :: persR (fun w => ∀ (k : Nat) p, (bl.filter (fun y => !keyIs r i y))[k]? = some p → PutR w ((vs.drop (k * 3)).take 3) p) :: persR (fun w' => PutR w' [.int .i64 x.region, .int .i64 x.index, .slice X x.data.length xc] x) :: persR (fun w' => PutR w' [.int .i64 x.region, .int .i64 x.index, .slice X x.data.length xc] x) :: blkR g 47 #[.slice (some ad) n c, .slice B ws.length d] :: rowsR 3 PutR (.slice B ws.length d) ws :: blkR z 69 #[.int .i64 x.region, .int .i64 x.index, .slice X x.data.length xc] :: L) (by (repeat (first | with_reducible exact Sub.refl _ | (with_reducible apply Sub.take; focus (repeat (first | with_reducible exact At.here | with_reducible apply At.there))) | with_reducible apply Sub.drop)))).snocGrow (size := 3) hq2 rfl hxl
            have x0 := (h10.blkA (g := g) (t := 47) (cs := #[.slice (some ad) n c, .slice B ws.length d]) (by (repeat (first | with_reducible exact At.here | with_reducible apply At.there)))).cell 0
            have f := (h10.blkA (g := g) (t := 47) (cs := #[.slice (some ad) n c, .slice B ws.length d]) (by (repeat (first | with_reducible exact At.here | with_reducible apply At.there)))).frozen
            have h11 := ((h10.sub (L' := blkR g 47 #[.slice (some ad) n c, .slice B ws.length d] :: growR 69 3 PutR (.slice A4 (m + 1) c4) (bl.filter (fun y => !keyIs r i y) ++ [x]) :: rowsR 3 PutR (.slice B ws.length d) ws :: persR (fun w' => PutR w' [.int .i64 x.region, .int .i64 x.index, .slice X x.data.length xc] x) :: blkR z 69 #[.int .i64 x.region, .int .i64 x.index, .slice X x.data.length xc] :: L) (by (repeat (first | with_reducible exact Sub.refl _ | (with_reducible apply Sub.take; focus (repeat (first | with_reducible exact At.here | with_reducible apply At.there))) | with_reducible apply Sub.drop)))).put_ 0 (.slice A4 (m + 1) c4) #[.slice A4 (m + 1) c4, .slice B ws.length d])
            have H11 := hide ((h11.swap.rowsGrow.sub (L' := persR (fun w' => PutR w' [.int .i64 x.region, .int .i64 x.index, .slice X x.data.length xc] x) :: blkR g 47 #[.slice A4 (m + 1) c4, .slice B ws.length d] :: rowsR 3 PutR (.slice A4 (m + 1) c4) (bl.filter (fun y => !keyIs r i y) ++ [x]) :: rowsR 3 PutR (.slice B ws.length d) ws :: blkR z 69 #[.int .i64 x.region, .int .i64 x.index, .slice X x.data.length xc] :: L) (by (repeat (first | with_reducible exact Sub.refl _ | (with_reducible apply Sub.take; focus (repeat (first | with_reducible exact At.here | with_reducible apply At.there))) | with_reducible apply Sub.drop)))).pers1 (R' := fun w' => Ints w' .u8 (.slice X x.data.length xc) x.data) (fun w' hp => by
              obtain ⟨v, hv, hi⟩ := hp
              simp only [List.cons.injEq, and_true, true_and] at hv
              rw [hv]
              exact hi))
            clear h7 h8 h9 h10 h11 hq2 hxl H5 hml hm
            refine seq_read rfl rfl (by (go_simp; try rfl)) (fun h => absurd h (by decide)) ?_
            (simp only [Act.put, List.setIfInBounds_toArray, List.set_cons_succ, List.set_cons_zero])
            refine seq_read rfl rfl (by (go_simp; try rfl)) (fun h => absurd h (by decide)) ?_
            (simp only [Act.put, List.setIfInBounds_toArray, List.set_cons_succ, List.set_cons_zero])
            refine seq_store rfl rfl 45 _ _ (.pointer (some ⟨g, 0, none⟩)) (.slice A4 (m + 1) c4) rfl rfl rfl (by go_simp; try rfl) (fun h => absurd h (by decide)) ?_
            simp only [Act.put]
            refine seq_nil ?_
            have z2 := (H11.out.blkA (g := z) (t := 69) (cs := #[.int .i64 x.region, .int .i64 x.index, .slice X x.data.length xc]) (by (repeat (first | with_reducible exact At.here | with_reducible apply At.there)))).cell 2
            go_wp2_with fail
            go_ret2
            exact ⟨.slice X x.data.length xc, by rw [E3.out]; try rfl, by
              rw [E1.out, E2.out]
              exact (((H11.out.sub (L' := blkR g 47 #[.slice A4 (m + 1) c4, .slice B ws.length d] :: rowsR 3 PutR (.slice A4 (m + 1) c4) (bl.filter (fun y => !keyIs r i y) ++ [x]) :: rowsR 3 PutR (.slice B ws.length d) ws :: intsR .u8 (.slice X x.data.length xc) x.data :: L) (by (repeat (first | with_reducible exact Sub.refl _ | (with_reducible apply Sub.take; focus (repeat (first | with_reducible exact At.here | with_reducible apply At.there))) | with_reducible apply Sub.drop)))).docC).swap)⟩
        · have bi : (x.index == i) = false := isF ci
          have E := hide (show (bl.take (k + 1)).any (keyIs r i) = false by rw [any_snoc _ HX.out, HNO.out]; unfold keyIs; rw [br, bi]; rfl)
          clear cr ci
          go_wp2_with fail
          go_quiet (fail)
          go_wp2_with fail
          go_roundg (n - (k + 1))
          case measure => have := HG.out; omega
          case rel => exact ⟨k + 1, rfl, by omega, by go_num, E.out, HJ.out.drewN _⟩
      · have br : (x.region == r) = false := isF cr
        have E := hide (show (bl.take (k + 1)).any (keyIs r i) = false by rw [any_snoc _ HX.out, HNO.out]; unfold keyIs; rw [br]; rfl)
        clear cr
        go_wp2_with fail
        go_quiet (fail)
        go_wp2_with fail
        go_roundg (n - (k + 1))
        case measure => have := HG.out; omega
        case rel => exact ⟨k + 1, rfl, by omega, by go_num, E.out, HJ.out.drewN _⟩
    · obtain rfl : k = n := by omega
      have E0 := idxP_no (keyIs r i) bl (by
        have := HNO.out
        rwa [List.take_of_length_le (by rw [← HN.out]; exact Nat.le_refl _)] at this)
      have E1 := hide (show readB bl r i = bl by unfold readB; rw [E0, if_neg (by omega)])
      have E2 := hide (show readD bl r i = [] by unfold readD; rw [E0, if_neg (by omega)])
      have E3 := hide (show decide (0 ≤ idxP (keyIs r i) 0 bl) = false by rw [E0]; rfl)
      rw [HN.out] at h
      have H := hide h.tail.docC
      clear h E0
      go_wp2_with fail
      go_ret2
      exact ⟨.slice none 0 0, by rw [E3.out]; try rfl, by rw [E1.out, E2.out]; exact H.out.pers0 (fun w' _ => Ints.none_ w' _)⟩
end Go.Proofs.Ytbgknfdaaffeaaa
