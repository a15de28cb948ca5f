/- Cache: use. -/
import Derived.Test.YtbgknfdaaffeaaaCaD
import Derived.Test.YtbgknfdaaffeaaaCaF
namespace Go.Proofs.Ytbgknfdaaffeaaa
open Go.RowKit

theorem put_build (w : World) (a b : Int) (A : Option Addr) (n k : Nat) : (Instr.buildSlice 41 1 #[(0, .agg #[.int .i64 a, .int .i64 b, .slice A n k])]).run Try.prog w = .ok (.slice (some ⟨w.heap.size, 0, none⟩) 1 1) (w.alloc (.cells #[.int .i64 a, .int .i64 b, .slice A n k] 153)) := by kernel_rfl
theorem put_one (a b : Int) (A : Option Addr) (n k : Nat) : ∀ u ∈ [Value.int .i64 a, .int .i64 b, .slice A n k], u.oneCell' = true := by
  intro u hu
  simp at hu
  rcases hu with rfl | rfl | rfl <;> rfl
def useS (g y : Nat) (v a b d : Value) (W : World) : Prop := W.cell? ⟨g, 0, none⟩ = some v ∧ W.cell? ⟨y, 0, none⟩ = some a ∧ W.cell? ⟨y, 1, none⟩ = some b ∧ W.cell? ⟨y, 2, none⟩ = some d
theorem useS_of {M0 : Imm} {W : World} {Ls : List Res} {g y : Nat} {v u a b d : Value} (h : St M0 W Ls) (i j : Nat) (hi : Ls[i]? = some (blkR g 43 #[v, u])) (hj : Ls[j]? = some (blkR y 153 #[a, b, d])) : useS g y v a b d W :=
  ⟨(h.blk i hi).cell 0, (h.blk j hj).cell 0, (h.blk j hj).cell 1, (h.blk j hj).cell 2⟩
theorem sl_blkN {w : World} {b : Nat} {t : TypeId} {cs : List Value} (h : Blk w b t cs.toArray) : Sl w Any cs.length (some ⟨b, 0, none⟩) 1 cs :=
  ⟨by simp, fun _ => ⟨_, rfl, trivial, h.lt, fun j u hu => by
    rw [show (⟨b, 0, none⟩ : Addr).add j = ⟨b, j, none⟩ by simp [Addr.add]; exact Eq.symm, h.cell]
    simpa using hu⟩⟩
set_option maxHeartbeats 2000000 in
set_option maxRecDepth 100000 in
theorem use_st {M0 : Imm} {L : List Res} (g : Nat) (bl wr : List PU) (i : Nat) (x : PU) (w : World) (hx : bl[i]? = some x) (hl : bl.length ≤ 1000000) (h : St M0 w (cacheR g bl wr :: L)) :
    Calls Try.prog 75 #[.pointer (some ⟨g, 0, none⟩), .int .i64 i] w fun e w' => e = .returned (.tuple #[]) ∧ St M0 w' (cacheR g (bl.eraseIdx i ++ [x]) wr :: L) := by
  obtain ⟨A, c, B, d, hc, _, hcm, _, h1⟩ := h.cacheO
  have hi := (List.getElem?_eq_some_iff.1 hx).1
  obtain ⟨n, hn⟩ : ∃ n, n = bl.length := ⟨_, rfl⟩
  rw [← hn] at h1 hc
  have x0 := (h1.blk 0 rfl).cell 0
  obtain ⟨ad, cs, rfl, _, hcs, ⟨v, rfl, hv⟩, -, h2⟩ := (h1.pick (L' := growR 153 3 PutR (.slice A n c) bl :: blkR g 43 #[.slice A n c, .slice B wr.length d] :: growR 153 3 PutR (.slice B wr.length d) wr :: L) 3 [1, 0, 2]).elemG (by omega) hx
  obtain ⟨X, xc, rfl, _, _, _⟩ := id hv
  obtain ⟨e0, e1, e2⟩ := cells3 hcs
  have H2 := hide h2
  have HI := hide hi
  have HN := hide hn
  have i0 : (0 : Int) ≤ (i : Int) := by omega
  have i1 : (i : Int) < (n : Int) := by omega
  have i2 : (n : Int) ≤ 1000000 := by omega
  have f := (h1.blk 0 rfl).frozen
  clear h h1 h2 hv hcs hi hn hx hl
  go_enter Try.func75, Try.ntmps75
  go_wp2_with fail
  have h3 := H2.out.alloc 153 #[.int .i64 x.region, .int .i64 x.index, .slice X x.data.length xc]
  generalize w.heap.size = y at h3 ⊢
  have H3 := hide h3
  clear h3 H2 e0 e1 e2 x0 f
  generalize w.alloc _ = w3 at H3 ⊢
  obtain ⟨j, hj⟩ : ∃ j, j = i + 1 := ⟨_, rfl⟩
  have HJ := hide hj
  have jw : IntKind.i64.wrap ((i : Int) + 1) = (j : Int) := by rw [hj, IntWalk.i64_in _ (by omega)]; omega
  clear hj
  refine region_mixs (useS g y (.slice (some ad) n c) (.int .i64 x.region) (.int .i64 x.index) (.slice X x.data.length xc)) 12 5 [0, 1, 2, 3, 4, 5, 6, 7, 9] [[8, 10, 11, 12, 13, 14], [10, 8, 11, 12, 13, 14]] (by kernel_rfl) (by kernel_rfl) (fun d => by cases d <;> exact fun _ _ _ _ h => h) (fun W hW => ?_)
  have HW := hide (H3.out.drew)
  rw [← hW] at HW
  clear hW H3
  refine ⟨useS_of HW.out 3 0 rfl rfl, ?_⟩
  iterate 7 (refine take_run rfl rfl (fun W hW => by (obtain ⟨x0, y0, y1, y2⟩ := hW; go_simp; try rfl)) ?_; (simp only [Act.put, List.setIfInBounds_toArray, List.set_cons_succ, List.set_cons_zero]))
  refine take_run (v := .int .i64 j) rfl rfl (fun W hW => by (obtain ⟨x0, y0, y1, y2⟩ := hW; go_simp; first | done | (rw [jw]; try rfl))) ?_; (simp only [Act.put, List.setIfInBounds_toArray, List.set_cons_succ, List.set_cons_zero])
  refine take_run rfl rfl (fun W hW => by (obtain ⟨x0, y0, y1, y2⟩ := hW; go_simp; try rfl)) ?_; (simp only [Act.put, List.setIfInBounds_toArray, List.set_cons_succ, List.set_cons_zero])
  refine take_nil ?_
  intro tl htl
  simp only [List.mem_cons, List.not_mem_nil, or_false] at htl
  rcases htl with rfl | rfl
  case' inl =>
    have h4 := HW.out.pick (L' := growR 153 3 PutR (.slice (some ad) n c) bl :: blkR y 153 #[.int .i64 x.region, .int .i64 x.index, .slice X x.data.length xc] :: persR (fun w' => PutR w' [.int .i64 x.region, .int .i64 x.index, .slice X x.data.length xc] x) :: blkR g 43 #[.slice (some ad) n c, .slice B wr.length d] :: growR 153 3 PutR (.slice B wr.length d) wr :: L) 5 [2, 0, 1, 3, 4]
    refine seq_call (f := 135) (args := #[.slice (some ad) n c, .int .i64 i, .int .i64 j]) rfl rfl (by go_simp; try rfl) ?_
    refine (del_st bl (some ad) n c i j W HJ.out HI.out h4).mono ?_
    rintro e w4 ⟨q, hq, rfl, h5⟩
    refine ⟨_, rfl, fun _ => useS_of h5 3 1 rfl rfl, ?_⟩
    (simp only [Act.put, List.setIfInBounds_toArray, List.set_cons_succ, List.set_cons_zero])
    have HQ := hide hq
    have H5 := hide (h5.alloc 153 #[.int .i64 x.region, .int .i64 x.index, .slice X x.data.length xc])
    clear h4 h5 hq HW
    refine seq_buildSlice1 rfl rfl 41 1 0 _ (.agg #[.int .i64 x.region, .int .i64 x.index, .slice X x.data.length xc]) rfl rfl (put_build _ _ _ _ _ _) (fun _ => useS_of H5.out 4 2 rfl rfl) ?_
    (simp only [Act.put, List.setIfInBounds_toArray, List.set_cons_succ, List.set_cons_zero])
    generalize w4.heap.size = z at H5 ⊢
    generalize w4.alloc _ = w6 at H5 ⊢
  case' inr =>
    have h4 := HW.out.alloc 153 #[.int .i64 x.region, .int .i64 x.index, .slice X x.data.length xc]
    refine seq_buildSlice1 rfl rfl 41 1 0 _ (.agg #[.int .i64 x.region, .int .i64 x.index, .slice X x.data.length xc]) rfl rfl (put_build _ _ _ _ _ _) (fun _ => useS_of h4 4 1 rfl rfl) ?_
    (simp only [Act.put, List.setIfInBounds_toArray, List.set_cons_succ, List.set_cons_zero])
    generalize W.heap.size = z at h4 ⊢
    have h5 := h4.pick (L' := growR 153 3 PutR (.slice (some ad) n c) bl :: blkR z 153 #[.int .i64 x.region, .int .i64 x.index, .slice X x.data.length xc] :: blkR y 153 #[.int .i64 x.region, .int .i64 x.index, .slice X x.data.length xc] :: persR (fun w' => PutR w' [.int .i64 x.region, .int .i64 x.index, .slice X x.data.length xc] x) :: blkR g 43 #[.slice (some ad) n c, .slice B wr.length d] :: growR 153 3 PutR (.slice B wr.length d) wr :: L) 6 [3, 0, 1, 2, 4, 5]
    clear h4 HW
    generalize W.alloc _ = W4 at h5 ⊢
    refine seq_call (f := 135) (args := #[.slice (some ad) n c, .int .i64 i, .int .i64 j]) rfl rfl (by go_simp; try rfl) ?_
    refine (del_st bl (some ad) n c i j W4 HJ.out HI.out h5).mono ?_
    rintro e w6 ⟨q, hq, rfl, h6⟩
    refine ⟨_, rfl, fun _ => useS_of h6 4 2 rfl rfl, ?_⟩
    (simp only [Act.put, List.setIfInBounds_toArray, List.set_cons_succ, List.set_cons_zero])
    have HQ := hide hq
    have H5 := hide h6.swap
    clear h5 h6 hq
  all_goals
    have h7 := H5.out.pick (L' := growR 153 3 PutR (.slice (some ad) q c) (bl.eraseIdx i) :: blkR z 153 #[.int .i64 x.region, .int .i64 x.index, .slice X x.data.length xc] :: blkR y 153 #[.int .i64 x.region, .int .i64 x.index, .slice X x.data.length xc] :: persR (fun w' => PutR w' [.int .i64 x.region, .int .i64 x.index, .slice X x.data.length xc] x) :: blkR g 43 #[.slice (some ad) n c, .slice B wr.length d] :: growR 153 3 PutR (.slice B wr.length d) wr :: L) 6 [1, 0, 2, 3, 4, 5]
    obtain ⟨vs, hq2, hxl, h8⟩ := h7.openGrowS
    have hqn := HQ.out
    refine seq_app put_elem h8 rfl rfl _ _ rfl rfl (some ⟨z, 0, none⟩) 1 1 rfl [.int .i64 x.region, .int .i64 x.index, .slice X x.data.length xc] (sl_blkN (cs := [.int .i64 x.region, .int .i64 x.index, .slice X x.data.length xc]) (h8.blk 2 rfl)) (put_one _ _ _ _ _) (by omega) (by omega) (fun A4 c4 w7 h9 => ⟨fun _ => useS_of h9 5 3 rfl rfl, ?_⟩)
    (simp only [Act.put, List.setIfInBounds_toArray, List.set_cons_succ, List.set_cons_zero])
    have h10 := (h9.pick (L' := rowR 153 3 (.slice A4 (q + 1) c4) (q + 1) (vs ++ [.int .i64 x.region, .int .i64 x.index, .slice X x.data.length xc]) :: persR (fun w => ∀ (k : Nat) p, (bl.eraseIdx i)[k]? = some p → PutR w ((vs.drop (k * 3)).take 3) p) :: persR (fun w' => PutR w' [.int .i64 x.region, .int .i64 x.index, .slice X x.data.length xc] x) :: blkR g 43 #[.slice (some ad) n c, .slice B wr.length d] :: growR 153 3 PutR (.slice B wr.length d) wr :: L) 7 [0, 1, 4, 5, 6]).snocGrow hq2 rfl hxl
    have x0 := (h10.blk 1 rfl).cell 0
    have f := (h10.blk 1 rfl).frozen
    have H11 := hide (h10.swap.set_ 0 (.slice A4 (q + 1) c4))
    clear h7 h8 h9 h10 hqn hq2 hxl H5
    refine seq_read rfl rfl (by (go_simp; try rfl)) (fun h => absurd h (by decide)) ?_
    (simp only [Act.put, List.setIfInBounds_toArray, List.set_cons_succ, List.set_cons_zero])
    refine seq_read rfl rfl (by (go_simp; try rfl)) (fun h => absurd h (by decide)) ?_
    (simp only [Act.put, List.setIfInBounds_toArray, List.set_cons_succ, List.set_cons_zero])
    refine seq_store rfl rfl 41 _ _ (.pointer (some ⟨g, 0, none⟩)) (.slice A4 (q + 1) c4) rfl rfl rfl (by go_simp; try rfl) (fun h => absurd h (by decide)) ?_
    simp only [Act.put]
    refine seq_nil ?_
    clear x0 f
    go_wp2_with fail
    go_end0
    exact ⟨rfl, H11.out.cacheC⟩
end Go.Proofs.Ytbgknfdaaffeaaa
