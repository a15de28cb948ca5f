/- Redo: RedoWhole. -/
import Derived.Test.YtbnjeekhoaapiaaRedoAk
import Derived.Test.YtbnjeekhoaapiaaRedoBr
import Derived.Test.YtbnjeekhoaapiaaRedoFo
import Derived.Test.YtbnjeekhoaapiaaRedoS
import Derived.Test.YtbnjeekhoaapiaaRedoDs
import Derived.Test.YtbnjeekhoaapiaaDet
namespace Go.Proofs.Ytbnjeekhoaapiaa
open Go.RowKit

def svOf : Value → SV
  | .slice a n c => ⟨a, n, c⟩
  | _ => ⟨none, 0, 0⟩
theorem svOf_eq {w : World} {v : Value} {xs : List Int} (h : Ints w .u8 v xs) : v = .slice (svOf v).a (svOf v).n (svOf v).c := by
  obtain ⟨A, c, rfl, _⟩ := h
  rfl
/-- an image's blocks of region 1, and its log's slice -/
theorem rim_one {w : World} {g : Nat} {vs : Nat → RV} {m : Nat → Rg} (hb : Blk w g 85 (rimC m vs)) (hr : ∀ k, k < 4 → RegR w (vs k) (m k)) :
    w.cell? ⟨g, 12, none⟩ = some (.slice (svOf ((vs 1).b 0)).a (svOf ((vs 1).b 0)).n (svOf ((vs 1).b 0)).c) ∧ w.cell? ⟨g, 13, none⟩ = some (.slice (svOf ((vs 1).b 1)).a (svOf ((vs 1).b 1)).n (svOf ((vs 1).b 1)).c) ∧
    w.cell? ⟨g, 14, none⟩ = some (.slice (svOf ((vs 1).b 2)).a (svOf ((vs 1).b 2)).n (svOf ((vs 1).b 2)).c) ∧ w.cell? ⟨g, 15, none⟩ = some (.slice (svOf ((vs 1).b 3)).a (svOf ((vs 1).b 3)).n (svOf ((vs 1).b 3)).c) ∧
    ∃ A c, (vs 1).log = .slice A (m 1).log.length c ∧ w.cell? ⟨g, 25, none⟩ = some (.slice A (m 1).log.length c) := by
  have h1 := hr 1 (by omega)
  obtain ⟨A, c, hA, _⟩ := h1.log
  refine ⟨(hb.cell 12).trans ((rimC_b m vs (k := 1) (j := 0) (by omega) (by omega)).trans ?_), (hb.cell 13).trans ((rimC_b m vs (k := 1) (j := 1) (by omega) (by omega)).trans ?_), (hb.cell 14).trans ((rimC_b m vs (k := 1) (j := 2) (by omega) (by omega)).trans ?_), (hb.cell 15).trans ((rimC_b m vs (k := 1) (j := 3) (by omega) (by omega)).trans ?_), A, c, hA, (hb.cell 25).trans ((rimC_log m vs (k := 1) (by omega)).trans (by rw [hA]))⟩
  · rw [← svOf_eq (h1.b 0 (by omega))]
  · rw [← svOf_eq (h1.b 1 (by omega))]
  · rw [← svOf_eq (h1.b 2 (by omega))]
  · rw [← svOf_eq (h1.b 3 (by omega))]
theorem rim_two {w : World} {g : Nat} {vs : Nat → RV} {m : Nat → Rg} {A : Option Addr} {n c : Nat} (hb : Blk w g 85 (rimC m vs)) (hr : ∀ k, k < 4 → RegR w (vs k) (m k)) (hlog : (vs 1).log = .slice A n c) :
    w.cell? ⟨g, 12, none⟩ = some (.slice (svOf ((vs 1).b 0)).a (svOf ((vs 1).b 0)).n (svOf ((vs 1).b 0)).c) ∧ w.cell? ⟨g, 13, none⟩ = some (.slice (svOf ((vs 1).b 1)).a (svOf ((vs 1).b 1)).n (svOf ((vs 1).b 1)).c) ∧
    w.cell? ⟨g, 14, none⟩ = some (.slice (svOf ((vs 1).b 2)).a (svOf ((vs 1).b 2)).n (svOf ((vs 1).b 2)).c) ∧ w.cell? ⟨g, 15, none⟩ = some (.slice (svOf ((vs 1).b 3)).a (svOf ((vs 1).b 3)).n (svOf ((vs 1).b 3)).c) ∧ w.cell? ⟨g, 25, none⟩ = some (.slice A n c) := by
  obtain ⟨h1, h2, h3, h4, A', c', h5, h6⟩ := rim_one hb hr
  exact ⟨h1, h2, h3, h4, h6.trans (by rw [← h5, hlog])⟩
theorem regs_four {w : World} {vs : Nat → RV} {m : Nat → Rg} (hr : ∀ k, k < 4 → RegR w (vs k) (m k)) : ∀ j, j < 4 → Ints w .u8 (.slice (svOf ((vs 1).b j)).a (svOf ((vs 1).b j)).n (svOf ((vs 1).b j)).c) ((m 1).b j) := fun j hj => by
  have h := (hr 1 (by omega)).b j hj
  rw [← svOf_eq h]
  exact h
theorem St.newRim2 {M0 : Imm} {w : World} {L : List Res} (h : St M0 w L) : St M0 (w.alloc (.cells #[.int .u64 0, .int .u64 0, .int .u64 0, .int .u64 0, .int .u32 0, .int .u32 0, .int .u32 0, .int .u32 0, .slice none 0 0, .slice none 0 0, .slice none 0 0, .slice none 0 0, .slice none 0 0, .slice none 0 0, .slice none 0 0, .slice none 0 0, .slice none 0 0, .slice none 0 0, .slice none 0 0, .slice none 0 0, .slice none 0 0, .slice none 0 0, .slice none 0 0, .slice none 0 0, .slice none 0 0, .slice none 0 0, .slice none 0 0, .slice none 0 0] 85)) (rimR w.heap.size aw0 :: L) := h.newRim

set_option maxRecDepth 100000 in
set_option maxHeartbeats 4000000 in
theorem whole_st {M0 : Imm} (l : List PU) (v : Value) (w : World) (h : St M0 w [rowsR 3 PutR v l]) :
    Calls Try.prog 8 #[v] w fun e w' => e = .returned (.bool true) ∧ ∃ L', St M0 w' L' := by
  obtain ⟨A, c, rfl, hc, hm⟩ := (h.getRows 0 rfl).slice
  have H := hide h
  clear h
  obtain ⟨hs12, hfine⟩ := someP_fine l
  have HF := hide (show fine (someP l) from hfine)
  have HML := hide (show (mergeP (someP l)).length ≤ 1000 by have := mergeP_length2 (someP l); omega)
  have HFM := hide (show fine (mergeP (someP l)) from fine_sub hfine (mergeP_mem _))
  have HAM := hide (app_merge (someP l) hfine)
  go_enter Try.func8, Try.ntmps8
  go_wp2_with fail
  refine (rawake_st _ H.out).mono ?_
  rintro e w1 ⟨rfl, h⟩
  have H1 := hide h
  clear H h
  go_wp2_with fail
  refine (some_st l A l.length c _ H1.out).mono ?_
  rintro e w2 ⟨v2, rfl, h⟩
  generalize someP l = s at *
  have h1 := h.rowsGrow
  obtain ⟨A2, c2, rfl, _, _⟩ := (h1.getRows 0 rfl).slice
  have h2 := (h1.pick (L' := rowsR 3 PutR (.slice A2 s.length c2) s :: []) 2 [0]).newRim2.newRim2
  simp only [World.size_alloc] at h2
  have H2 := hide (h2.pick (L' := rowsR 3 PutR (.slice A2 s.length c2) s :: rimR (w2.heap.size + 1) aw0 :: rimR w2.heap.size aw0 :: []) 3 [2, 0, 1])
  clear H1 h h1 h2
  go_wp2_with fail
  generalize w2.heap.size = g at *
  refine (puts_st s A2 s.length c2 _ (by omega) H2.out).mono ?_
  rintro e w3 ⟨v3, rfl, h⟩
  have h1 := h.rowsGrow
  obtain ⟨A3, c3, rfl, _, _⟩ := (h1.getRows 0 rfl).slice
  have H3 := hide h1
  clear H2 h h1
  go_wp2_with fail
  refine (plan_st 1 5 1 s A3 s.length c3 _ (by decide) (by omega) H3.out).mono ?_
  rintro e w4 ⟨v4, rfl, h⟩
  rw [fine_planE s HF.out]
  have h1 := h.rowsGrow
  obtain ⟨A4, c4, rfl, _, _⟩ := (h1.getRows 0 rfl).slice
  have H4 := hide h1.swap
  clear H3 h h1
  go_wp2_with fail
  refine (puts_st s A2 s.length c2 _ (by omega) H4.out).mono ?_
  rintro e w5 ⟨v5, rfl, h⟩
  have h1 := h.rowsGrow
  obtain ⟨A5, c5, rfl, _, _⟩ := (h1.getRows 0 rfl).slice
  have H5 := hide h1
  clear H4 h h1
  go_wp2_with fail
  refine (merge_st s A5 s.length c5 _ (by omega) H5.out).mono ?_
  rintro e w6 ⟨v6, rfl, h⟩
  have h1 := h.rowsGrow
  obtain ⟨A6, c6, rfl, _, _⟩ := (h1.getRows 0 rfl).slice
  have H6 := hide h1
  clear H5 h h1
  go_wp2_with fail
  refine (plan_st 1 5 1 (mergeP s) A6 (mergeP s).length c6 _ (by decide) HML.out H6.out).mono ?_
  rintro e w7 ⟨v7, rfl, h⟩
  rw [fine_planE _ HFM.out]
  have h1 := h.rowsGrow
  obtain ⟨A7, c7, rfl, _, _⟩ := (h1.getRows 0 rfl).slice
  have H7 := hide (h1.pick (L' := rimR g aw0 :: rowsR 6 ReqP (.slice A4 (planQ 1 5 1 s).length c4) (planQ 1 5 1 s) :: rimR (g + 1) aw0 :: rowsR 6 ReqP (.slice A7 (planQ 1 5 1 (mergeP s)).length c7) (planQ 1 5 1 (mergeP s)) :: rowsR 3 PutR (.slice A2 s.length c2) s :: []) 5 [4, 2, 3, 0, 1])
  clear H6 h h1
  go_wp2_with fail
  have hP := plan_image (m := aw0) (t := 5) (l := s) (by decide) HF.out (by omega) rfl (by decide) (planQ 1 5 1 s).length
  have hW1 := plan_whole (m := aw0) (t := 5) (l := s) (by decide) HF.out (by omega) rfl (by decide)
  have hN := plan_image (m := aw0) (t := 5) (l := mergeP s) (by decide) HFM.out HML.out rfl (by decide) (planQ 1 5 1 (mergeP s)).length
  have hW2 := plan_whole (m := aw0) (t := 5) (l := mergeP s) (by decide) HFM.out HML.out rfl (by decide)
  rw [HAM.out] at hW2
  have hb1 : (planQ 1 5 1 s).length ≤ 200 := by have := planQ_length 5 s; omega
  have hb2 : (planQ 1 5 1 (mergeP s)).length ≤ 200 := by have := planQ_length 5 (mergeP s); have := mergeP_length2 s; omega
  have HP := hide hP.1
  have HN := hide hN.1
  have HW1 := hide hW1
  have HW2 := hide hW2
  have HO1 := hide (planQ_ok 5 (by decide) s)
  have HO2 := hide (planQ_ok 5 (by decide) (mergeP s))
  clear hP hN hW1 hW2
  generalize planQ 1 5 1 s = p at *
  generalize planQ 1 5 1 (mergeP s) = q at *
  refine (does_st g aw0 p A4 p.length c4 p.length _ HO1.out aw_ok0 (by omega) HP.out H7.out).mono ?_
  rintro e w8 ⟨rfl, h⟩
  rw [List.take_length] at h
  have H8 := hide (h.pick (L' := rimR (g + 1) aw0 :: rowsR 6 ReqP (.slice A7 q.length c7) q :: rimR g (p.foldl doM aw0) :: rowsR 3 PutR (.slice A2 s.length c2) s :: []) 5 [2, 3, 0, 4])
  clear H7 h
  go_wp2_with fail
  refine (does_st (g + 1) aw0 q A7 q.length c7 q.length _ HO2.out aw_ok0 (by omega) HN.out H8.out).mono ?_
  rintro e w9 ⟨rfl, h⟩
  rw [List.take_length] at h
  have H9 := hide (h.pick (L' := rowsR 3 PutR (.slice A2 s.length c2) s :: rimR (g + 1) (q.foldl doM aw0) :: rimR g (p.foldl doM aw0) :: []) 4 [3, 0, 2])
  clear H8 h
  go_wp2_with fail
  refine (doc_st s A2 s.length c2 _ (by omega) H9.out).mono ?_
  rintro e w10 ⟨v10, rfl, h⟩
  have h1 := h.rowsGrow
  obtain ⟨A10, c10, rfl, _, _⟩ := (h1.getRows 0 rfl).slice
  have H10 := hide (h1.pers0 (R := fun w => ∀ j, j < 4 → Ints w .u8 (.slice ((fun _ => (⟨none, 0, 0⟩ : SV)) j).a ((fun _ => (⟨none, 0, 0⟩ : SV)) j).n ((fun _ => (⟨none, 0, 0⟩ : SV)) j).c) ((fun _ => ([] : List Int)) j)) (fun w' _ j _ => Ints.none_ w' _))
  clear H9 h h1
  go_wp2_with fail
  refine (blocks_st (fun _ => ⟨none, 0, 0⟩) (fun _ => []) s A10 s.length c10 s.length _ (by omega) (fun x hx => ⟨(HF.out x hx).2.1, (HF.out x hx).2.2.1⟩) H10.out).mono ?_
  rintro e w11 ⟨u, rfl, h⟩
  rw [List.take_length] at h
  generalize p.foldl doM aw0 = m1 at *
  generalize q.foldl doM aw0 = m2 at *
  have h1 := h.alloc 81 (fourC u)
  obtain ⟨vs1, h2⟩ := (h1.pick (L' := rimR g m1 :: rimR (g + 1) m2 :: blkR w11.heap.size 81 (fourC u) :: fourR u (app (fun _ => []) s) :: []) 5 [4, 3, 0, 1]).rim
  obtain ⟨vs2, h3⟩ := (h2.pick (L' := rimR (g + 1) m2 :: rimB g vs1 m1 :: regsR vs1 m1 :: blkR w11.heap.size 81 (fourC u) :: fourR u (app (fun _ => []) s) :: []) 5 [2, 0, 1, 3, 4]).rim
  have H11 := hide h3
  clear H10 h h1 h2 h3 HP HN HO1 HO2
  go_upto_region 10 with (fail)
  generalize w11.heap.size = bb at *
  generalize World.alloc w11 _ = w12 at H11 ⊢
  obtain ⟨_, _, _, _, LA1, lc1, hlog1, _⟩ := rim_one (H11.out.blk 2 rfl) (H11.out.get 3 rfl)
  obtain ⟨_, _, _, _, LA2, lc2, hlog2, _⟩ := rim_one (H11.out.blk 0 rfl) (H11.out.get 1 rfl)
  rw [HW1.out.1] at hlog1
  rw [HW2.out.1] at hlog2
  have HL1 : Hid ((vs1 1).log = .slice LA1 0 lc1) := hide hlog1
  have HL2 : Hid ((vs2 1).log = .slice LA2 0 lc2) := hide hlog2
  clear hlog1 hlog2
  refine region_det (fun W => St M0 W (rimB (g + 1) vs2 m2 :: regsR vs2 m2 :: rimB g vs1 m1 :: regsR vs1 m1 :: blkR bb 81 (fourC u) :: fourR u (app (fun _ => []) s) :: [])) [0, 1, 2, 3, 4, 5, 6, 7, 8, 9, 10, 11, 12, 13, 14, 15, 16, 17, 18, 19, 20, 21, 22, 23, 24, 25, 26, 27, 28, 29, 30, 31, 32, 33, 34, 35, 36, 37, 38, 39, 40, 41, 42, 43, 44, 45, 46, 47, 48, 49, 50, 51] rfl (by kernel_rfl) (by kernel_rfl) H11.out.drew ?_
  iterate 22 (refine det_run rfl rfl (fun W hW => by (obtain ⟨_, _, _, _, _⟩ := rim_two (hW.blk 2 rfl) (hW.get 3 rfl) HL1.out; obtain ⟨_, _, _, _, _⟩ := rim_two (hW.blk 0 rfl) (hW.get 1 rfl) HL2.out; have z0 := (hW.blk 4 rfl).cell 0; have z1 := (hW.blk 4 rfl).cell 1; have z2 := (hW.blk 4 rfl).cell 2; have z3 := (hW.blk 4 rfl).cell 3; clear hW; go_simp; try rfl)) ?_; (simp only [Act.put, List.setIfInBounds_toArray, List.set_cons_succ, List.set_cons_zero]))
  refine det_call (f := 38) (args := #[fourV (fun j => svOf ((vs1 1).b j)), fourV u]) (.bool true) rfl rfl (fun W hW => by (clear hW; go_simp; try rfl)) (fun W hW => (four_st (fun j => svOf ((vs1 1).b j)) u ((m1 1).b) (app (fun _ => []) s) W (((hW.copy 5 rfl).copy 4 rfl).pers1 (fun _ hr => regs_four hr))).mono (fun e W' ⟨t, he, ht, hs⟩ => ⟨by rw [he, ht.2 (fun j _ => by rw [HW1.out.2]; rfl)], hs.tail.tail⟩)) ?_
  (simp only [Act.put, List.setIfInBounds_toArray, List.set_cons_succ, List.set_cons_zero])
  iterate 8 (refine det_run rfl rfl (fun W hW => by (obtain ⟨_, _, _, _, _⟩ := rim_two (hW.blk 2 rfl) (hW.get 3 rfl) HL1.out; obtain ⟨_, _, _, _, _⟩ := rim_two (hW.blk 0 rfl) (hW.get 1 rfl) HL2.out; have z0 := (hW.blk 4 rfl).cell 0; have z1 := (hW.blk 4 rfl).cell 1; have z2 := (hW.blk 4 rfl).cell 2; have z3 := (hW.blk 4 rfl).cell 3; clear hW; go_simp; try rfl)) ?_; (simp only [Act.put, List.setIfInBounds_toArray, List.set_cons_succ, List.set_cons_zero]))
  refine det_call (f := 38) (args := #[fourV (fun j => svOf ((vs2 1).b j)), fourV u]) (.bool true) rfl rfl (fun W hW => by (clear hW; go_simp; try rfl)) (fun W hW => (four_st (fun j => svOf ((vs2 1).b j)) u ((m2 1).b) (app (fun _ => []) s) W (((hW.copy 5 rfl).copy 2 rfl).pers1 (fun _ hr => regs_four hr))).mono (fun e W' ⟨t, he, ht, hs⟩ => ⟨by rw [he, ht.2 (fun j _ => by rw [HW2.out.2]; rfl)], hs.tail.tail⟩)) ?_
  (simp only [Act.put, List.setIfInBounds_toArray, List.set_cons_succ, List.set_cons_zero])
  iterate 20 (refine det_run rfl rfl (fun W hW => by (obtain ⟨_, _, _, _, _⟩ := rim_two (hW.blk 2 rfl) (hW.get 3 rfl) HL1.out; obtain ⟨_, _, _, _, _⟩ := rim_two (hW.blk 0 rfl) (hW.get 1 rfl) HL2.out; have z0 := (hW.blk 4 rfl).cell 0; have z1 := (hW.blk 4 rfl).cell 1; have z2 := (hW.blk 4 rfl).cell 2; have z3 := (hW.blk 4 rfl).cell 3; clear hW; go_simp; try rfl)) ?_; (simp only [Act.put, List.setIfInBounds_toArray, List.set_cons_succ, List.set_cons_zero]))
  refine det_nil (fun W hW => ?_)
  have HZ := hide hW
  clear hW H11
  go_wp2_with fail
  go_ret
  exact ⟨rfl, _, HZ.out⟩
end Go.Proofs.Ytbnjeekhoaapiaa
