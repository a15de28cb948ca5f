/- Redo: what a plan holds; add. -/
import Derived.Test.YtbnjeekhoaapiaaRedoP
namespace Go.Proofs.Ytbnjeekhoaapiaa
open Go.RowKit

def ReqP (w : World) (cs : List Value) (r : RQ) : Prop := ∃ v, cs = [.int .i64 r.op, .int .i64 r.region, .int .i64 r.index, .int .u64 r.token, .int .u32 r.seq, v] ∧ Ints w .u8 v r.data
def planR (g : Nat) (region token seq : Int) (l : List RQ) : Res := exR fun v => starR (blkR g 138 #[.int .i64 region, .int .u64 token, .int .u32 seq, v]) (growR 89 6 ReqP v l)
theorem reqs_elem : ElemOf Try.prog 42 89 (.agg #[.int .i64 0, .int .i64 0, .int .i64 0, .int .u64 0, .int .u32 0, .slice none 0 0]) 6 64 := ⟨Try.underlying42, by kernel_rfl, by kernel_rfl, by omega⟩
theorem build_req (w : World) (a b c d e : Int) (A : Option Addr) (n k : Nat) : (Instr.buildSlice 42 1 #[(0, .agg #[.int .i64 a, .int .i64 b, .int .i64 c, .int .u64 d, .int .u32 e, .slice A n k])]).run Try.prog w = .ok (.slice (some ⟨w.heap.size, 0, none⟩) 1 1) (w.alloc (.cells #[.int .i64 a, .int .i64 b, .int .i64 c, .int .u64 d, .int .u32 e, .slice A n k] 89)) := by kernel_rfl
theorem one_cells6 (a b c d e : Int) (A : Option Addr) (n k : Nat) : ∀ u ∈ [Value.int .i64 a, .int .i64 b, .int .i64 c, .int .u64 d, .int .u32 e, .slice A n k], u.oneCell' = true := by
  intro u hu
  simp at hu
  rcases hu with rfl | rfl | rfl | rfl | rfl | rfl <;> rfl

set_option maxHeartbeats 2000000 in
set_option maxRecDepth 100000 in
theorem add_st {M0 : Imm} {L : List Res} (g : Nat) (region token seq op index : Int) (l : List RQ) (A : Option Addr) (n c : Nat) (data : List Int) (w : World) (hl : l.length ≤ 1000000) (h : St M0 w (intsR .u8 (.slice A n c) data :: planR g region token seq l :: L)) :
    Calls Try.prog 64 #[.pointer (some ⟨g, 0, none⟩), .int .i64 op, .int .i64 index, .slice A n c] w fun e w' => e = .returned (.tuple #[]) ∧ St M0 w' (planR g region token (IntKind.u32.wrap (seq + 1)) (l ++ [⟨op, region, index, token, seq, data⟩]) :: L) := by
  obtain ⟨v, h1⟩ := h.swap.ex
  have h2 := h1.star
  obtain ⟨B, d, q, vs, rfl, hq, h3⟩ := h2.swap.openGrow
  have hxl := (h3.row 0 rfl).1
  have H := hide (h3.pick (L' := blkR g 138 #[.int .i64 region, .int .u64 token, .int .u32 seq, .slice B q d] :: rowR 89 6 (.slice B q d) q vs :: persR (fun w => ∀ (i : Nat) x, l[i]? = some x → ReqP w ((vs.drop (i * 6)).take 6) x) :: intsR .u8 (.slice A n c) data :: L) 4 [2, 0, 1, 3])
  have HQ := hide hq
  have HXL := hide hxl
  have ql : q ≤ 1000000 := by omega
  clear h h1 h2 h3 hq hxl hl
  go_enter Try.func64, Try.ntmps64
  go_wp2_with fail
  refine region_mix (fun W => Blk W g 138 #[.int .i64 region, .int .u64 token, .int .u32 seq, .slice B q d]) 23 [0, 1, 2, 3, 4, 5, 6, 7, 8, 9, 10, 11, 12, 13, 14, 15, 16, 17, 18, 19, 20] [21, 22, 23, 24, 25] (by kernel_rfl) (by kernel_rfl) (fun d => by cases d <;> exact fun _ _ _ _ h => h) (fun W hW => ?_)
  have hS := hide (show St M0 W (blkR g 138 #[.int .i64 region, .int .u64 token, .int .u32 seq, .slice B q d] :: rowR 89 6 (.slice B q d) q vs :: persR (fun w => ∀ (i : Nat) x, l[i]? = some x → ReqP w ((vs.drop (i * 6)).take 6) x) :: intsR .u8 (.slice A n c) data :: L) by
    rw [hW]
    exact H.out.drew)
  clear hW H
  refine ⟨hS.out.blk 0 rfl, ?_⟩
  iterate 21 (refine take_run rfl rfl (fun W hW => by (have x0 := hW.cell 0; have x1 := hW.cell 1; have x2 := hW.cell 2; have x3 := hW.cell 3; clear hW; go_simp; try rfl)) ?_; (simp only [Act.put, List.setIfInBounds_toArray, List.set_cons_succ, List.set_cons_zero]))
  refine take_nil ?_
  have h4 := (hS.out.pick (L' := rowR 89 6 (.slice B q d) q vs :: blkR g 138 #[.int .i64 region, .int .u64 token, .int .u32 seq, .slice B q d] :: persR (fun w => ∀ (i : Nat) x, l[i]? = some x → ReqP w ((vs.drop (i * 6)).take 6) x) :: intsR .u8 (.slice A n c) data :: L) 4 [1, 0, 2, 3]).junk (.cells #[.int .i64 op, .int .i64 region, .int .i64 index, .int .u64 token, .int .u32 seq, .slice A n c] 89)
  refine seq_buildSlice1 rfl rfl 42 1 0 _ (.agg #[.int .i64 op, .int .i64 region, .int .i64 index, .int .u64 token, .int .u32 seq, .slice A n c]) rfl rfl (build_req _ _ _ _ _ _ _ _ _) (fun _ => h4.blk 1 rfl) ?_
  (simp only [Act.put, List.setIfInBounds_toArray, List.set_cons_succ, List.set_cons_zero])
  refine seq_app reqs_elem h4 rfl rfl _ _ rfl rfl (some ⟨W.heap.size, 0, none⟩) 1 1 rfl [.int .i64 op, .int .i64 region, .int .i64 index, .int .u64 token, .int .u32 seq, .slice A n c] (sl_newN _ _ _) (one_cells6 _ _ _ _ _ _ _ _) (by omega) (by omega) (fun A4 c4 w4 h5 => ⟨fun _ => h5.blk 1 rfl, ?_⟩)
  (simp only [Act.put, List.setIfInBounds_toArray, List.set_cons_succ, List.set_cons_zero])
  have h6 := (h5.pick (L' := rowR 89 6 (.slice A4 (q + 1) c4) (q + 1) (vs ++ [.int .i64 op, .int .i64 region, .int .i64 index, .int .u64 token, .int .u32 seq, .slice A n c]) :: persR (fun w => ∀ (i : Nat) x, l[i]? = some x → ReqP w ((vs.drop (i * 6)).take 6) x) :: intsR .u8 (.slice A n c) data :: blkR g 138 #[.int .i64 region, .int .u64 token, .int .u32 seq, .slice B q d] :: L) 4 [0, 2, 3, 1])
  have h7 := ((h6.up2.pers1 (R' := fun w' => ReqP w' [.int .i64 op, .int .i64 region, .int .i64 index, .int .u64 token, .int .u32 seq, .slice A n c] ⟨op, region, index, token, seq, data⟩) (fun w' hi => ⟨_, rfl, hi⟩)).dn2).snocGrow HQ.out rfl HXL.out
  have x3 := (h7.blk 1 rfl).cell 3
  have f := (h7.blk 1 rfl).frozen
  have H8 := hide ((h7.swap.set_ 3 (.slice A4 (q + 1) c4)))
  clear h4 h5 h6 h7 hS
  refine seq_read rfl rfl (by (go_simp; try rfl)) (fun h => absurd h (by decide)) ?_
  (simp only [Act.put, List.setIfInBounds_toArray, List.set_cons_succ, List.set_cons_zero])
  refine seq_read rfl rfl (by (go_simp; try rfl)) (fun h => absurd h (by decide)) ?_
  (simp only [Act.put, List.setIfInBounds_toArray, List.set_cons_succ, List.set_cons_zero])
  refine seq_store rfl rfl 42 _ _ (.pointer (some ⟨g, 3, none⟩)) (.slice A4 (q + 1) c4) rfl rfl rfl (by go_simp; try rfl) (fun h => absurd h (by decide)) ?_
  simp only [Act.put]
  refine seq_nil ?_
  clear x3 f
  generalize World.setCell _ _ _ = w5 at H8 ⊢
  have x2 : w5.cell? ⟨g, 2, none⟩ = some (.int .u32 seq) := (H8.out.blk 0 rfl).cell 2
  have f := (H8.out.blk 0 rfl).frozen
  have h9 := H8.out.set_ 2 (.int .u32 (IntKind.u32.wrap (seq + 1)))
  have H9 := hide h9
  clear H8 h9
  go_wp2_with fail
  go_end0
  refine ⟨rfl, St.addEx (f := fun v => starR (blkR g 138 #[.int .i64 region, .int .u64 token, .int .u32 (IntKind.u32.wrap (seq + 1)), v]) (growR 89 6 ReqP v (l ++ [⟨op, region, index, token, seq, data⟩]))) (.slice A4 (q + 1) c4) (St.addStar ?_)⟩
  exact H9.out
end Go.Proofs.Ytbnjeekhoaapiaa
