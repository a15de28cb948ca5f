/- Redo: the program's Parse. Printed by gen_redop.py. -/
import Derived.Test.YtbnjeekhoaapiaaRedoB
namespace Go.Proofs.Ytbnjeekhoaapiaa
open Go.RowKit

theorem node_callR {P : Program} {l : List Oper} {Q : Exit → Act → World → Prop} {S : World → Prop} {L : Nat} {k : Nat} {listed : Array Bool} {i : Nat} {a : Act} {w : World} {o : Oper} {f : FuncId} {args : Array Value} (ho : l[i]? = some o) (hg : o.guard = none)
    (hrun : (execOp a.eval o).run P w = .ok (.enter f args) w)
    (h : Calls P f args w fun e w' => ∃ v, e = .returned v ∧ (i < L → S w') ∧ wpT P l.toArray Q S L k (listed.setIfInBounds i true) (a.put o.dst v) w') : wpNode P l.toArray Q S L k listed i a w := by
  unfold wpNode wpOp
  have ho' : l.toArray[i]? = some o := by simpa using ho
  simp only [ho']
  rw [if_pos (by simp [Region.wanted, hg])]
  refine .inl ?_
  unfold Oper.wp
  rw [hrun, Oper.upon_enter]
  refine h.mono fun e w' ⟨v, he, hS, h⟩ => ?_
  subst he
  exact ⟨hS, h⟩
theorem wpT_mid1 {P : Program} {l : List Oper} {Q : Exit → Act → World → Prop} {S : World → Prop} {L : Nat} {n : Nat} {listed : Array Bool} {a : Act} {w : World} (hd : List Nat) (l' : Array Bool) (hsel : Region.noSelect l.toArray = true) (hlast : lastB l.toArray L = true) (hQ : ∀ d v c a w, Q (.panic c) (a.put d v) w → Q (.panic c) a w)
    (hS : S w) (ht : takeB l.toArray L hd listed = some l') (h : wpTake P l.toArray S (fun a' => wpT P l.toArray Q S L n l' a' w) hd a) : wpT P l.toArray Q S L (hd.length + n) listed a w :=
  wpT_takeK (Region.noSelect_spec hsel) hlast hQ n hS hd listed l' a ht h
theorem head_at {M0 : Imm} {L : List Res} {w : World} {j : Nat} {ad : Addr} {n c : Nat} {i : Int} {d : List Int} (h : St M0 w L) (hj : L[j]? = some (intsR .u8 (.slice (some ad) n c) (i :: d))) : w.cell? ad = some (.int .u8 i) := by
  obtain ⟨ad', e, _, _, _, x0⟩ := first_byte (h.get j hj)
  injection e with e
  subst e
  exact x0

set_option maxHeartbeats 2000000 in
set_option maxRecDepth 100000 in
theorem par_st {M0 : Imm} {L : List Res} (region : Int) (b : List Int) (A : Option Addr) (n c : Nat) (w : World) (hb : Bytes b) (hl : b.length ≤ 140737488355328) (h : St M0 w (intsR .u8 (.slice A n c) b :: L)) :
    Calls Try.prog 34 #[.int .i64 region, .slice A n c] w fun e w' => ∃ v, e = .returned (.tuple #[putV (parP region b) v, .int .i64 (parE b)]) ∧ St M0 w' (intsR .u8 v (parP region b).data :: L) := by
  have h1 := h.alloc 62 #[.int .i64 0, .int .i64 0, .slice none 0 0]
  clear h
  cases b with
  | nil =>
    obtain ⟨hn, _, _, _⟩ := (h1.get 1 rfl).sl
    obtain rfl : n = 0 := hn
    have y0 := (h1.blk 0 rfl).cell 0
    have y1 := (h1.blk 0 rfl).cell 1
    have y2 := (h1.blk 0 rfl).cell 2
    have H := hide h1
    clear h1
    go_enter Try.func34, Try.ntmps34
    go_wp2_with fail
    refine bodyPost_ret (v := .tuple #[.agg #[.int .i64 0, .int .i64 0, .slice none 0 0], .int .i64 10]) (results_cellT (fn := Try.f34) (t := 4) (k := 5) (ty := 62) rfl _ rfl ?_) rfl ⟨.slice none 0 0, ?_, ?_⟩
    · go_simp
    · rfl
    · exact H.out.tail.tail.pers0 (fun w' _ => Ints.none_ w' _)
  | cons i d =>
    obtain ⟨ad, rfl, hn, hc, hm, x0⟩ := first_byte (h1.get 1 rfl)
    have hi : 0 ≤ i ∧ i ≤ 255 := by have := hb i (by simp); unfold isByte at this; omega
    obtain ⟨i0, i1⟩ := hi
    have hl' : d.length + 1 ≤ 140737488355328 := hl
    have hnz : ((n : Int) == 0) = false := isF (by omega)
    have n1 : (1 : Int) ≤ (n : Int) := by omega
    have n2 : (n : Int) ≤ (c : Int) := by omega
    have n0 : (0 : Int) < (n : Int) := by omega
    have nn : 0 < n := by omega
    have nl : n ≤ 140737488355328 := by omega
    have HP0 := hide (show parE (i :: d) = 0 → parP region (i :: d) = ⟨region, i, d⟩ from fun h => if_pos h)
    have HP1 := hide (show parE (i :: d) ≠ 0 → parP region (i :: d) = ⟨0, 0, []⟩ from fun h => if_neg h)
    have H := hide h1
    have HN := hide hn
    clear h1 hn hb hl hl'
    go_enter Try.func34, Try.ntmps34
    go_wp2_with fail
    refine region_mixT (fun W => W.cell? ad = some (.int .u8 i)) 11 4 [0, 1, 2, 3, 4, 5, 6, 7] #[true, true, true, true, true, true, true, true, false, false, false, false] (by kernel_rfl) (by kernel_rfl) (fun d => by cases d <;> exact fun _ _ _ _ h => h) (fun W hW => ?_)
    have hS := hide (show St M0 W (blkR w.heap.size 62 #[.int .i64 0, .int .i64 0, .slice none 0 0] :: intsR .u8 (.slice (some ad) n c) (i :: d) :: L) by
      rw [hW]
      exact H.out.drew)
    clear hW H x0
    refine ⟨head_at hS.out (j := 1) rfl, ?_⟩
    iterate 8 (refine take_run rfl rfl (fun W hW => by (go_simp; try rfl)) ?_; (simp only [Act.put, List.setIfInBounds_toArray, List.set_cons_succ, List.set_cons_zero]))
    refine take_nil ?_
    rw [IntWalk.i64_in i (by omega)]
    have hA : 1 < n → (if c = 1 then some ad else some ⟨ad.block, ad.off + 1, none⟩) = (some ad).map (·.add 1) := fun hlt => by rw [if_neg (by omega)]; rfl
    generalize (if c = 1 then some ad else some (⟨ad.block, ad.off + 1, none⟩ : Addr)) = A7 at hA ⊢
    have H2 := hide ((hS.out.copy 1 rfl).pers1 (R' := fun w' => Ints w' .u8 (.slice A7 (n - 1) (c - 1)) d) (fun w' hi => hi.behind1 hA))
    clear hS hA
    refine wpT_nodes [8, 10] (by kernel_rfl) (by decide) (fun q hq => ?_)
    simp only [List.mem_cons, List.not_mem_nil, or_false] at hq
    rcases hq with rfl | rfl
    · refine node_callR (f := 67) (args := #[.slice A7 (n - 1) (c - 1)]) rfl rfl (by go_simp; try rfl) ((clone_st A7 (n - 1) (c - 1) d _ (H2.out.get 0 rfl).sl.2.2.2 (by omega) H2.out).mono ?_)
      rintro e w2 ⟨v2, rfl, h⟩
      obtain ⟨A2, c2, rfl⟩ := h.slice
      refine ⟨_, rfl, fun _ => head_at h (j := 3) rfl, ?_⟩
      (simp only [Act.put, List.setIfInBounds_toArray, List.set_cons_succ, List.set_cons_zero])
      have h2 := h.ints.pick (L' := intsR .u8 (.slice A2 (n - 1) c2) d :: blkR w.heap.size 62 #[.int .i64 0, .int .i64 0, .slice none 0 0] :: intsR .u8 (.slice (some ad) n c) (i :: d) :: L) 4 [0, 2, 3]
      refine wpT_mid1 (n := 2) [9] #[true, true, true, true, true, true, true, true, true, true, false, false] (by kernel_rfl) (by kernel_rfl) (fun d => by cases d <;> exact fun _ _ _ _ h => h) (head_at h2 (j := 2) rfl) (by kernel_rfl) ?_
      refine take_run rfl rfl (fun W hW => by (clear hW; go_simp; try rfl)) ?_
      (simp only [Act.put, List.setIfInBounds_toArray, List.set_cons_succ, List.set_cons_zero])
      refine take_nil ?_
      refine wpT_seq [10, 11] _ _ _ (by kernel_rfl) ?_
      have h3 := h2.alloc 62 #[.int .i64 0, .int .i64 0, .slice none 0 0]
      refine seq_run (v := .pointer (some ⟨w2.heap.size, 0, none⟩)) (w' := w2.alloc (.cells #[.int .i64 0, .int .i64 0, .slice none 0 0] 62)) rfl rfl (by go_simp; try rfl) (fun _ => head_at h3 (j := 3) rfl) ?_
      (simp only [Act.put, List.setIfInBounds_toArray, List.set_cons_succ, List.set_cons_zero])
      have y0 := (h3.blk 0 rfl).cell 0
      have y1 := (h3.blk 0 rfl).cell 1
      have y2 := (h3.blk 0 rfl).cell 2
      have f := (h3.blk 0 rfl).frozen
      have H3 := hide (h2.alloc 62 #[.int .i64 region, .int .i64 i, (.slice A2 (n - 1) c2)])
      clear h h2 h3 H2
      refine seq_store (w' := w2.alloc (.cells #[.int .i64 region, .int .i64 i, (.slice A2 (n - 1) c2)] 62)) rfl rfl 62 _ _ (.pointer (some ⟨w2.heap.size, 0, none⟩)) (.agg #[.int .i64 region, .int .i64 i, (.slice A2 (n - 1) c2)]) rfl rfl rfl (by go_simp; try rfl) (fun h => absurd h (by decide)) ?_
      simp only [Act.put]
      refine seq_nil ?_
      clear y0 y1 y2 f
      generalize World.alloc _ _ = w5 at H3 ⊢
      generalize w2.heap.size = g6 at *
      have H5 : Hid (St M0 w5 (blkR g6 62 #[.int .i64 region, .int .i64 i, (.slice A2 (n - 1) c2)] :: intsR .u8 (.slice A2 (n - 1) c2) d :: blkR w.heap.size 62 #[.int .i64 0, .int .i64 0, .slice none 0 0] :: intsR .u8 (.slice (some ad) n c) (i :: d) :: L)) := H3
      clear H3
      have z0 : w5.cell? ⟨g6, 0, none⟩ = some (.int .i64 region) := (H5.out.blk 0 rfl).cell 0
      have z1 : w5.cell? ⟨g6, 1, none⟩ = some (.int .i64 i) := (H5.out.blk 0 rfl).cell 1
      have z2 : w5.cell? ⟨g6, 2, none⟩ = some (.slice A2 (n - 1) c2) := (H5.out.blk 0 rfl).cell 2
      go_wp2_with fail
      refine (rec_st ⟨region, i, d⟩ A2 (n - 1) c2 _ (H5.out.copy 1 rfl)).mono ?_
      rintro e w6 ⟨v6, rfl, h⟩
      have h6 := h.tail
      rw [rec_par region i d i0]
      have z0 : w6.cell? ⟨g6, 0, none⟩ = some (.int .i64 region) := (h6.blk 0 rfl).cell 0
      have z1 : w6.cell? ⟨g6, 1, none⟩ = some (.int .i64 i) := (h6.blk 0 rfl).cell 1
      have z2 : w6.cell? ⟨g6, 2, none⟩ = some (.slice A2 (n - 1) c2) := (h6.blk 0 rfl).cell 2
      have y0 := (h6.blk 2 rfl).cell 0
      have y1 := (h6.blk 2 rfl).cell 1
      have y2 := (h6.blk 2 rfl).cell 2
      have f := (h6.blk 2 rfl).frozen
      have h7 := h6.pick (L' := blkR w.heap.size 62 #[.int .i64 0, .int .i64 0, .slice none 0 0] :: intsR .u8 (.slice A2 (n - 1) c2) d :: L) 4 [2, 1]
      have HZ := hide (((h7.set_ 0 (.int .i64 0)).set_ 1 (.int .i64 0)).set_ 2 (.slice none 0 0))
      have HP := hide (((h7.set_ 0 (.int .i64 region)).set_ 1 (.int .i64 i)).set_ 2 (.slice A2 (n - 1) c2))
      clear h h6 h7 H5
      by_cases he : parE (i :: d) = 0
      · have P0 := hide (HP0.out he)
        have E := hide he
        clear HP0 HP1
        rw [he]
        go_wp2_with fail
        generalize World.setCell _ _ _ = w7 at HP ⊢
        have q0 : w7.cell? ⟨w.heap.size, 0, none⟩ = some (.int .i64 region) := (HP.out.blk 0 rfl).cell 0
        have q1 : w7.cell? ⟨w.heap.size, 1, none⟩ = some (.int .i64 i) := (HP.out.blk 0 rfl).cell 1
        have q2 : w7.cell? ⟨w.heap.size, 2, none⟩ = some (.slice A2 (n - 1) c2) := (HP.out.blk 0 rfl).cell 2
        refine bodyPost_ret (v := .tuple #[.agg #[.int .i64 region, .int .i64 i, (.slice A2 (n - 1) c2)], .int .i64 0]) (results_cellT (fn := Try.f34) (t := 4) (k := 5) (ty := 62) rfl _ rfl ?_) rfl ⟨(.slice A2 (n - 1) c2), ?_, ?_⟩
        · go_simp
        · rw [P0.out, E.out]; try rfl
        · rw [P0.out]; exact HP.out.pick 2 [1]
      · have P0 := hide (HP1.out he)
        have hne : (parE (i :: d) != 0) = true := by simp [he]
        clear HP0 HP1 he
        have HE := hide (show parE (i :: d) = parE (i :: d) from rfl)
        generalize hee : parE (i :: d) = ee at *
        go_wp2_with fail
        generalize World.setCell _ _ _ = w7 at HZ ⊢
        have q0 : w7.cell? ⟨w.heap.size, 0, none⟩ = some (.int .i64 0) := (HZ.out.blk 0 rfl).cell 0
        have q1 : w7.cell? ⟨w.heap.size, 1, none⟩ = some (.int .i64 0) := (HZ.out.blk 0 rfl).cell 1
        have q2 : w7.cell? ⟨w.heap.size, 2, none⟩ = some (.slice none 0 0) := (HZ.out.blk 0 rfl).cell 2
        refine bodyPost_ret (v := .tuple #[.agg #[.int .i64 0, .int .i64 0, .slice none 0 0], .int .i64 ee]) (results_cellT (fn := Try.f34) (t := 4) (k := 5) (ty := 62) rfl _ rfl ?_) rfl ⟨.slice none 0 0, ?_, ?_⟩
        · go_simp
        · rw [P0.out, hee]; try rfl
        · rw [P0.out]; exact HZ.out.tail.tail.pers0 (fun w' _ => Ints.none_ w' _)
    · have h3 := H2.out.alloc 62 #[.int .i64 0, .int .i64 0, .slice none 0 0]
      refine node_run (v := .pointer (some ⟨W.heap.size, 0, none⟩)) (w' := W.alloc (.cells #[.int .i64 0, .int .i64 0, .slice none 0 0] 62)) rfl rfl (by go_simp; try rfl) (fun _ => head_at h3 (j := 3) rfl) ?_
      (simp only [Act.put, List.setIfInBounds_toArray, List.set_cons_succ, List.set_cons_zero])
      refine wpT_seq [8, 9, 11] _ _ _ (by kernel_rfl) ?_
      refine seq_call (f := 67) (args := #[.slice A7 (n - 1) (c - 1)]) rfl rfl (by go_simp; try rfl) ((clone_st A7 (n - 1) (c - 1) d _ (h3.get 1 rfl).sl.2.2.2 (by omega) h3).mono ?_)
      rintro e w2 ⟨v2, rfl, h⟩
      obtain ⟨A2, c2, rfl⟩ := h.slice
      have h4 := h.ints.pick (L' := blkR W.heap.size 62 #[.int .i64 0, .int .i64 0, .slice none 0 0] :: intsR .u8 (.slice A2 (n - 1) c2) d :: blkR w.heap.size 62 #[.int .i64 0, .int .i64 0, .slice none 0 0] :: intsR .u8 (.slice (some ad) n c) (i :: d) :: L) 5 [1, 0, 3, 4]
      refine ⟨_, rfl, fun _ => head_at h4 (j := 3) rfl, ?_⟩
      (simp only [Act.put, List.setIfInBounds_toArray, List.set_cons_succ, List.set_cons_zero])
      refine seq_read rfl rfl (by (go_simp; try rfl)) (fun _ => head_at h4 (j := 3) rfl) ?_
      (simp only [Act.put, List.setIfInBounds_toArray, List.set_cons_succ, List.set_cons_zero])
      have y0 := (h4.blk 0 rfl).cell 0
      have y1 := (h4.blk 0 rfl).cell 1
      have y2 := (h4.blk 0 rfl).cell 2
      have f := (h4.blk 0 rfl).frozen
      have H3 := hide (((h4.set_ 0 (.int .i64 region)).set_ 1 (.int .i64 i)).set_ 2 (.slice A2 (n - 1) c2))
      clear h h3 h4 H2
      refine seq_store rfl rfl 62 _ _ (.pointer (some ⟨W.heap.size, 0, none⟩)) (.agg #[.int .i64 region, .int .i64 i, (.slice A2 (n - 1) c2)]) rfl rfl rfl (by go_simp; try rfl) (fun h => absurd h (by decide)) ?_
      simp only [Act.put]
      refine seq_nil ?_
      clear y0 y1 y2 f
      generalize World.setCell _ _ _ = w5 at H3 ⊢
      generalize W.heap.size = g6 at *
      have H5 : Hid (St M0 w5 (blkR g6 62 #[.int .i64 region, .int .i64 i, (.slice A2 (n - 1) c2)] :: intsR .u8 (.slice A2 (n - 1) c2) d :: blkR w.heap.size 62 #[.int .i64 0, .int .i64 0, .slice none 0 0] :: intsR .u8 (.slice (some ad) n c) (i :: d) :: L)) := H3
      clear H3
      have z0 : w5.cell? ⟨g6, 0, none⟩ = some (.int .i64 region) := (H5.out.blk 0 rfl).cell 0
      have z1 : w5.cell? ⟨g6, 1, none⟩ = some (.int .i64 i) := (H5.out.blk 0 rfl).cell 1
      have z2 : w5.cell? ⟨g6, 2, none⟩ = some (.slice A2 (n - 1) c2) := (H5.out.blk 0 rfl).cell 2
      go_wp2_with fail
      refine (rec_st ⟨region, i, d⟩ A2 (n - 1) c2 _ (H5.out.copy 1 rfl)).mono ?_
      rintro e w6 ⟨v6, rfl, h⟩
      have h6 := h.tail
      rw [rec_par region i d i0]
      have z0 : w6.cell? ⟨g6, 0, none⟩ = some (.int .i64 region) := (h6.blk 0 rfl).cell 0
      have z1 : w6.cell? ⟨g6, 1, none⟩ = some (.int .i64 i) := (h6.blk 0 rfl).cell 1
      have z2 : w6.cell? ⟨g6, 2, none⟩ = some (.slice A2 (n - 1) c2) := (h6.blk 0 rfl).cell 2
      have y0 := (h6.blk 2 rfl).cell 0
      have y1 := (h6.blk 2 rfl).cell 1
      have y2 := (h6.blk 2 rfl).cell 2
      have f := (h6.blk 2 rfl).frozen
      have h7 := h6.pick (L' := blkR w.heap.size 62 #[.int .i64 0, .int .i64 0, .slice none 0 0] :: intsR .u8 (.slice A2 (n - 1) c2) d :: L) 4 [2, 1]
      have HZ := hide (((h7.set_ 0 (.int .i64 0)).set_ 1 (.int .i64 0)).set_ 2 (.slice none 0 0))
      have HP := hide (((h7.set_ 0 (.int .i64 region)).set_ 1 (.int .i64 i)).set_ 2 (.slice A2 (n - 1) c2))
      clear h h6 h7 H5
      by_cases he : parE (i :: d) = 0
      · have P0 := hide (HP0.out he)
        have E := hide he
        clear HP0 HP1
        rw [he]
        go_wp2_with fail
        generalize World.setCell _ _ _ = w7 at HP ⊢
        have q0 : w7.cell? ⟨w.heap.size, 0, none⟩ = some (.int .i64 region) := (HP.out.blk 0 rfl).cell 0
        have q1 : w7.cell? ⟨w.heap.size, 1, none⟩ = some (.int .i64 i) := (HP.out.blk 0 rfl).cell 1
        have q2 : w7.cell? ⟨w.heap.size, 2, none⟩ = some (.slice A2 (n - 1) c2) := (HP.out.blk 0 rfl).cell 2
        refine bodyPost_ret (v := .tuple #[.agg #[.int .i64 region, .int .i64 i, (.slice A2 (n - 1) c2)], .int .i64 0]) (results_cellT (fn := Try.f34) (t := 4) (k := 5) (ty := 62) rfl _ rfl ?_) rfl ⟨(.slice A2 (n - 1) c2), ?_, ?_⟩
        · go_simp
        · rw [P0.out, E.out]; try rfl
        · rw [P0.out]; exact HP.out.pick 2 [1]
      · have P0 := hide (HP1.out he)
        have hne : (parE (i :: d) != 0) = true := by simp [he]
        clear HP0 HP1 he
        have HE := hide (show parE (i :: d) = parE (i :: d) from rfl)
        generalize hee : parE (i :: d) = ee at *
        go_wp2_with fail
        generalize World.setCell _ _ _ = w7 at HZ ⊢
        have q0 : w7.cell? ⟨w.heap.size, 0, none⟩ = some (.int .i64 0) := (HZ.out.blk 0 rfl).cell 0
        have q1 : w7.cell? ⟨w.heap.size, 1, none⟩ = some (.int .i64 0) := (HZ.out.blk 0 rfl).cell 1
        have q2 : w7.cell? ⟨w.heap.size, 2, none⟩ = some (.slice none 0 0) := (HZ.out.blk 0 rfl).cell 2
        refine bodyPost_ret (v := .tuple #[.agg #[.int .i64 0, .int .i64 0, .slice none 0 0], .int .i64 ee]) (results_cellT (fn := Try.f34) (t := 4) (k := 5) (ty := 62) rfl _ rfl ?_) rfl ⟨.slice none 0 0, ?_, ?_⟩
        · go_simp
        · rw [P0.out, hee]; try rfl
        · rw [P0.out]; exact HZ.out.tail.tail.pers0 (fun w' _ => Ints.none_ w' _)
end Go.Proofs.Ytbnjeekhoaapiaa
