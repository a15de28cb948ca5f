/- Image.Do. Printed by gen_imgdo.py. -/
import Derived.Test.YtdhkklcjhbnnlaaImgK
import Derived.Test.YtdhkklcjhbnnlaaImgQ
namespace Go.Proofs.Ytdhkklcjhbnnlaa
open Go.RowKit

section
variable {M0 : Imm} {w : World} {L : List Res} {g k : Nat} {m : Nat → Rg} {vs : Nat → RV}
theorem St.setHigh (h : St M0 w (imgB g vs m :: regsR vs m :: L)) (hk : k < 4) (x : Int) : St M0 (w.setCell ⟨g, k * 7, none⟩ (.int .u64 x)) (imgR g (upd m k { m k with high := x }) :: L) :=
  (h.pers0 (R := fun _ => True) (fun _ _ => trivial)).dn2.setImg hk (j := 0) (by omega) (x := { m k with high := x }) (p := vs k) (u := .int .u64 x) rfl (fun _ ho _ => ⟨ho.b, ho.log⟩)
theorem St.setSeq (h : St M0 w (imgB g vs m :: regsR vs m :: L)) (hk : k < 4) (x : Int) : St M0 (w.setCell ⟨g, k * 7 + 1, none⟩ (.int .u32 x)) (imgR g (upd m k { m k with seq := x }) :: L) :=
  (h.pers0 (R := fun _ => True) (fun _ _ => trivial)).dn2.setImg hk (j := 1) (by omega) (x := { m k with seq := x }) (p := vs k) (u := .int .u32 x) rfl (fun _ ho _ => ⟨ho.b, ho.log⟩)
theorem upd_two (m : Nat → Rg) (k : Nat) (h q : Int) : upd (upd m k { m k with high := h }) k { upd m k { m k with high := h } k with seq := q } = upd m k ⟨h, q, (m k).b, (m k).log⟩ := by
  rw [upd_upd, upd_at]
theorem act_put (x : Rg) (a k : Int) (j : Nat) (t q : Int) (d : List Int) (ha : a = 2) : x.act ⟨a, k, j, t, q, d⟩ = ⟨t, q, upd x.b j d, x.log⟩ := by
  subst ha
  simp [Rg.act]
theorem act_more (x : Rg) (a k : Int) (j : Nat) (t q : Int) (d : List Int) (ha : a = 4) : x.act ⟨a, k, j, t, q, d⟩ = ⟨t, q, x.b, x.log ++ [d]⟩ := by
  subst ha
  simp [Rg.act]
theorem act_less (x : Rg) (a k : Int) (j : Nat) (t q : Int) (d : List Int) (ha : a = 5) : x.act ⟨a, k, j, t, q, d⟩ = ⟨t, q, x.b, x.log.drop j⟩ := by
  subst ha
  simp [Rg.act]
theorem out_none (x : Rg) (a k : Int) (j : Nat) (t q : Int) (d : List Int) (h1 : a ≠ 1) (h3 : a ≠ 3) : x.out ⟨a, k, j, t, q, d⟩ = [] := (if_neg h1).trans (if_neg h3)
theorem St.noRows {α : Type} (h : St M0 w L) (size : Nat) (R : World → List Value → α → Prop) : St M0 w (rowsR size R (.slice none 0 0) [] :: L) :=
  St.addEx (f := fun css => persR (fun w => RowsC w size R (.slice none 0 0) css [])) (fun _ => []) (h.pers0 (fun _ _ => RowsC.none_ _ _ _ _))
theorem rgC_b (x : Rg) (p : RV) {j : Nat} (hj : j < 4) : (rgC x p)[2 + j]? = some (p.b j) := by
  rcases below4 hj with rfl | rfl | rfl | rfl <;> rfl
theorem one_log {w : World} {v : Value} {b : List Int} (h : Ints w .u8 v b) : ∀ (i : Nat) x, [b][i]? = some x → LogR w (([v].drop (i * 1)).take 1) x := by
  intro i x hx
  match i, hx with
  | 0, hx =>
    obtain rfl : b = x := by simpa using hx
    exact ⟨v, rfl, h⟩
  | i + 1, hx => simp at hx
end

set_option maxRecDepth 100000 in
set_option maxHeartbeats 2000000 in
theorem do_st {M0 : Imm} {L : List Res} (g : Nat) (m : Nat → Rg) (r : RQ) (A : Option Addr) (n c : Nat) (w : World) (hr : r.ok) (hm : ∀ k, (m k).ok) (h : St M0 w (intsR .u8 (.slice A n c) r.data :: imgR g m :: L)) :
    Calls Try.prog 39 #[.pointer (some ⟨g, 0, none⟩), reqV r (.slice A n c)] w fun e w' => ∃ V, e = .returned (.tuple #[V, .int .i64 (checkI m r).2]) ∧ St M0 w' (rowsR 1 LogR V (doO m r) :: imgR g (doM m r) :: L) := by
  have hn : n = r.data.length := (h.get 0 rfl).sl.1
  have HC := hide (fun w' L' => check_st (M0 := M0) (L := L') g m r A n c w' hr hm hn)
  have HR := hide hr
  have HN := hide hn
  have H := hide h
  clear h hr hn
  by_cases he : (checkI m r).2 = 0
  · have hg := check_ok he
    obtain ⟨z0, z1, z2, z3, z4, z5, z6⟩ := RQ.wrong_zero hg.w
    have hfr := fun hf => check_fresh (m := m) (r := r) hf
    cases hf : (checkI m r).1 with
    | false =>
      have E0 := hide (show doM m r = m from if_neg (fun h => by rw [hf] at h; cases h.2))
      have E1 := hide (show doO m r = (m r.region.toNat).out r by unfold doO; rw [if_pos he, E0.out])
      rw [hf, he] at HC
      have HE := hide he
      clear hf hfr he
      obtain ⟨op, region, index, token, seq, data⟩ := r
      obtain ⟨hgw, hgk, hgi, hgt⟩ := hg
      simp only at z0 z1 z2 z3 z4 z5 z6 hgk hgi
      obtain ⟨k, rfl⟩ := Int.eq_ofNat_of_zero_le z2
      obtain ⟨j, rfl⟩ := Int.eq_ofNat_of_zero_le z4
      have hk : k < 4 := by omega
      have kn : (0 : Int) ≤ (k : Int) := by omega
      have k4 : (k : Int) < 4 := by omega
      have hj : op ≤ 2 → j < 4 := fun h => by have := hgi h; omega
      simp only [Int.toNat_natCast] at E0 E1
      clear hgw hgi hgt z2 z3 z4 z5 hgk
      go_enter Try.func39, Try.ntmps39
      go_wp2_with fail
      refine (HC.out _ _ (H.out.alloc 69 #[.int .i64 op, .int .i64 k, .int .i64 j, .int .u64 token, .int .u32 seq, .slice A n c]).up2).mono ?_
      rintro e w1 ⟨rfl, h⟩
      obtain ⟨vs, hi⟩ := h.img
      obtain ⟨e0, e1, e2, e3, e4, e5⟩ := (hi.blk 2 rfl).six
      have HI := hide hi
      clear H h hi
      by_cases o1 : op = 1
      · subst o1
        have hj4 := hj (by omega)
        obtain ⟨Aj, cj, ej, _⟩ := ((HI.out.get 1 rfl) k hk).b j hj4
        have EJ := hide ej
        have j0 : (0 : Int) ≤ (j : Int) := by omega
        have j4 : (j : Int) < 4 := by omega
        clear ej
        go_wp2_with go_quiet (fail)
        refine region_mix (fun W => St M0 W (imgB g vs m :: regsR vs m :: blkR w.heap.size 69 #[.int .i64 1, .int .i64 k, .int .i64 j, .int .u64 token, .int .u32 seq, .slice A n c] :: intsR .u8 (.slice A n c) data :: L)) 9 [0, 1, 2, 3, 4, 5, 6] [7, 8, 9, 10] (by kernel_rfl) (by kernel_rfl)
          (fun d => by cases d <;> exact fun _ _ _ _ h => h) (fun W hW => ?_)
        have hS := hide (show St M0 W (imgB g vs m :: regsR vs m :: blkR w.heap.size 69 #[.int .i64 1, .int .i64 k, .int .i64 j, .int .u64 token, .int .u32 seq, .slice A n c] :: intsR .u8 (.slice A n c) data :: L) by
          rw [hW]
          exact (HI.out.drewN _).drew)
        clear hW e0 e1 e2 e3 e4 e5
        refine ⟨hS.out, ?_⟩
        iterate 7 (refine take_run rfl rfl (fun W hW => by (obtain ⟨e0, e1, e2, e3, e4, e5⟩ := (hW.blk 2 rfl).six; have xj := img_cell (hW.blk 0 rfl) (k := k) (j := 2 + j) hk (by omega) (rgC_b _ _ hj4); rw [EJ.out, ← Nat.add_assoc] at xj; clear hW; go_simp; try rfl)) ?_; (simp only [Act.put, List.setIfInBounds_toArray, List.set_cons_succ, List.set_cons_zero]))
        refine take_nil ?_
        refine seq_buildSlice1 rfl rfl 60 1 0 _ (.slice Aj ((m k).b j).length cj) rfl rfl (build_log _ _ _ _) (fun _ => hS.out.junk _) ?_
        (simp only [Act.put, List.setIfInBounds_toArray, List.set_cons_succ, List.set_cons_zero])
        have h2 := (hS.out.copy 1 rfl).pers1 (R' := fun w' => ∀ (i : Nat) x, [(m k).b j][i]? = some x → LogR w' (([Value.slice Aj ((m k).b j).length cj].drop (i * 1)).take 1) x) (fun w' hi => one_log (by have := (hi k hk).b j hj4; rw [EJ.out] at this; exact this))
        have h3 := (h2.litRow 24 1 1 [.slice Aj ((m k).b j).length cj] rfl (by omega) W.heap.size rfl).rows rfl
        have H3 := hide h3
        clear h2 h3 hS
        refine seq_call (f := 70) (args := #[.slice (some ⟨W.heap.size, 0, none⟩) 1 1]) rfl rfl (by go_simp) ((copies_st _ [(m k).b j] _ (by simp) (fun x hx => by obtain rfl := List.mem_singleton.1 hx; have := (hm k).bb j; omega) H3.out).mono ?_)
        rintro e w2 ⟨V, rfl, h⟩
        have H4 := hide h
        clear H3 h
        refine ⟨_, rfl, fun _ => H4.out.tail, ?_⟩
        (simp only [Act.put, List.setIfInBounds_toArray, List.set_cons_succ, List.set_cons_zero])
        (refine seq_read rfl rfl (by (go_simp; try rfl)) (fun h => absurd h (by decide)) ?_; simp only [Act.put, List.setIfInBounds_toArray, List.set_cons_succ, List.set_cons_zero])
        (refine seq_read rfl rfl (by (go_simp; try rfl)) (fun h => absurd h (by decide)) ?_; simp only [Act.put, List.setIfInBounds_toArray, List.set_cons_succ, List.set_cons_zero])
        refine seq_nil ?_
        go_wp2_with fail
        go_ret2
        refine ⟨V, by rw [HE.out]; try rfl, ?_⟩
        rw [E1.out, E0.out]
        have h5 := H4.out.pick (L' := rowsR 1 LogR V [(m k).b j] :: imgB g vs m :: regsR vs m :: L) 5 [0, 1, 2]
        exact (St.addImg h5.dn2).swap
      by_cases o3 : op = 3
      · subst o3
        obtain ⟨A6, c6, e6, hc6, hm6, _⟩ := ((HI.out.get 1 rfl) k hk).log
        have E6 := hide e6
        have x6 := img_cell (HI.out.blk 0 rfl) (k := k) (j := 6) hk (by omega) rfl
        rw [e6] at x6
        clear e6
        have h2 := (HI.out.copy 1 rfl).pers1 (R' := fun w' => RowsC w' 1 LogR (.slice A6 (m k).log.length c6) (vs k).cs (m k).log) (fun w' hi => by have := (hi k hk).log; rw [E6.out] at this; exact this)
        have H2 := hide (St.addEx (f := fun css => persR (fun w' => RowsC w' 1 LogR (.slice A6 (m k).log.length c6) css (m k).log)) _ h2)
        clear h2
        go_wp2_with go_quiet (fail)
        refine (copies_st _ (m k).log _ (by have := (hm k).ll; omega) (fun x hx => by have := (hm k).lb x hx; omega) (H2.out.drewN _)).mono ?_
        rintro e w2 ⟨V, rfl, h⟩
        have H3 := hide h
        clear H2 h
        go_wp2_with fail
        go_ret2
        refine ⟨V, by rw [HE.out]; try rfl, ?_⟩
        rw [E1.out, E0.out]
        have h5 := H3.out.pick (L' := rowsR 1 LogR V (m k).log :: imgB g vs m :: regsR vs m :: L) 5 [0, 1, 2]
        exact (St.addImg h5.dn2).swap
      have b1 := isF o1
      have b3 := isF o3
      go_wp2_with go_quiet (fail)
      go_ret2
      refine ⟨.slice none 0 0, by rw [HE.out]; try rfl, ?_⟩
      rw [E1.out, E0.out, show (m k).out ⟨op, k, j, token, seq, data⟩ = [] from (if_neg o1).trans (if_neg o3)]
      refine St.noRows ?_ _ _
      refine St.drewN ?_ _
      have h5 := HI.out.pick (L' := imgB g vs m :: regsR vs m :: L) 4 [0, 1]
      exact St.addImg h5
    | true =>
      have E0 := hide (show doM m r = upd m r.region.toNat ((m r.region.toNat).act r) from if_pos ⟨he, hf⟩)
      have E1 := hide (show doO m r = ((m r.region.toNat).act r).out r by unfold doO; rw [if_pos he, E0.out, upd_at])
      obtain ⟨hch, ht0, hl4, hl5⟩ := hfr hf
      rw [hf, he] at HC
      have HE := hide he
      clear hf hfr he
      obtain ⟨op, region, index, token, seq, data⟩ := r
      obtain ⟨hgw, hgk, hgi, hgt⟩ := hg
      simp only at z0 z1 z2 z3 z4 z5 z6 hgk hgi
      obtain ⟨k, rfl⟩ := Int.eq_ofNat_of_zero_le z2
      obtain ⟨j, rfl⟩ := Int.eq_ofNat_of_zero_le z4
      have hk : k < 4 := by omega
      have kn : (0 : Int) ≤ (k : Int) := by omega
      have k4 : (k : Int) < 4 := by omega
      have hop := RQ.changes_op hch
      simp only at hop ht0 hl4 hl5
      simp only [Int.toNat_natCast] at hl4 hl5
      have hj : op ≤ 2 → j < 4 := fun h => by have := hgi h; omega
      simp only [Int.toNat_natCast] at E0 E1
      clear hgw hgi hgt z2 z3 z4 z5 hgk
      go_enter Try.func39, Try.ntmps39
      go_wp2_with fail
      refine (HC.out _ _ (H.out.alloc 69 #[.int .i64 op, .int .i64 k, .int .i64 j, .int .u64 token, .int .u32 seq, .slice A n c]).up2).mono ?_
      rintro e w1 ⟨rfl, h⟩
      obtain ⟨vs, hi⟩ := h.img
      obtain ⟨e0, e1, e2, e3, e4, e5⟩ := (hi.blk 2 rfl).six
      have HI := hide hi
      clear H h hi
      go_wp2_with go_quiet (fail)
      refine region_mix (fun W => Blk W w.heap.size 69 #[.int .i64 op, .int .i64 k, .int .i64 j, .int .u64 token, .int .u32 seq, .slice A n c]) 9 [0, 1, 2, 3, 4, 5, 6, 7] [8, 9, 10, 11] (by kernel_rfl) (by kernel_rfl)
        (fun d => by cases d <;> exact fun _ _ _ _ h => h) (fun W hW => ?_)
      have hS := hide (show St M0 W (imgB g vs m :: regsR vs m :: blkR w.heap.size 69 #[.int .i64 op, .int .i64 k, .int .i64 j, .int .u64 token, .int .u32 seq, .slice A n c] :: intsR .u8 (.slice A n c) data :: L) by
        rw [hW]
        exact (HI.out.drewN _).drew)
      clear hW e0 e1 e2 e3 e4 e5 HI
      refine ⟨hS.out.blk 2 rfl, ?_⟩
      iterate 8 (refine take_run rfl rfl (fun W hW => by (obtain ⟨e0, e1, e2, e3, e4, e5⟩ := hW.six; clear hW; go_simp; try rfl)) ?_; (simp only [Act.put, List.setIfInBounds_toArray, List.set_cons_succ, List.set_cons_zero]))
      refine take_nil ?_
      obtain ⟨⟨u, hc⟩, hf⟩ := img_there (hS.out.blk 0 rfl) hk (j := 0) (by omega)
      simp only [Nat.add_zero] at hc hf
      have h2 := hS.out.setHigh hk token
      refine seq_store rfl rfl 39 _ _ (.pointer (some ⟨g, k * 7, none⟩)) (.int .u64 token) rfl rfl rfl (by go_simp) (fun _ => h2.blk 1 rfl) ?_
      clear hc hf hS
      generalize W.setCell ⟨g, k * 7, none⟩ (.int .u64 token) = W2 at h2 ⊢
      simp only [Act.put]
      obtain ⟨vs2, h3⟩ := h2.img
      obtain ⟨⟨u2, hc⟩, hf⟩ := img_there (h3.blk 0 rfl) hk (j := 1) (by omega)
      have h4 := h3.setSeq hk seq
      rw [upd_two] at h4
      have H3 := hide h3
      have H4 := hide h4
      clear h2 h3 h4
      (refine seq_read rfl rfl (by (go_simp; try rfl)) (fun h => absurd h (by decide)) ?_; simp only [Act.put, List.setIfInBounds_toArray, List.set_cons_succ, List.set_cons_zero])
      (refine seq_read rfl rfl (by (go_simp; try rfl)) (fun h => absurd h (by decide)) ?_; simp only [Act.put, List.setIfInBounds_toArray, List.set_cons_succ, List.set_cons_zero])
      refine seq_store rfl rfl 58 _ _ (.pointer (some ⟨g, k * 7 + 1, none⟩)) (.int .u32 seq) rfl rfl rfl (by go_simp; rfl) (fun h => absurd h (by decide)) ?_
      have h4 := H4.out
      clear hc hf H3 H4
      generalize W2.setCell ⟨g, k * 7 + 1, none⟩ (.int .u32 seq) = W3 at h4 ⊢
      simp only [Act.put]
      refine seq_nil ?_
      obtain ⟨e0, e1, e2, e3, e4, e5⟩ := (h4.blk 1 rfl).six
      have H4 := hide h4
      have hz6 : n ≤ 24 := by have := HN.out; omega
      clear h4
      go_wp2_with fail
      rcases hop with rfl | rfl | rfl
      · refine (of_put ⟨g, k * 7, none⟩ ⟨2, k, j, token, seq, data⟩ A n c _ rfl).mono ?_
        rintro e w4 ⟨rfl, hf⟩
        have h5 := (H4.out.grow hf).pick (L' := intsR .u8 (.slice A n c) data :: imgR g (upd m k ⟨token, seq, (m k).b, (m k).log⟩) :: blkR w.heap.size 69 #[.int .i64 2, .int .i64 k, .int .i64 j, .int .u64 token, .int .u32 seq, .slice A n c] :: L) 3 [2, 0, 1]
        have H5 := hide h5
        clear H4 hf h5 e0 e1 e2 e3 e4 e5
        go_wp2_with fail
        refine (do_put g _ k j A n c data _ hk (hj (by omega)) (by omega) H5.out).mono ?_
        rintro e w5 ⟨rfl, h⟩
        rw [upd_upd, upd_at] at h
        obtain ⟨e0, e1, e2, e3, e4, e5⟩ := (h.blk 1 rfl).six
        have H6 := hide h
        clear h H5
        go_wp2_with fail
        go_ret2
        refine ⟨.slice none 0 0, by rw [HE.out]; try rfl, ?_⟩
        rw [E1.out, E0.out, out_none _ _ _ _ _ _ _ (by decide) (by decide), act_put _ _ _ _ _ _ _ rfl]
        exact (H6.out.del1).noRows _ _
      · refine (of_more ⟨g, k * 7, none⟩ ⟨4, k, j, token, seq, data⟩ A n c _ rfl).mono ?_
        rintro e w4 ⟨rfl, hf⟩
        have h5 := (H4.out.grow hf).pick (L' := intsR .u8 (.slice A n c) data :: imgR g (upd m k ⟨token, seq, (m k).b, (m k).log⟩) :: blkR w.heap.size 69 #[.int .i64 4, .int .i64 k, .int .i64 j, .int .u64 token, .int .u32 seq, .slice A n c] :: L) 3 [2, 0, 1]
        have H5 := hide h5
        clear H4 hf h5 e0 e1 e2 e3 e4 e5
        go_wp2_with fail
        refine (do_more g _ k A n c data _ hk (by rw [upd_at]; have := (hm k).ll; show (m k).log.length ≤ 1000; omega) (by omega) H5.out).mono ?_
        rintro e w5 ⟨rfl, h⟩
        rw [upd_upd, upd_at] at h
        obtain ⟨e0, e1, e2, e3, e4, e5⟩ := (h.blk 1 rfl).six
        have H6 := hide h
        clear h H5
        go_wp2_with fail
        go_ret2
        refine ⟨.slice none 0 0, by rw [HE.out]; try rfl, ?_⟩
        rw [E1.out, E0.out, out_none _ _ _ _ _ _ _ (by decide) (by decide), act_more _ _ _ _ _ _ _ rfl]
        exact (H6.out.del1).noRows _ _
      · refine (of_less ⟨g, k * 7, none⟩ ⟨5, k, j, token, seq, data⟩ A n c _ rfl).mono ?_
        rintro e w4 ⟨rfl, hf⟩
        have h5 := (H4.out.grow hf).pick (L' := imgR g (upd m k ⟨token, seq, (m k).b, (m k).log⟩) :: blkR w.heap.size 69 #[.int .i64 5, .int .i64 k, .int .i64 j, .int .u64 token, .int .u32 seq, .slice A n c] :: L) 3 [0, 1]
        have H5 := hide h5
        have hj5 : j ≤ (m k).log.length := by have := hl5 rfl; omega
        clear H4 hf h5 e0 e1 e2 e3 e4 e5 hl5 hl4
        go_wp2_with fail
        refine (do_less g _ k j _ hk (by rw [upd_at]; exact hj5) H5.out).mono ?_
        rintro e w5 ⟨rfl, h⟩
        rw [upd_upd, upd_at] at h
        obtain ⟨e0, e1, e2, e3, e4, e5⟩ := (h.blk 1 rfl).six
        have H6 := hide h
        clear h H5
        go_wp2_with fail
        go_ret2
        refine ⟨.slice none 0 0, by rw [HE.out]; try rfl, ?_⟩
        rw [E1.out, E0.out, out_none _ _ _ _ _ _ _ (by decide) (by decide), act_less _ _ _ _ _ _ _ rfl]
        exact (H6.out.del1).noRows _ _
  · have E0 : doM m r = m := if_neg (fun h => he h.1)
    have E1 : doO m r = [] := if_neg he
    rw [E0, E1]
    clear E0 E1
    have hb : ((checkI m r).2 != 0) = true := by simp [he]
    generalize (checkI m r).2 = x at *
    generalize (checkI m r).1 = y at *
    have HB := hide hb
    clear he hb
    obtain ⟨op, region, index, token, seq, data⟩ := r
    go_enter Try.func39, Try.ntmps39
    go_wp2_with fail
    refine (HC.out _ _ (H.out.alloc 69 #[.int .i64 op, .int .i64 region, .int .i64 index, .int .u64 token, .int .u32 seq, .slice A n c]).up2).mono ?_
    rintro e w1 ⟨rfl, h⟩
    have H1 := hide h
    have hb := HB.out
    clear H h
    go_wp2_with fail
    go_ret2
    exact ⟨_, rfl, (H1.out.noRows 1 LogR).pick 4 [0, 1]⟩

end Go.Proofs.Ytdhkklcjhbnnlaa
