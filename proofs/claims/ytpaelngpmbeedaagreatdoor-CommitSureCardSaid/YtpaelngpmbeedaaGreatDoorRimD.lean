/- The document's Image: Do. Printed by gen_rimd.py. -/
import Derived.Test.YtpaelngpmbeedaaGreatDoorRimK
import Derived.Test.YtpaelngpmbeedaaGreatDoorUnpZ
import Derived.Test.YtpaelngpmbeedaaGreatDoorImgOZ
namespace Go.Proofs.YtpaelngpmbeedaaGreatDoor
open Go.RowKit

section
variable {M0 : Imm} {w : World} {L : List Res} {g k : Nat} {m : Nat → Rg} {vs : Nat → RV}
theorem rim_there {i : Nat} (h : Blk w g 40 (rimC m vs)) (hi : i < 28) : (∃ u, w.cell? ⟨g, i, none⟩ = some u) ∧ w.frozen? ⟨g, i, none⟩ = false := by
  refine ⟨⟨(rimC m vs)[i]'hi, ?_⟩, h.frozen _⟩
  rw [h.cell]
  exact Array.getElem?_eq_getElem _
theorem regs_high (h : ∀ i, i < 4 → RegR w (vs i) (m i)) (x : Int) : ∀ i, i < 4 → RegR w (vs i) (upd m k { m k with high := x } i) := by
  intro i hi
  by_cases he : i = k
  · subst he
    rw [upd_at]
    exact ⟨(h i hi).b, (h i hi).log⟩
  · rw [upd_ne _ _ _ _ he]
    exact h i hi
theorem regs_seq (h : ∀ i, i < 4 → RegR w (vs i) (m i)) (x : Int) : ∀ i, i < 4 → RegR w (vs i) (upd m k { m k with seq := x } i) := by
  intro i hi
  by_cases he : i = k
  · subst he
    rw [upd_at]
    exact ⟨(h i hi).b, (h i hi).log⟩
  · rw [upd_ne _ _ _ _ he]
    exact h i hi
theorem St.rimHigh (h : St M0 w (rimB g vs m :: regsR vs m :: L)) (hk : k < 4) (x : Int) : St M0 (w.setCell ⟨g, k, none⟩ (.int .u64 x)) (rimB g vs (upd m k { m k with high := x }) :: regsR vs (upd m k { m k with high := x }) :: L) := by
  have e : (rimC m vs).setIfInBounds k (.int .u64 x) = rimC (upd m k { m k with high := x }) vs := by
    rcases below4 hk with rfl | rfl | rfl | rfl <;> rfl
  have h1 := h.set_ k (.int .u64 x)
  rw [e] at h1
  exact (h1.swap.pers1 (fun w' hr => regs_high hr x)).swap
theorem St.rimSeq (h : St M0 w (rimB g vs m :: regsR vs m :: L)) (hk : k < 4) (x : Int) : St M0 (w.setCell ⟨g, 4 + k, none⟩ (.int .u32 x)) (rimB g vs (upd m k { m k with seq := x }) :: regsR vs (upd m k { m k with seq := x }) :: L) := by
  have e : (rimC m vs).setIfInBounds (4 + k) (.int .u32 x) = rimC (upd m k { m k with seq := x }) vs := by
    rcases below4 hk with rfl | rfl | rfl | rfl <;> rfl
  have h1 := h.set_ (4 + k) (.int .u32 x)
  rw [e] at h1
  exact (h1.swap.pers1 (fun w' hr => regs_seq hr x)).swap
theorem St.rimB_ {u : Value} {b : List Int} {j : Nat} (h : St M0 w (rimB g vs m :: regsR vs m :: persR (fun w' => Ints w' .u8 u b) :: L)) (hk : k < 4) (hj : j < 4) :
    St M0 (w.setCell ⟨g, 8 + k * 4 + j, none⟩ u) (rimR g (upd m k { m k with b := upd (m k).b j b }) :: L) := by
  have e : (rimC m vs).setIfInBounds (8 + k * 4 + j) u = rimC (upd m k { m k with b := upd (m k).b j b }) (upd vs k { vs k with b := upd (vs k).b j u }) := by
    rcases below4 hk with rfl | rfl | rfl | rfl <;> rcases below4 hj with rfl | rfl | rfl | rfl <;> rfl
  have h1 := h.set_ (8 + k * 4 + j) u
  rw [e] at h1
  refine St.addRim (vs := upd vs k { vs k with b := upd (vs k).b j u }) ?_
  refine (h1.swap.up2.swap.pers2 (Q := fun w' => ∀ i, i < 4 → RegR w' (upd vs k { vs k with b := upd (vs k).b j u } i) (upd m k { m k with b := upd (m k).b j b } i)) (fun w' hr hi => upd_reg hr ⟨fun i hi4 => ?_, (hr k hk).log⟩)).swap
  by_cases he : i = j
  · subst he
    show Ints w' .u8 (upd (vs k).b i _ i) (upd (m k).b i b i)
    rw [upd_at, upd_at]
    exact hi
  · show Ints w' .u8 (upd (vs k).b j _ i) (upd (m k).b j b i)
    rw [upd_ne _ _ _ _ he, upd_ne _ _ _ _ he]
    exact (hr k hk).b i hi4
theorem St.rimLog {u : Value} {css : Nat → List Value} {xs : List (List Int)} (h : St M0 w (rimB g vs m :: regsR vs m :: persR (fun w' => RowsC w' 1 LogR u css xs) :: L)) (hk : k < 4) :
    St M0 (w.setCell ⟨g, 24 + k, none⟩ u) (rimR g (upd m k { m k with log := xs }) :: L) := by
  have e : (rimC m vs).setIfInBounds (24 + k) u = rimC (upd m k { m k with log := xs }) (upd vs k { vs k with log := u, cs := css }) := by
    rcases below4 hk with rfl | rfl | rfl | rfl <;> rfl
  have h1 := h.set_ (24 + k) u
  rw [e] at h1
  refine St.addRim (vs := upd vs k { vs k with log := u, cs := css }) ?_
  exact (h1.swap.up2.swap.pers2 (Q := fun w' => ∀ i, i < 4 → RegR w' (upd vs k { vs k with log := u, cs := css } i) (upd m k { m k with log := xs } i)) (fun w' hr hi => upd_reg hr ⟨(hr k hk).b, hi⟩)).swap
end
theorem RowsC.one_cells {w : World} {A : Option Addr} {n c : Nat} {css : Nat → List Value} {xs : List (List Int)} (h : RowsC w 1 LogR (.slice A n c) css xs) : ∀ u ∈ flat css n, u.oneCell' = true := by
  intro u hu
  obtain ⟨i, hi, hu2⟩ := flat_mem hu
  obtain ⟨A', c', e, _, _, h3⟩ := h
  injection e with e1 e2 e3
  subst e2
  obtain ⟨_, _, _, _, hl⟩ := h3 i _ (List.getElem?_eq_getElem hi)
  obtain ⟨v, ecs, hI⟩ := hl
  rw [ecs] at hu2
  have e := List.mem_singleton.1 hu2
  subst e
  obtain ⟨A2, c2, e, _⟩ := hI
  rw [e]
  rfl
theorem empty_log (w : World) : (Instr.buildSlice 37 0 #[]).run Tryz.prog w = .ok (.slice (some ⟨w.heap.size, 0, none⟩) 0 0) (w.alloc (.cells #[] 34)) := by kernel_rfl

set_option maxRecDepth 100000 in
set_option maxHeartbeats 4000000 in
theorem rdo_st {M0 : Imm} {L : List Res} (g : Nat) (m : Nat → Rg) (r : RQ) (A : Option Addr) (n c : Nat) (w : World) (hr : r.ok) (hm : ∀ k, (m k).ok) (h : St M0 w (intsR .u8 (.slice A n c) r.data :: rimR g m :: L)) :
    Calls Tryz.prog 30 #[.pointer (some ⟨g, 0, none⟩), reqV r (.slice A n c)] w fun e w' => ∃ V, e = .returned (.tuple #[V, .int .i64 (checkI m r).2]) ∧ St M0 w' (rowsR 1 LogR V (doO m r) :: rimR g (doM m r) :: L) := by
  have hn : n = r.data.length := (h.get 0 rfl).sl.1
  have HC := hide (fun w' L' => rcheck_st (M0 := M0) (L := L') g m r A n c w' hr hm hn)
  have HR := hide hr
  have HN := hide hn
  have H := hide h
  clear h hr hn
  by_cases he : (checkI m r).2 = 0
  · have hg := check_ok he
    obtain ⟨z0, z1, z2, z3, z4, z5, z6⟩ := RQ.wrong_zero hg.w
    have hfr := fun hf => check_fresh (m := m) (r := r) hf
    cases hf : (checkI m r).1 with
    | false =>
      have E0 := hide (show doM m r = m from if_neg (fun h => by rw [hf] at h; cases h.2))
      have E1 := hide (show doO m r = (m r.region.toNat).out r by unfold doO; rw [if_pos he, E0.out])
      rw [hf, he] at HC
      have HE := hide he
      clear hf hfr he
      obtain ⟨op, region, index, token, seq, data⟩ := r
      obtain ⟨hgw, hgk, hgi, hgt⟩ := hg
      simp only at z0 z1 z2 z3 z4 z5 z6 hgk hgi
      obtain ⟨k, rfl⟩ := Int.eq_ofNat_of_zero_le z2
      obtain ⟨j, rfl⟩ := Int.eq_ofNat_of_zero_le z4
      have hk : k < 4 := by omega
      have kn : (0 : Int) ≤ (k : Int) := by omega
      have k4 : (k : Int) < 4 := by omega
      have hj : op ≤ 2 → j < 4 := fun h => by have := hgi h; omega
      simp only [Int.toNat_natCast] at E0 E1
      clear hgw hgi hgt z2 z3 z4 z5 hgk
      go_enter Tryz.func30, Tryz.ntmps30
      go_wp2_with fail
      refine (HC.out _ _ (H.out.alloc 51 #[.int .i64 op, .int .i64 k, .int .i64 j, .int .u64 token, .int .u32 seq, .slice A n c]).up2).mono ?_
      rintro e w1 ⟨rfl, h⟩
      obtain ⟨vs, hi⟩ := h.rim
      obtain ⟨e0, e1, e2, e3, e4, e5⟩ := (hi.blk 2 rfl).six
      have HI := hide hi
      clear H h hi
      by_cases o1 : op = 1
      · subst o1
        have hj4 := hj (by omega)
        obtain ⟨Aj, cj, ej, _⟩ := ((HI.out.get 1 rfl) k hk).b j hj4
        have EJ := hide ej
        have j0 : (0 : Int) ≤ (j : Int) := by omega
        have j4 : (j : Int) < 4 := by omega
        clear ej
        go_wp2_with fail
        refine region_mix (fun W => St M0 W (rimB g vs m :: regsR vs m :: blkR w.heap.size 51 #[.int .i64 1, .int .i64 k, .int .i64 j, .int .u64 token, .int .u32 seq, .slice A n c] :: intsR .u8 (.slice A n c) data :: L)) 10 [0, 1, 2, 3, 4, 5, 6, 7, 8] [9, 10, 11] (by kernel_rfl) (by kernel_rfl)
          (fun d => by cases d <;> exact fun _ _ _ _ h => h) (fun W hW => ?_)
        have hS := hide (show St M0 W (rimB g vs m :: regsR vs m :: blkR w.heap.size 51 #[.int .i64 1, .int .i64 k, .int .i64 j, .int .u64 token, .int .u32 seq, .slice A n c] :: intsR .u8 (.slice A n c) data :: L) by
          rw [hW]
          exact HI.out.drew)
        clear hW e0 e1 e2 e3 e4 e5
        refine ⟨hS.out, ?_⟩
        iterate 9 (refine take_run rfl rfl (fun W hW => by (obtain ⟨e0, e1, e2, e3, e4, e5⟩ := (hW.blk 2 rfl).six; have xj := ((hW.blk 0 rfl).cell (8 + k * 4 + j)).trans (rimC_b m vs hk hj4); rw [EJ.out] at xj; clear hW; go_simp; try rfl)) ?_; (simp only [Act.put, List.setIfInBounds_toArray, List.set_cons_succ, List.set_cons_zero]))
        refine take_nil ?_
        have h2 := (hS.out.copy 1 rfl).pers1 (R' := fun w' => ∀ (i : Nat) x, [(m k).b j][i]? = some x → LogR w' (([Value.slice Aj ((m k).b j).length cj].drop (i * 1)).take 1) x) (fun w' hi => one_log (by have := (hi k hk).b j hj4; rw [EJ.out] at this; exact this))
        have h3 := (h2.litRow 34 1 1 [.slice Aj ((m k).b j).length cj] rfl (by omega) W.heap.size rfl).rows rfl
        have H3 := hide h3
        clear h2 h3
        refine seq_buildSlice1 rfl rfl 37 1 0 _ (.slice Aj ((m k).b j).length cj) rfl rfl (build_log _ _ _ _) (fun _ => hS.out.junk _) ?_
        (simp only [Act.put, List.setIfInBounds_toArray, List.set_cons_succ, List.set_cons_zero])
        clear hS
        (refine seq_read rfl rfl (by (go_simp; try rfl)) (fun h => absurd h (by decide)) ?_; simp only [Act.put, List.setIfInBounds_toArray, List.set_cons_succ, List.set_cons_zero])
        (refine seq_read rfl rfl (by (go_simp; try rfl)) (fun h => absurd h (by decide)) ?_; simp only [Act.put, List.setIfInBounds_toArray, List.set_cons_succ, List.set_cons_zero])
        refine seq_nil ?_
        go_wp2_with fail
        go_ret2
        refine ⟨.slice (some ⟨W.heap.size, 0, none⟩) 1 1, by rw [HE.out]; try rfl, ?_⟩
        rw [E1.out, E0.out]
        have h5 := H3.out.pick (L' := rowsR 1 LogR (.slice (some ⟨W.heap.size, 0, none⟩) 1 1) [(m k).b j] :: rimB g vs m :: regsR vs m :: L) 5 [0, 1, 2]
        exact (St.addRim h5.dn2).swap
      by_cases o3 : op = 3
      · subst o3
        obtain ⟨A6, c6, e6, hc6, hm6, _⟩ := ((HI.out.get 1 rfl) k hk).log
        have E6 := hide e6
        have x6 := ((HI.out.blk 0 rfl).cell (24 + k)).trans (rimC_log m vs hk)
        rw [e6] at x6
        clear e6
        have h2 := (HI.out.copy 1 rfl).pers1 (R' := fun w' => RowsC w' 1 LogR (.slice A6 (m k).log.length c6) (vs k).cs (m k).log) (fun w' hi => by have := (hi k hk).log; rw [E6.out] at this; exact this)
        have H2 := hide (St.addEx (f := fun css => persR (fun w' => RowsC w' 1 LogR (.slice A6 (m k).log.length c6) css (m k).log)) _ h2)
        clear h2
        go_wp2_with fail
        go_ret2
        refine ⟨.slice A6 (m k).log.length c6, by rw [HE.out]; try rfl, ?_⟩
        rw [E1.out, E0.out]
        have h5 := H2.out.pick (L' := rowsR 1 LogR (.slice A6 (m k).log.length c6) (m k).log :: rimB g vs m :: regsR vs m :: L) 5 [0, 1, 2]
        exact (St.addRim h5.dn2).swap
      have b1 := isF o1
      have b3 := isF o3
      go_wp2_with fail
      go_ret2
      refine ⟨.slice none 0 0, by rw [HE.out]; try rfl, ?_⟩
      rw [E1.out, E0.out, show (m k).out ⟨op, k, j, token, seq, data⟩ = [] from (if_neg o1).trans (if_neg o3)]
      refine St.noRows ?_ _ _
      have h5 := HI.out.pick (L' := rimB g vs m :: regsR vs m :: L) 4 [0, 1]
      exact St.addRim h5
    | true =>
      have E0 := hide (show doM m r = upd m r.region.toNat ((m r.region.toNat).act r) from if_pos ⟨he, hf⟩)
      have E1 := hide (show doO m r = ((m r.region.toNat).act r).out r by unfold doO; rw [if_pos he, E0.out, upd_at])
      obtain ⟨hch, ht0, hl4, hl5⟩ := hfr hf
      rw [hf, he] at HC
      have HE := hide he
      clear hf hfr he
      obtain ⟨op, region, index, token, seq, data⟩ := r
      obtain ⟨hgw, hgk, hgi, hgt⟩ := hg
      simp only at z0 z1 z2 z3 z4 z5 z6 hgk hgi
      obtain ⟨k, rfl⟩ := Int.eq_ofNat_of_zero_le z2
      obtain ⟨j, rfl⟩ := Int.eq_ofNat_of_zero_le z4
      have hk : k < 4 := by omega
      have kn : (0 : Int) ≤ (k : Int) := by omega
      have k4 : (k : Int) < 4 := by omega
      have hop := RQ.changes_op hch
      simp only at hop ht0 hl4 hl5
      simp only [Int.toNat_natCast] at hl4 hl5
      have hj : op ≤ 2 → j < 4 := fun h => by have := hgi h; omega
      simp only [Int.toNat_natCast] at E0 E1
      clear hgw hgi hgt z2 z3 z4 z5 hgk
      go_enter Tryz.func30, Tryz.ntmps30
      go_wp2_with fail
      refine (HC.out _ _ (H.out.alloc 51 #[.int .i64 op, .int .i64 k, .int .i64 j, .int .u64 token, .int .u32 seq, .slice A n c]).up2).mono ?_
      rintro e w1 ⟨rfl, h⟩
      obtain ⟨vs, hi⟩ := h.rim
      obtain ⟨e0, e1, e2, e3, e4, e5⟩ := (hi.blk 2 rfl).six
      have HI := hide hi
      clear H h hi
      go_wp2_with fail
      refine region_mix (fun W => Blk W w.heap.size 51 #[.int .i64 op, .int .i64 k, .int .i64 j, .int .u64 token, .int .u32 seq, .slice A n c]) 8 [0, 1, 2, 3, 4, 5, 6] [7] (by kernel_rfl) (by kernel_rfl)
        (fun d => by cases d <;> exact fun _ _ _ _ h => h) (fun W hW => ?_)
      have hS := hide (show St M0 W (rimB g vs m :: regsR vs m :: blkR w.heap.size 51 #[.int .i64 op, .int .i64 k, .int .i64 j, .int .u64 token, .int .u32 seq, .slice A n c] :: intsR .u8 (.slice A n c) data :: L) by
        rw [hW]
        exact HI.out.drew)
      clear hW e0 e1 e2 e3 e4 e5 HI
      refine ⟨hS.out.blk 2 rfl, ?_⟩
      iterate 7 (refine take_run rfl rfl (fun W hW => by (obtain ⟨e0, e1, e2, e3, e4, e5⟩ := hW.six; clear hW; go_simp; try rfl)) ?_; (simp only [Act.put, List.setIfInBounds_toArray, List.set_cons_succ, List.set_cons_zero]))
      refine take_nil ?_
      obtain ⟨⟨u, hc⟩, hf⟩ := rim_there (i := k) (hS.out.blk 0 rfl) (by omega)
      have h2 := hS.out.rimHigh hk token
      refine seq_store rfl rfl 30 _ _ (.pointer (some ⟨g, k, none⟩)) (.int .u64 token) rfl rfl rfl (by go_simp) (fun _ => h2.blk 2 rfl) ?_
      clear hc hf hS
      generalize W.setCell ⟨g, k, none⟩ (.int .u64 token) = W2 at h2 ⊢
      simp only [Act.put]
      refine seq_nil ?_
      have H2 := hide h2
      obtain ⟨e0, e1, e2, e3, e4, e5⟩ := (h2.blk 2 rfl).six
      clear h2
      go_wp2_with fail
      refine region_mix (fun W => Blk W w.heap.size 51 #[.int .i64 op, .int .i64 k, .int .i64 j, .int .u64 token, .int .u32 seq, .slice A n c]) 8 [0, 1, 2, 3, 4, 5, 6] [7] (by kernel_rfl) (by kernel_rfl)
        (fun d => by cases d <;> exact fun _ _ _ _ h => h) (fun W hW => ?_)
      have hS := hide (H2.out.grow (show Fr Non W2 W by rw [hW]; exact (Fr.refl _ _).drew))
      clear hW e0 e1 e2 e3 e4 e5 H2
      refine ⟨hS.out.blk 2 rfl, ?_⟩
      iterate 7 (refine take_run rfl rfl (fun W hW => by (obtain ⟨e0, e1, e2, e3, e4, e5⟩ := hW.six; clear hW; go_simp; try rfl)) ?_; (simp only [Act.put, List.setIfInBounds_toArray, List.set_cons_succ, List.set_cons_zero]))
      refine take_nil ?_
      obtain ⟨⟨u, hc⟩, hf⟩ := rim_there (i := 4 + k) (hS.out.blk 0 rfl) (by omega)
      have h2 := hS.out.rimSeq hk seq
      rw [upd_two] at h2
      refine seq_store rfl rfl 32 _ _ (.pointer (some ⟨g, 4 + k, none⟩)) (.int .u32 seq) rfl rfl rfl (by go_simp) (fun _ => h2.blk 2 rfl) ?_
      clear hc hf hS
      generalize W.setCell ⟨g, 4 + k, none⟩ (.int .u32 seq) = W3 at h2 ⊢
      simp only [Act.put]
      refine seq_nil ?_
      have H3 := hide h2
      obtain ⟨e0, e1, e2, e3, e4, e5⟩ := (h2.blk 2 rfl).six
      have hz6 : n ≤ 24 := by have := HN.out; omega
      clear h2
      rcases hop with rfl | rfl | rfl
      · have hj4 := hj (by omega)
        have j0 : (0 : Int) ≤ (j : Int) := by omega
        have j4 : (j : Int) < 4 := by omega
        go_wp2_with fail
        refine region_mix (fun W => Blk W w.heap.size 51 #[.int .i64 2, .int .i64 k, .int .i64 j, .int .u64 token, .int .u32 seq, .slice A n c]) 11 [0, 1, 2, 3, 4, 5, 6, 7, 8, 9] [10] (by kernel_rfl) (by kernel_rfl)
          (fun d => by cases d <;> exact fun _ _ _ _ h => h) (fun W hW => ?_)
        have hS := hide ((H3.out.grow (show Fr Non W3 W by rw [hW]; exact (Fr.refl _ _).drew)).pick (L' := rimB g vs (upd m k ⟨token, seq, (m k).b, (m k).log⟩) :: regsR vs (upd m k ⟨token, seq, (m k).b, (m k).log⟩) :: intsR .u8 (.slice A n c) data :: blkR w.heap.size 51 #[.int .i64 2, .int .i64 k, .int .i64 j, .int .u64 token, .int .u32 seq, .slice A n c] :: L) 4 [0, 1, 3, 2])
        clear hW e0 e1 e2 e3 e4 e5 H3
        refine ⟨hS.out.blk 3 rfl, ?_⟩
        iterate 10 (refine take_run rfl rfl (fun W hW => by (obtain ⟨e0, e1, e2, e3, e4, e5⟩ := hW.six; clear hW; go_simp; try rfl)) ?_; (simp only [Act.put, List.setIfInBounds_toArray, List.set_cons_succ, List.set_cons_zero]))
        refine take_nil ?_
        obtain ⟨⟨u, hc⟩, hf⟩ := rim_there (i := 8 + k * 4 + j) (hS.out.blk 0 rfl) (by omega)
        have h2 := hS.out.rimB_ hk hj4
        rw [upd_upd, upd_at] at h2
        refine seq_store rfl rfl 34 _ _ (.pointer (some ⟨g, 8 + k * 4 + j, none⟩)) (.slice A n c) rfl rfl rfl (by go_simp) (fun _ => h2.blk 1 rfl) ?_
        clear hc hf hS
        generalize W.setCell ⟨g, 8 + k * 4 + j, none⟩ (.slice A n c) = W4 at h2 ⊢
        simp only [Act.put]
        refine seq_nil ?_
        have H6 := hide h2
        obtain ⟨e0, e1, e2, e3, e4, e5⟩ := (h2.blk 1 rfl).six
        clear h2
        go_wp2_with fail
        go_ret2
        refine ⟨.slice none 0 0, by rw [HE.out]; try rfl, ?_⟩
        rw [E1.out, E0.out, out_none _ _ _ _ _ _ _ (by decide) (by decide), act_put _ _ _ _ _ _ _ rfl]
        exact (H6.out.del1).noRows _ _
      · obtain ⟨A6, c6, e6, hc6, hm6, _⟩ : ∃ A6 c6, (vs k).log = .slice A6 (m k).log.length c6 ∧ (m k).log.length ≤ c6 ∧ c6 ≤ 9223372036854775807 ∧ True := by
          obtain ⟨A6, c6, e6, h1, h2, _⟩ := ((H3.out.get 1 rfl) k hk).log
          rw [upd_at] at e6 h1
          exact ⟨A6, c6, e6, h1, h2, trivial⟩
        have E6 := hide e6
        clear e6
        generalize hn6 : (m k).log.length = n6 at *
        have HN6 := hide hn6
        have hl6 : n6 ≤ 4 := by have := (hm k).ll; omega
        clear hn6
        go_wp2_with fail
        have hRC : ∀ w', (∀ i, i < 4 → RegR w' (vs i) ((upd m k ⟨token, seq, (m k).b, (m k).log⟩) i)) → RowsC w' 1 LogR (.slice A6 n6 c6) (vs k).cs (m k).log := fun w' hr => by
          have h1 := (hr k hk).log
          rw [upd_at, E6.out] at h1
          exact h1
        have HRC := hide hRC
        clear hRC
        refine region_mixT (fun W => Blk W w.heap.size 51 #[.int .i64 4, .int .i64 k, .int .i64 j, .int .u64 token, .int .u32 seq, .slice A n c]) 18 7 [0, 1, 3, 4, 5, 6, 7, 10, 11, 14, 15] #[true, true, false, true, true, true, true, true, false, false, true, true, false, false, true, true, false, false] (by kernel_rfl) (by kernel_rfl)
          (fun d => by cases d <;> exact fun _ _ _ _ h => h) (fun W hW => ?_)
        have hS : St M0 W (rimB g vs (upd m k ⟨token, seq, (m k).b, (m k).log⟩) :: regsR vs (upd m k ⟨token, seq, (m k).b, (m k).log⟩) :: blkR w.heap.size 51 #[.int .i64 4, .int .i64 k, .int .i64 j, .int .u64 token, .int .u32 seq, .slice A n c] :: intsR .u8 (.slice A n c) data :: L) := H3.out.grow (show Fr Non W3 W by rw [hW]; exact (Fr.refl _ _).drew)
        clear hW e0 e1 e2 e3 e4 e5 H3
        refine ⟨hS.blk 2 rfl, ?_⟩
        iterate 11 (refine take_run rfl rfl (fun W hW => by (obtain ⟨e0, e1, e2, e3, e4, e5⟩ := hW.six; clear hW; go_simp; try rfl)) ?_; (simp only [Act.put, List.setIfInBounds_toArray, List.set_cons_succ, List.set_cons_zero]))
        refine take_nil ?_
        refine wpT_nodes [2, 8, 12] (by kernel_rfl) (by decide) (fun i hi => ?_)
        simp only [List.mem_cons, List.not_mem_nil, or_false] at hi
        rcases hi with rfl | rfl | rfl
        · have hS_2 := hS.emptyRow 34
          refine node_buildSlice0 rfl rfl 37 0 rfl (empty_log _) (fun _ => hS_2.blk 3 rfl) ?_
          (simp only [Act.put, List.setIfInBounds_toArray, List.set_cons_succ, List.set_cons_zero])
          refine wpT_nodes [8, 12] (by kernel_rfl) (by decide) (fun i hi => ?_)
          simp only [List.mem_cons, List.not_mem_nil, or_false] at hi
          rcases hi with rfl | rfl
          · refine node_run (v := .slice A6 n6 c6) rfl rfl (by (have x6 := ((hS_2.blk 1 rfl).cell (24 + k)).trans (rimC_log _ vs hk); rw [E6.out] at x6; go_simp; try rfl)) (fun _ => hS_2.blk 3 rfl) ?_
            have hS_2_8 := hS_2
            (simp only [Act.put, List.setIfInBounds_toArray, List.set_cons_succ, List.set_cons_zero])
            refine wpT_nodes [9, 12] (by kernel_rfl) (by decide) (fun i hi => ?_)
            simp only [List.mem_cons, List.not_mem_nil, or_false] at hi
            rcases hi with rfl | rfl
            · refine node_app logs_elem hS_2_8 rfl rfl _ _ rfl rfl A6 n6 c6 rfl (flat (vs k).cs n6) ((HRC.out _ (hS_2_8.get 2 rfl)).sl (by omega)).1 (HRC.out _ (hS_2_8.get 2 rfl)).one_cells (by omega) (by omega) (fun A4 c4 w4 hS_2_8_9 => ⟨fun _ => hS_2_8_9.blk 3 rfl, ?_⟩)
              (simp only [Act.put, List.setIfInBounds_toArray, List.set_cons_succ, List.set_cons_zero])
              rw [Nat.zero_add, List.nil_append] at hS_2_8_9
              simp only [Nat.zero_add]
              refine wpT_nodes [12] (by kernel_rfl) (by decide) (fun i hi => ?_)
              obtain rfl := List.mem_singleton.1 hi
              · have hS_2_8_9_12 := hS_2_8_9.alloc 34 #[.slice A n c]
                refine node_buildSlice1 rfl rfl 37 1 0 _ (.slice A n c) rfl rfl (build_log _ _ _ _) (fun _ => hS_2_8_9_12.blk 4 rfl) ?_
                (simp only [Act.put, List.setIfInBounds_toArray, List.set_cons_succ, List.set_cons_zero])
                refine wpT_seq [13, 16, 17] _ _ _ (by kernel_rfl) ?_
                have hz := hS_2_8_9_12.swap
                refine seq_app logs_elem hz rfl rfl _ _ rfl rfl (some ⟨_, 0, none⟩) 1 1 rfl [.slice A n c] (sl_blk (xs := [.slice A n c]) (hz.blk 1 rfl)) (by simp [Value.oneCell']) (by omega) (by omega) (fun A5 c5 w5 h6 => ⟨fun _ => h6.blk 4 rfl, ?_⟩)
                (simp only [Act.put, List.setIfInBounds_toArray, List.set_cons_succ, List.set_cons_zero])
                have h7 := (h6.pick (L' := persR (fun w' => Ints w' .u8 (.slice A n c) data) :: rowR 34 1 (.slice A5 (n6 + 1) c5) (n6 + 1) (flat (vs k).cs n6 ++ [.slice A n c]) :: rimB g vs (upd m k ⟨token, seq, (m k).b, (m k).log⟩) :: regsR vs (upd m k ⟨token, seq, (m k).b, (m k).log⟩) :: blkR w.heap.size 51 #[.int .i64 4, .int .i64 k, .int .i64 j, .int .u64 token, .int .u32 seq, .slice A n c] :: L) 6 [5, 0, 2, 3, 4]).pers1 (R' := fun w' => LogR w' [.slice A n c] data) (fun w' hi => ⟨_, rfl, hi⟩)
                have h8 := (h7.copy 3 rfl).pers1 (R' := fun w' => RowsC w' 1 LogR (.slice A6 n6 c6) (vs k).cs (m k).log) (fun w' hi => HRC.out w' hi)
                have h9 := (h8.up2.snocC HN6.out.symm rfl (((HRC.out _ (h7.get 3 rfl)).sl (by omega)).2.2.2.2)).dn2
                obtain ⟨⟨u, hc⟩, hf⟩ := rim_there (i := 24 + k) (h9.blk 0 rfl) (by omega)
                have h10 := h9.rimLog hk
                rw [upd_upd, upd_at] at h10
                have H6 := hide h10
                have HBQ := hide (h6.blk 4 rfl)
                clear hS h6 h7 h8 h9 h10
                refine seq_read rfl rfl (by (go_simp; try rfl)) (fun _ => HBQ.out) ?_
                (simp only [Act.put, List.setIfInBounds_toArray, List.set_cons_succ, List.set_cons_zero])
                refine seq_store rfl rfl 37 _ _ (.pointer (some ⟨g, 24 + k, none⟩)) (.slice A5 (n6 + 1) c5) rfl rfl rfl (by go_simp) (fun _ => H6.out.blk 1 rfl) ?_
                clear hc hf
                have h6 := H6.out
                clear H6
                generalize w5.setCell ⟨g, 24 + k, none⟩ (.slice A5 (n6 + 1) c5) = W6 at h6 ⊢
                simp only [Act.put]
                refine seq_nil ?_
                obtain ⟨e0, e1, e2, e3, e4, e5⟩ := (h6.blk 1 rfl).six
                have H6 := hide h6
                clear h6
                go_wp2_with fail
                go_ret2
                refine ⟨.slice none 0 0, by rw [HE.out]; try rfl, ?_⟩
                rw [E1.out, E0.out, out_none _ _ _ _ _ _ _ (by decide) (by decide), act_more _ _ _ _ _ _ _ rfl]
                exact (H6.out.del1).noRows _ _
            · have hS_2_8_12 := hS_2_8.alloc 34 #[.slice A n c]
              refine node_buildSlice1 rfl rfl 37 1 0 _ (.slice A n c) rfl rfl (build_log _ _ _ _) (fun _ => hS_2_8_12.blk 4 rfl) ?_
              (simp only [Act.put, List.setIfInBounds_toArray, List.set_cons_succ, List.set_cons_zero])
              refine wpT_nodes [9] (by kernel_rfl) (by decide) (fun i hi => ?_)
              obtain rfl := List.mem_singleton.1 hi
              · have hS_2_8_12s := hS_2_8_12.swap
                refine node_app logs_elem hS_2_8_12s rfl rfl _ _ rfl rfl A6 n6 c6 rfl (flat (vs k).cs n6) ((HRC.out _ (hS_2_8_12s.get 3 rfl)).sl (by omega)).1 (HRC.out _ (hS_2_8_12s.get 3 rfl)).one_cells (by omega) (by omega) (fun A4 c4 w4 hS_2_8_12_9 => ⟨fun _ => hS_2_8_12_9.blk 4 rfl, ?_⟩)
                (simp only [Act.put, List.setIfInBounds_toArray, List.set_cons_succ, List.set_cons_zero])
                rw [Nat.zero_add, List.nil_append] at hS_2_8_12_9
                simp only [Nat.zero_add]
                refine wpT_seq [13, 16, 17] _ _ _ (by kernel_rfl) ?_
                refine seq_app logs_elem hS_2_8_12_9 rfl rfl _ _ rfl rfl (some ⟨_, 0, none⟩) 1 1 rfl [.slice A n c] (sl_blk (xs := [.slice A n c]) (hS_2_8_12_9.blk 1 rfl)) (by simp [Value.oneCell']) (by omega) (by omega) (fun A5 c5 w5 h6 => ⟨fun _ => h6.blk 4 rfl, ?_⟩)
                (simp only [Act.put, List.setIfInBounds_toArray, List.set_cons_succ, List.set_cons_zero])
                have h7 := (h6.pick (L' := persR (fun w' => Ints w' .u8 (.slice A n c) data) :: rowR 34 1 (.slice A5 (n6 + 1) c5) (n6 + 1) (flat (vs k).cs n6 ++ [.slice A n c]) :: rimB g vs (upd m k ⟨token, seq, (m k).b, (m k).log⟩) :: regsR vs (upd m k ⟨token, seq, (m k).b, (m k).log⟩) :: blkR w.heap.size 51 #[.int .i64 4, .int .i64 k, .int .i64 j, .int .u64 token, .int .u32 seq, .slice A n c] :: L) 6 [5, 0, 2, 3, 4]).pers1 (R' := fun w' => LogR w' [.slice A n c] data) (fun w' hi => ⟨_, rfl, hi⟩)
                have h8 := (h7.copy 3 rfl).pers1 (R' := fun w' => RowsC w' 1 LogR (.slice A6 n6 c6) (vs k).cs (m k).log) (fun w' hi => HRC.out w' hi)
                have h9 := (h8.up2.snocC HN6.out.symm rfl (((HRC.out _ (h7.get 3 rfl)).sl (by omega)).2.2.2.2)).dn2
                obtain ⟨⟨u, hc⟩, hf⟩ := rim_there (i := 24 + k) (h9.blk 0 rfl) (by omega)
                have h10 := h9.rimLog hk
                rw [upd_upd, upd_at] at h10
                have H6 := hide h10
                have HBQ := hide (h6.blk 4 rfl)
                clear hS h6 h7 h8 h9 h10
                refine seq_read rfl rfl (by (go_simp; try rfl)) (fun _ => HBQ.out) ?_
                (simp only [Act.put, List.setIfInBounds_toArray, List.set_cons_succ, List.set_cons_zero])
                refine seq_store rfl rfl 37 _ _ (.pointer (some ⟨g, 24 + k, none⟩)) (.slice A5 (n6 + 1) c5) rfl rfl rfl (by go_simp) (fun _ => H6.out.blk 1 rfl) ?_
                clear hc hf
                have h6 := H6.out
                clear H6
                generalize w5.setCell ⟨g, 24 + k, none⟩ (.slice A5 (n6 + 1) c5) = W6 at h6 ⊢
                simp only [Act.put]
                refine seq_nil ?_
                obtain ⟨e0, e1, e2, e3, e4, e5⟩ := (h6.blk 1 rfl).six
                have H6 := hide h6
                clear h6
                go_wp2_with fail
                go_ret2
                refine ⟨.slice none 0 0, by rw [HE.out]; try rfl, ?_⟩
                rw [E1.out, E0.out, out_none _ _ _ _ _ _ _ (by decide) (by decide), act_more _ _ _ _ _ _ _ rfl]
                exact (H6.out.del1).noRows _ _
          · have hS_2_12 := hS_2.alloc 34 #[.slice A n c]
            refine node_buildSlice1 rfl rfl 37 1 0 _ (.slice A n c) rfl rfl (build_log _ _ _ _) (fun _ => hS_2_12.blk 4 rfl) ?_
            (simp only [Act.put, List.setIfInBounds_toArray, List.set_cons_succ, List.set_cons_zero])
            refine wpT_nodes [8] (by kernel_rfl) (by decide) (fun i hi => ?_)
            obtain rfl := List.mem_singleton.1 hi
            · refine node_run (v := .slice A6 n6 c6) rfl rfl (by (have x6 := ((hS_2_12.blk 2 rfl).cell (24 + k)).trans (rimC_log _ vs hk); rw [E6.out] at x6; go_simp; try rfl)) (fun _ => hS_2_12.blk 4 rfl) ?_
              have hS_2_12_8 := hS_2_12
              (simp only [Act.put, List.setIfInBounds_toArray, List.set_cons_succ, List.set_cons_zero])
              refine wpT_nodes [9] (by kernel_rfl) (by decide) (fun i hi => ?_)
              obtain rfl := List.mem_singleton.1 hi
              · have hS_2_12_8s := hS_2_12_8.swap
                refine node_app logs_elem hS_2_12_8s rfl rfl _ _ rfl rfl A6 n6 c6 rfl (flat (vs k).cs n6) ((HRC.out _ (hS_2_12_8s.get 3 rfl)).sl (by omega)).1 (HRC.out _ (hS_2_12_8s.get 3 rfl)).one_cells (by omega) (by omega) (fun A4 c4 w4 hS_2_12_8_9 => ⟨fun _ => hS_2_12_8_9.blk 4 rfl, ?_⟩)
                (simp only [Act.put, List.setIfInBounds_toArray, List.set_cons_succ, List.set_cons_zero])
                rw [Nat.zero_add, List.nil_append] at hS_2_12_8_9
                simp only [Nat.zero_add]
                refine wpT_seq [13, 16, 17] _ _ _ (by kernel_rfl) ?_
                refine seq_app logs_elem hS_2_12_8_9 rfl rfl _ _ rfl rfl (some ⟨_, 0, none⟩) 1 1 rfl [.slice A n c] (sl_blk (xs := [.slice A n c]) (hS_2_12_8_9.blk 1 rfl)) (by simp [Value.oneCell']) (by omega) (by omega) (fun A5 c5 w5 h6 => ⟨fun _ => h6.blk 4 rfl, ?_⟩)
                (simp only [Act.put, List.setIfInBounds_toArray, List.set_cons_succ, List.set_cons_zero])
                have h7 := (h6.pick (L' := persR (fun w' => Ints w' .u8 (.slice A n c) data) :: rowR 34 1 (.slice A5 (n6 + 1) c5) (n6 + 1) (flat (vs k).cs n6 ++ [.slice A n c]) :: rimB g vs (upd m k ⟨token, seq, (m k).b, (m k).log⟩) :: regsR vs (upd m k ⟨token, seq, (m k).b, (m k).log⟩) :: blkR w.heap.size 51 #[.int .i64 4, .int .i64 k, .int .i64 j, .int .u64 token, .int .u32 seq, .slice A n c] :: L) 6 [5, 0, 2, 3, 4]).pers1 (R' := fun w' => LogR w' [.slice A n c] data) (fun w' hi => ⟨_, rfl, hi⟩)
                have h8 := (h7.copy 3 rfl).pers1 (R' := fun w' => RowsC w' 1 LogR (.slice A6 n6 c6) (vs k).cs (m k).log) (fun w' hi => HRC.out w' hi)
                have h9 := (h8.up2.snocC HN6.out.symm rfl (((HRC.out _ (h7.get 3 rfl)).sl (by omega)).2.2.2.2)).dn2
                obtain ⟨⟨u, hc⟩, hf⟩ := rim_there (i := 24 + k) (h9.blk 0 rfl) (by omega)
                have h10 := h9.rimLog hk
                rw [upd_upd, upd_at] at h10
                have H6 := hide h10
                have HBQ := hide (h6.blk 4 rfl)
                clear hS h6 h7 h8 h9 h10
                refine seq_read rfl rfl (by (go_simp; try rfl)) (fun _ => HBQ.out) ?_
                (simp only [Act.put, List.setIfInBounds_toArray, List.set_cons_succ, List.set_cons_zero])
                refine seq_store rfl rfl 37 _ _ (.pointer (some ⟨g, 24 + k, none⟩)) (.slice A5 (n6 + 1) c5) rfl rfl rfl (by go_simp) (fun _ => H6.out.blk 1 rfl) ?_
                clear hc hf
                have h6 := H6.out
                clear H6
                generalize w5.setCell ⟨g, 24 + k, none⟩ (.slice A5 (n6 + 1) c5) = W6 at h6 ⊢
                simp only [Act.put]
                refine seq_nil ?_
                obtain ⟨e0, e1, e2, e3, e4, e5⟩ := (h6.blk 1 rfl).six
                have H6 := hide h6
                clear h6
                go_wp2_with fail
                go_ret2
                refine ⟨.slice none 0 0, by rw [HE.out]; try rfl, ?_⟩
                rw [E1.out, E0.out, out_none _ _ _ _ _ _ _ (by decide) (by decide), act_more _ _ _ _ _ _ _ rfl]
                exact (H6.out.del1).noRows _ _
        · refine node_run (v := .slice A6 n6 c6) rfl rfl (by (have x6 := ((hS.blk 0 rfl).cell (24 + k)).trans (rimC_log _ vs hk); rw [E6.out] at x6; go_simp; try rfl)) (fun _ => hS.blk 2 rfl) ?_
          have hS_8 := hS
          (simp only [Act.put, List.setIfInBounds_toArray, List.set_cons_succ, List.set_cons_zero])
          refine wpT_nodes [2, 12] (by kernel_rfl) (by decide) (fun i hi => ?_)
          simp only [List.mem_cons, List.not_mem_nil, or_false] at hi
          rcases hi with rfl | rfl
          · have hS_8_2 := hS_8.emptyRow 34
            refine node_buildSlice0 rfl rfl 37 0 rfl (empty_log _) (fun _ => hS_8_2.blk 3 rfl) ?_
            (simp only [Act.put, List.setIfInBounds_toArray, List.set_cons_succ, List.set_cons_zero])
            refine wpT_nodes [9, 12] (by kernel_rfl) (by decide) (fun i hi => ?_)
            simp only [List.mem_cons, List.not_mem_nil, or_false] at hi
            rcases hi with rfl | rfl
            · refine node_app logs_elem hS_8_2 rfl rfl _ _ rfl rfl A6 n6 c6 rfl (flat (vs k).cs n6) ((HRC.out _ (hS_8_2.get 2 rfl)).sl (by omega)).1 (HRC.out _ (hS_8_2.get 2 rfl)).one_cells (by omega) (by omega) (fun A4 c4 w4 hS_8_2_9 => ⟨fun _ => hS_8_2_9.blk 3 rfl, ?_⟩)
              (simp only [Act.put, List.setIfInBounds_toArray, List.set_cons_succ, List.set_cons_zero])
              rw [Nat.zero_add, List.nil_append] at hS_8_2_9
              simp only [Nat.zero_add]
              refine wpT_nodes [12] (by kernel_rfl) (by decide) (fun i hi => ?_)
              obtain rfl := List.mem_singleton.1 hi
              · have hS_8_2_9_12 := hS_8_2_9.alloc 34 #[.slice A n c]
                refine node_buildSlice1 rfl rfl 37 1 0 _ (.slice A n c) rfl rfl (build_log _ _ _ _) (fun _ => hS_8_2_9_12.blk 4 rfl) ?_
                (simp only [Act.put, List.setIfInBounds_toArray, List.set_cons_succ, List.set_cons_zero])
                refine wpT_seq [13, 16, 17] _ _ _ (by kernel_rfl) ?_
                have hz := hS_8_2_9_12.swap
                refine seq_app logs_elem hz rfl rfl _ _ rfl rfl (some ⟨_, 0, none⟩) 1 1 rfl [.slice A n c] (sl_blk (xs := [.slice A n c]) (hz.blk 1 rfl)) (by simp [Value.oneCell']) (by omega) (by omega) (fun A5 c5 w5 h6 => ⟨fun _ => h6.blk 4 rfl, ?_⟩)
                (simp only [Act.put, List.setIfInBounds_toArray, List.set_cons_succ, List.set_cons_zero])
                have h7 := (h6.pick (L' := persR (fun w' => Ints w' .u8 (.slice A n c) data) :: rowR 34 1 (.slice A5 (n6 + 1) c5) (n6 + 1) (flat (vs k).cs n6 ++ [.slice A n c]) :: rimB g vs (upd m k ⟨token, seq, (m k).b, (m k).log⟩) :: regsR vs (upd m k ⟨token, seq, (m k).b, (m k).log⟩) :: blkR w.heap.size 51 #[.int .i64 4, .int .i64 k, .int .i64 j, .int .u64 token, .int .u32 seq, .slice A n c] :: L) 6 [5, 0, 2, 3, 4]).pers1 (R' := fun w' => LogR w' [.slice A n c] data) (fun w' hi => ⟨_, rfl, hi⟩)
                have h8 := (h7.copy 3 rfl).pers1 (R' := fun w' => RowsC w' 1 LogR (.slice A6 n6 c6) (vs k).cs (m k).log) (fun w' hi => HRC.out w' hi)
                have h9 := (h8.up2.snocC HN6.out.symm rfl (((HRC.out _ (h7.get 3 rfl)).sl (by omega)).2.2.2.2)).dn2
                obtain ⟨⟨u, hc⟩, hf⟩ := rim_there (i := 24 + k) (h9.blk 0 rfl) (by omega)
                have h10 := h9.rimLog hk
                rw [upd_upd, upd_at] at h10
                have H6 := hide h10
                have HBQ := hide (h6.blk 4 rfl)
                clear hS h6 h7 h8 h9 h10
                refine seq_read rfl rfl (by (go_simp; try rfl)) (fun _ => HBQ.out) ?_
                (simp only [Act.put, List.setIfInBounds_toArray, List.set_cons_succ, List.set_cons_zero])
                refine seq_store rfl rfl 37 _ _ (.pointer (some ⟨g, 24 + k, none⟩)) (.slice A5 (n6 + 1) c5) rfl rfl rfl (by go_simp) (fun _ => H6.out.blk 1 rfl) ?_
                clear hc hf
                have h6 := H6.out
                clear H6
                generalize w5.setCell ⟨g, 24 + k, none⟩ (.slice A5 (n6 + 1) c5) = W6 at h6 ⊢
                simp only [Act.put]
                refine seq_nil ?_
                obtain ⟨e0, e1, e2, e3, e4, e5⟩ := (h6.blk 1 rfl).six
                have H6 := hide h6
                clear h6
                go_wp2_with fail
                go_ret2
                refine ⟨.slice none 0 0, by rw [HE.out]; try rfl, ?_⟩
                rw [E1.out, E0.out, out_none _ _ _ _ _ _ _ (by decide) (by decide), act_more _ _ _ _ _ _ _ rfl]
                exact (H6.out.del1).noRows _ _
            · have hS_8_2_12 := hS_8_2.alloc 34 #[.slice A n c]
              refine node_buildSlice1 rfl rfl 37 1 0 _ (.slice A n c) rfl rfl (build_log _ _ _ _) (fun _ => hS_8_2_12.blk 4 rfl) ?_
              (simp only [Act.put, List.setIfInBounds_toArray, List.set_cons_succ, List.set_cons_zero])
              refine wpT_nodes [9] (by kernel_rfl) (by decide) (fun i hi => ?_)
              obtain rfl := List.mem_singleton.1 hi
              · have hS_8_2_12s := hS_8_2_12.swap
                refine node_app logs_elem hS_8_2_12s rfl rfl _ _ rfl rfl A6 n6 c6 rfl (flat (vs k).cs n6) ((HRC.out _ (hS_8_2_12s.get 3 rfl)).sl (by omega)).1 (HRC.out _ (hS_8_2_12s.get 3 rfl)).one_cells (by omega) (by omega) (fun A4 c4 w4 hS_8_2_12_9 => ⟨fun _ => hS_8_2_12_9.blk 4 rfl, ?_⟩)
                (simp only [Act.put, List.setIfInBounds_toArray, List.set_cons_succ, List.set_cons_zero])
                rw [Nat.zero_add, List.nil_append] at hS_8_2_12_9
                simp only [Nat.zero_add]
                refine wpT_seq [13, 16, 17] _ _ _ (by kernel_rfl) ?_
                refine seq_app logs_elem hS_8_2_12_9 rfl rfl _ _ rfl rfl (some ⟨_, 0, none⟩) 1 1 rfl [.slice A n c] (sl_blk (xs := [.slice A n c]) (hS_8_2_12_9.blk 1 rfl)) (by simp [Value.oneCell']) (by omega) (by omega) (fun A5 c5 w5 h6 => ⟨fun _ => h6.blk 4 rfl, ?_⟩)
                (simp only [Act.put, List.setIfInBounds_toArray, List.set_cons_succ, List.set_cons_zero])
                have h7 := (h6.pick (L' := persR (fun w' => Ints w' .u8 (.slice A n c) data) :: rowR 34 1 (.slice A5 (n6 + 1) c5) (n6 + 1) (flat (vs k).cs n6 ++ [.slice A n c]) :: rimB g vs (upd m k ⟨token, seq, (m k).b, (m k).log⟩) :: regsR vs (upd m k ⟨token, seq, (m k).b, (m k).log⟩) :: blkR w.heap.size 51 #[.int .i64 4, .int .i64 k, .int .i64 j, .int .u64 token, .int .u32 seq, .slice A n c] :: L) 6 [5, 0, 2, 3, 4]).pers1 (R' := fun w' => LogR w' [.slice A n c] data) (fun w' hi => ⟨_, rfl, hi⟩)
                have h8 := (h7.copy 3 rfl).pers1 (R' := fun w' => RowsC w' 1 LogR (.slice A6 n6 c6) (vs k).cs (m k).log) (fun w' hi => HRC.out w' hi)
                have h9 := (h8.up2.snocC HN6.out.symm rfl (((HRC.out _ (h7.get 3 rfl)).sl (by omega)).2.2.2.2)).dn2
                obtain ⟨⟨u, hc⟩, hf⟩ := rim_there (i := 24 + k) (h9.blk 0 rfl) (by omega)
                have h10 := h9.rimLog hk
                rw [upd_upd, upd_at] at h10
                have H6 := hide h10
                have HBQ := hide (h6.blk 4 rfl)
                clear hS h6 h7 h8 h9 h10
                refine seq_read rfl rfl (by (go_simp; try rfl)) (fun _ => HBQ.out) ?_
                (simp only [Act.put, List.setIfInBounds_toArray, List.set_cons_succ, List.set_cons_zero])
                refine seq_store rfl rfl 37 _ _ (.pointer (some ⟨g, 24 + k, none⟩)) (.slice A5 (n6 + 1) c5) rfl rfl rfl (by go_simp) (fun _ => H6.out.blk 1 rfl) ?_
                clear hc hf
                have h6 := H6.out
                clear H6
                generalize w5.setCell ⟨g, 24 + k, none⟩ (.slice A5 (n6 + 1) c5) = W6 at h6 ⊢
                simp only [Act.put]
                refine seq_nil ?_
                obtain ⟨e0, e1, e2, e3, e4, e5⟩ := (h6.blk 1 rfl).six
                have H6 := hide h6
                clear h6
                go_wp2_with fail
                go_ret2
                refine ⟨.slice none 0 0, by rw [HE.out]; try rfl, ?_⟩
                rw [E1.out, E0.out, out_none _ _ _ _ _ _ _ (by decide) (by decide), act_more _ _ _ _ _ _ _ rfl]
                exact (H6.out.del1).noRows _ _
          · have hS_8_12 := hS_8.alloc 34 #[.slice A n c]
            refine node_buildSlice1 rfl rfl 37 1 0 _ (.slice A n c) rfl rfl (build_log _ _ _ _) (fun _ => hS_8_12.blk 3 rfl) ?_
            (simp only [Act.put, List.setIfInBounds_toArray, List.set_cons_succ, List.set_cons_zero])
            refine wpT_nodes [2] (by kernel_rfl) (by decide) (fun i hi => ?_)
            obtain rfl := List.mem_singleton.1 hi
            · have hS_8_12_2 := hS_8_12.emptyRow 34
              refine node_buildSlice0 rfl rfl 37 0 rfl (empty_log _) (fun _ => hS_8_12_2.blk 4 rfl) ?_
              (simp only [Act.put, List.setIfInBounds_toArray, List.set_cons_succ, List.set_cons_zero])
              refine wpT_nodes [9] (by kernel_rfl) (by decide) (fun i hi => ?_)
              obtain rfl := List.mem_singleton.1 hi
              · refine node_app logs_elem hS_8_12_2 rfl rfl _ _ rfl rfl A6 n6 c6 rfl (flat (vs k).cs n6) ((HRC.out _ (hS_8_12_2.get 3 rfl)).sl (by omega)).1 (HRC.out _ (hS_8_12_2.get 3 rfl)).one_cells (by omega) (by omega) (fun A4 c4 w4 hS_8_12_2_9 => ⟨fun _ => hS_8_12_2_9.blk 4 rfl, ?_⟩)
                (simp only [Act.put, List.setIfInBounds_toArray, List.set_cons_succ, List.set_cons_zero])
                rw [Nat.zero_add, List.nil_append] at hS_8_12_2_9
                simp only [Nat.zero_add]
                refine wpT_seq [13, 16, 17] _ _ _ (by kernel_rfl) ?_
                refine seq_app logs_elem hS_8_12_2_9 rfl rfl _ _ rfl rfl (some ⟨_, 0, none⟩) 1 1 rfl [.slice A n c] (sl_blk (xs := [.slice A n c]) (hS_8_12_2_9.blk 1 rfl)) (by simp [Value.oneCell']) (by omega) (by omega) (fun A5 c5 w5 h6 => ⟨fun _ => h6.blk 4 rfl, ?_⟩)
                (simp only [Act.put, List.setIfInBounds_toArray, List.set_cons_succ, List.set_cons_zero])
                have h7 := (h6.pick (L' := persR (fun w' => Ints w' .u8 (.slice A n c) data) :: rowR 34 1 (.slice A5 (n6 + 1) c5) (n6 + 1) (flat (vs k).cs n6 ++ [.slice A n c]) :: rimB g vs (upd m k ⟨token, seq, (m k).b, (m k).log⟩) :: regsR vs (upd m k ⟨token, seq, (m k).b, (m k).log⟩) :: blkR w.heap.size 51 #[.int .i64 4, .int .i64 k, .int .i64 j, .int .u64 token, .int .u32 seq, .slice A n c] :: L) 6 [5, 0, 2, 3, 4]).pers1 (R' := fun w' => LogR w' [.slice A n c] data) (fun w' hi => ⟨_, rfl, hi⟩)
                have h8 := (h7.copy 3 rfl).pers1 (R' := fun w' => RowsC w' 1 LogR (.slice A6 n6 c6) (vs k).cs (m k).log) (fun w' hi => HRC.out w' hi)
                have h9 := (h8.up2.snocC HN6.out.symm rfl (((HRC.out _ (h7.get 3 rfl)).sl (by omega)).2.2.2.2)).dn2
                obtain ⟨⟨u, hc⟩, hf⟩ := rim_there (i := 24 + k) (h9.blk 0 rfl) (by omega)
                have h10 := h9.rimLog hk
                rw [upd_upd, upd_at] at h10
                have H6 := hide h10
                have HBQ := hide (h6.blk 4 rfl)
                clear hS h6 h7 h8 h9 h10
                refine seq_read rfl rfl (by (go_simp; try rfl)) (fun _ => HBQ.out) ?_
                (simp only [Act.put, List.setIfInBounds_toArray, List.set_cons_succ, List.set_cons_zero])
                refine seq_store rfl rfl 37 _ _ (.pointer (some ⟨g, 24 + k, none⟩)) (.slice A5 (n6 + 1) c5) rfl rfl rfl (by go_simp) (fun _ => H6.out.blk 1 rfl) ?_
                clear hc hf
                have h6 := H6.out
                clear H6
                generalize w5.setCell ⟨g, 24 + k, none⟩ (.slice A5 (n6 + 1) c5) = W6 at h6 ⊢
                simp only [Act.put]
                refine seq_nil ?_
                obtain ⟨e0, e1, e2, e3, e4, e5⟩ := (h6.blk 1 rfl).six
                have H6 := hide h6
                clear h6
                go_wp2_with fail
                go_ret2
                refine ⟨.slice none 0 0, by rw [HE.out]; try rfl, ?_⟩
                rw [E1.out, E0.out, out_none _ _ _ _ _ _ _ (by decide) (by decide), act_more _ _ _ _ _ _ _ rfl]
                exact (H6.out.del1).noRows _ _
        · have hS_12 := hS.alloc 34 #[.slice A n c]
          refine node_buildSlice1 rfl rfl 37 1 0 _ (.slice A n c) rfl rfl (build_log _ _ _ _) (fun _ => hS_12.blk 3 rfl) ?_
          (simp only [Act.put, List.setIfInBounds_toArray, List.set_cons_succ, List.set_cons_zero])
          refine wpT_nodes [2, 8] (by kernel_rfl) (by decide) (fun i hi => ?_)
          simp only [List.mem_cons, List.not_mem_nil, or_false] at hi
          rcases hi with rfl | rfl
          · have hS_12_2 := hS_12.emptyRow 34
            refine node_buildSlice0 rfl rfl 37 0 rfl (empty_log _) (fun _ => hS_12_2.blk 4 rfl) ?_
            (simp only [Act.put, List.setIfInBounds_toArray, List.set_cons_succ, List.set_cons_zero])
            refine wpT_nodes [8] (by kernel_rfl) (by decide) (fun i hi => ?_)
            obtain rfl := List.mem_singleton.1 hi
            · refine node_run (v := .slice A6 n6 c6) rfl rfl (by (have x6 := ((hS_12_2.blk 2 rfl).cell (24 + k)).trans (rimC_log _ vs hk); rw [E6.out] at x6; go_simp; try rfl)) (fun _ => hS_12_2.blk 4 rfl) ?_
              have hS_12_2_8 := hS_12_2
              (simp only [Act.put, List.setIfInBounds_toArray, List.set_cons_succ, List.set_cons_zero])
              refine wpT_nodes [9] (by kernel_rfl) (by decide) (fun i hi => ?_)
              obtain rfl := List.mem_singleton.1 hi
              · refine node_app logs_elem hS_12_2_8 rfl rfl _ _ rfl rfl A6 n6 c6 rfl (flat (vs k).cs n6) ((HRC.out _ (hS_12_2_8.get 3 rfl)).sl (by omega)).1 (HRC.out _ (hS_12_2_8.get 3 rfl)).one_cells (by omega) (by omega) (fun A4 c4 w4 hS_12_2_8_9 => ⟨fun _ => hS_12_2_8_9.blk 4 rfl, ?_⟩)
                (simp only [Act.put, List.setIfInBounds_toArray, List.set_cons_succ, List.set_cons_zero])
                rw [Nat.zero_add, List.nil_append] at hS_12_2_8_9
                simp only [Nat.zero_add]
                refine wpT_seq [13, 16, 17] _ _ _ (by kernel_rfl) ?_
                refine seq_app logs_elem hS_12_2_8_9 rfl rfl _ _ rfl rfl (some ⟨_, 0, none⟩) 1 1 rfl [.slice A n c] (sl_blk (xs := [.slice A n c]) (hS_12_2_8_9.blk 1 rfl)) (by simp [Value.oneCell']) (by omega) (by omega) (fun A5 c5 w5 h6 => ⟨fun _ => h6.blk 4 rfl, ?_⟩)
                (simp only [Act.put, List.setIfInBounds_toArray, List.set_cons_succ, List.set_cons_zero])
                have h7 := (h6.pick (L' := persR (fun w' => Ints w' .u8 (.slice A n c) data) :: rowR 34 1 (.slice A5 (n6 + 1) c5) (n6 + 1) (flat (vs k).cs n6 ++ [.slice A n c]) :: rimB g vs (upd m k ⟨token, seq, (m k).b, (m k).log⟩) :: regsR vs (upd m k ⟨token, seq, (m k).b, (m k).log⟩) :: blkR w.heap.size 51 #[.int .i64 4, .int .i64 k, .int .i64 j, .int .u64 token, .int .u32 seq, .slice A n c] :: L) 6 [5, 0, 2, 3, 4]).pers1 (R' := fun w' => LogR w' [.slice A n c] data) (fun w' hi => ⟨_, rfl, hi⟩)
                have h8 := (h7.copy 3 rfl).pers1 (R' := fun w' => RowsC w' 1 LogR (.slice A6 n6 c6) (vs k).cs (m k).log) (fun w' hi => HRC.out w' hi)
                have h9 := (h8.up2.snocC HN6.out.symm rfl (((HRC.out _ (h7.get 3 rfl)).sl (by omega)).2.2.2.2)).dn2
                obtain ⟨⟨u, hc⟩, hf⟩ := rim_there (i := 24 + k) (h9.blk 0 rfl) (by omega)
                have h10 := h9.rimLog hk
                rw [upd_upd, upd_at] at h10
                have H6 := hide h10
                have HBQ := hide (h6.blk 4 rfl)
                clear hS h6 h7 h8 h9 h10
                refine seq_read rfl rfl (by (go_simp; try rfl)) (fun _ => HBQ.out) ?_
                (simp only [Act.put, List.setIfInBounds_toArray, List.set_cons_succ, List.set_cons_zero])
                refine seq_store rfl rfl 37 _ _ (.pointer (some ⟨g, 24 + k, none⟩)) (.slice A5 (n6 + 1) c5) rfl rfl rfl (by go_simp) (fun _ => H6.out.blk 1 rfl) ?_
                clear hc hf
                have h6 := H6.out
                clear H6
                generalize w5.setCell ⟨g, 24 + k, none⟩ (.slice A5 (n6 + 1) c5) = W6 at h6 ⊢
                simp only [Act.put]
                refine seq_nil ?_
                obtain ⟨e0, e1, e2, e3, e4, e5⟩ := (h6.blk 1 rfl).six
                have H6 := hide h6
                clear h6
                go_wp2_with fail
                go_ret2
                refine ⟨.slice none 0 0, by rw [HE.out]; try rfl, ?_⟩
                rw [E1.out, E0.out, out_none _ _ _ _ _ _ _ (by decide) (by decide), act_more _ _ _ _ _ _ _ rfl]
                exact (H6.out.del1).noRows _ _
          · refine node_run (v := .slice A6 n6 c6) rfl rfl (by (have x6 := ((hS_12.blk 1 rfl).cell (24 + k)).trans (rimC_log _ vs hk); rw [E6.out] at x6; go_simp; try rfl)) (fun _ => hS_12.blk 3 rfl) ?_
            have hS_12_8 := hS_12
            (simp only [Act.put, List.setIfInBounds_toArray, List.set_cons_succ, List.set_cons_zero])
            refine wpT_nodes [2] (by kernel_rfl) (by decide) (fun i hi => ?_)
            obtain rfl := List.mem_singleton.1 hi
            · have hS_12_8_2 := hS_12_8.emptyRow 34
              refine node_buildSlice0 rfl rfl 37 0 rfl (empty_log _) (fun _ => hS_12_8_2.blk 4 rfl) ?_
              (simp only [Act.put, List.setIfInBounds_toArray, List.set_cons_succ, List.set_cons_zero])
              refine wpT_nodes [9] (by kernel_rfl) (by decide) (fun i hi => ?_)
              obtain rfl := List.mem_singleton.1 hi
              · refine node_app logs_elem hS_12_8_2 rfl rfl _ _ rfl rfl A6 n6 c6 rfl (flat (vs k).cs n6) ((HRC.out _ (hS_12_8_2.get 3 rfl)).sl (by omega)).1 (HRC.out _ (hS_12_8_2.get 3 rfl)).one_cells (by omega) (by omega) (fun A4 c4 w4 hS_12_8_2_9 => ⟨fun _ => hS_12_8_2_9.blk 4 rfl, ?_⟩)
                (simp only [Act.put, List.setIfInBounds_toArray, List.set_cons_succ, List.set_cons_zero])
                rw [Nat.zero_add, List.nil_append] at hS_12_8_2_9
                simp only [Nat.zero_add]
                refine wpT_seq [13, 16, 17] _ _ _ (by kernel_rfl) ?_
                refine seq_app logs_elem hS_12_8_2_9 rfl rfl _ _ rfl rfl (some ⟨_, 0, none⟩) 1 1 rfl [.slice A n c] (sl_blk (xs := [.slice A n c]) (hS_12_8_2_9.blk 1 rfl)) (by simp [Value.oneCell']) (by omega) (by omega) (fun A5 c5 w5 h6 => ⟨fun _ => h6.blk 4 rfl, ?_⟩)
                (simp only [Act.put, List.setIfInBounds_toArray, List.set_cons_succ, List.set_cons_zero])
                have h7 := (h6.pick (L' := persR (fun w' => Ints w' .u8 (.slice A n c) data) :: rowR 34 1 (.slice A5 (n6 + 1) c5) (n6 + 1) (flat (vs k).cs n6 ++ [.slice A n c]) :: rimB g vs (upd m k ⟨token, seq, (m k).b, (m k).log⟩) :: regsR vs (upd m k ⟨token, seq, (m k).b, (m k).log⟩) :: blkR w.heap.size 51 #[.int .i64 4, .int .i64 k, .int .i64 j, .int .u64 token, .int .u32 seq, .slice A n c] :: L) 6 [5, 0, 2, 3, 4]).pers1 (R' := fun w' => LogR w' [.slice A n c] data) (fun w' hi => ⟨_, rfl, hi⟩)
                have h8 := (h7.copy 3 rfl).pers1 (R' := fun w' => RowsC w' 1 LogR (.slice A6 n6 c6) (vs k).cs (m k).log) (fun w' hi => HRC.out w' hi)
                have h9 := (h8.up2.snocC HN6.out.symm rfl (((HRC.out _ (h7.get 3 rfl)).sl (by omega)).2.2.2.2)).dn2
                obtain ⟨⟨u, hc⟩, hf⟩ := rim_there (i := 24 + k) (h9.blk 0 rfl) (by omega)
                have h10 := h9.rimLog hk
                rw [upd_upd, upd_at] at h10
                have H6 := hide h10
                have HBQ := hide (h6.blk 4 rfl)
                clear hS h6 h7 h8 h9 h10
                refine seq_read rfl rfl (by (go_simp; try rfl)) (fun _ => HBQ.out) ?_
                (simp only [Act.put, List.setIfInBounds_toArray, List.set_cons_succ, List.set_cons_zero])
                refine seq_store rfl rfl 37 _ _ (.pointer (some ⟨g, 24 + k, none⟩)) (.slice A5 (n6 + 1) c5) rfl rfl rfl (by go_simp) (fun _ => H6.out.blk 1 rfl) ?_
                clear hc hf
                have h6 := H6.out
                clear H6
                generalize w5.setCell ⟨g, 24 + k, none⟩ (.slice A5 (n6 + 1) c5) = W6 at h6 ⊢
                simp only [Act.put]
                refine seq_nil ?_
                obtain ⟨e0, e1, e2, e3, e4, e5⟩ := (h6.blk 1 rfl).six
                have H6 := hide h6
                clear h6
                go_wp2_with fail
                go_ret2
                refine ⟨.slice none 0 0, by rw [HE.out]; try rfl, ?_⟩
                rw [E1.out, E0.out, out_none _ _ _ _ _ _ _ (by decide) (by decide), act_more _ _ _ _ _ _ _ rfl]
                exact (H6.out.del1).noRows _ _
      · have hj5 : j ≤ (m k).log.length := by have := hl5 rfl; omega
        obtain ⟨A6, n6, c6, e6, hn6, hc6, hm6⟩ : ∃ A6 n6 c6, (vs k).log = .slice A6 n6 c6 ∧ n6 = (m k).log.length ∧ n6 ≤ c6 ∧ c6 ≤ 9223372036854775807 := by
          obtain ⟨A6, c6, e6, h1, h2, _⟩ := ((H3.out.get 1 rfl) k hk).log
          rw [upd_at] at e6 h1
          exact ⟨A6, _, c6, e6, rfl, h1, h2⟩
        have E6 := hide e6
        have HN6 := hide hn6
        have j0 : (0 : Int) ≤ (j : Int) := by omega
        have j1 : (j : Int) ≤ (n6 : Int) := by omega
        have j2 : (n6 : Int) ≤ (c6 : Int) := by omega
        clear e6 hn6
        go_wp2_with fail
        refine region_mix (fun W => Blk W w.heap.size 51 #[.int .i64 5, .int .i64 k, .int .i64 j, .int .u64 token, .int .u32 seq, .slice A n c]) 15 [0, 1, 2, 3, 4, 5, 6, 8, 9, 11, 12] [7, 10, 13, 14] (by kernel_rfl) (by kernel_rfl)
          (fun d => by cases d <;> exact fun _ _ _ _ h => h) (fun W hW => ?_)
        have hS := hide ((H3.out.grow (show Fr Non W3 W by rw [hW]; exact (Fr.refl _ _).drew)).pick (L' := rimB g vs (upd m k ⟨token, seq, (m k).b, (m k).log⟩) :: regsR vs (upd m k ⟨token, seq, (m k).b, (m k).log⟩) :: blkR w.heap.size 51 #[.int .i64 5, .int .i64 k, .int .i64 j, .int .u64 token, .int .u32 seq, .slice A n c] :: L) 4 [0, 1, 2])
        clear hW e0 e1 e2 e3 e4 e5 H3
        refine ⟨hS.out.blk 2 rfl, ?_⟩
        iterate 11 (refine take_run rfl rfl (fun W hW => by (obtain ⟨e0, e1, e2, e3, e4, e5⟩ := hW.six; clear hW; go_simp; try rfl)) ?_; (simp only [Act.put, List.setIfInBounds_toArray, List.set_cons_succ, List.set_cons_zero]))
        refine take_nil ?_
        have x6 := ((hS.out.blk 0 rfl).cell (24 + k)).trans (rimC_log _ vs hk)
        rw [E6.out] at x6
        have HBQ := hide (hS.out.blk 2 rfl)
        have hA : j < n6 → (if c6 = j then A6 else A6.map (fun x => x.add j)) = A6.map (·.add (j * 1)) := fun hlt => by rw [if_neg (by omega), Nat.mul_one]
        have h7 := (hS.out.copy 1 rfl).pers1 (R' := fun w' => RowsC w' 1 LogR (.slice (if c6 = j then A6 else A6.map (fun x => x.add j)) (n6 - j) (c6 - j)) (fun i => (vs k).cs (i + j)) ((m k).log.drop j)) (fun w' hi => by
          have hr := (hi k hk).log
          rw [upd_at, E6.out] at hr
          exact hr.dropC (by have := HN6.out; omega) hA)
        obtain ⟨⟨u, hc⟩, hf⟩ := rim_there (i := 24 + k) (h7.blk 1 rfl) (by omega)
        have h8 := h7.dn2.rimLog hk
        rw [upd_upd, upd_at] at h8
        have H6 := hide h8
        clear hS h7 h8 hA
        refine seq_read rfl rfl (by (go_simp; try rfl)) (fun _ => HBQ.out) ?_
        (simp only [Act.put, List.setIfInBounds_toArray, List.set_cons_succ, List.set_cons_zero])
        refine seq_read rfl rfl (by (go_simp; try rfl)) (fun _ => HBQ.out) ?_
        (simp only [Act.put, List.setIfInBounds_toArray, List.set_cons_succ, List.set_cons_zero])
        refine seq_read rfl rfl (by (go_simp; try rfl)) (fun _ => HBQ.out) ?_
        (simp only [Act.put, List.setIfInBounds_toArray, List.set_cons_succ, List.set_cons_zero])
        generalize (if c6 = j then A6 else A6.map (fun x => x.add j)) = A7 at H6 ⊢
        refine seq_store rfl rfl 37 _ _ (.pointer (some ⟨g, 24 + k, none⟩)) (.slice A7 (n6 - j) (c6 - j)) rfl rfl rfl (by go_simp) (fun _ => H6.out.blk 1 rfl) ?_
        have h6 := H6.out
        clear hc hf H6
        generalize W.setCell ⟨g, 24 + k, none⟩ (.slice A7 (n6 - j) (c6 - j)) = W6 at h6 ⊢
        simp only [Act.put]
        refine seq_nil ?_
        obtain ⟨e0, e1, e2, e3, e4, e5⟩ := (h6.blk 1 rfl).six
        have H6 := hide h6
        clear h6
        go_wp2_with fail
        go_ret2
        refine ⟨.slice none 0 0, by rw [HE.out]; try rfl, ?_⟩
        rw [E1.out, E0.out, out_none _ _ _ _ _ _ _ (by decide) (by decide), act_less _ _ _ _ _ _ _ rfl]
        exact (H6.out.del1).noRows _ _
  · have E0 : doM m r = m := if_neg (fun h => he h.1)
    have E1 : doO m r = [] := if_neg he
    rw [E0, E1]
    clear E0 E1
    have hb : ((checkI m r).2 != 0) = true := by simp [he]
    generalize (checkI m r).2 = x at *
    generalize (checkI m r).1 = y at *
    have HB := hide hb
    clear he hb
    obtain ⟨op, region, index, token, seq, data⟩ := r
    go_enter Tryz.func30, Tryz.ntmps30
    go_wp2_with fail
    refine (HC.out _ _ (H.out.alloc 51 #[.int .i64 op, .int .i64 region, .int .i64 index, .int .u64 token, .int .u32 seq, .slice A n c]).up2).mono ?_
    rintro e w1 ⟨rfl, h⟩
    have H1 := hide h
    have hb := HB.out
    clear H h
    go_wp2_with fail
    go_ret2
    exact ⟨_, rfl, (H1.out.noRows 1 LogR).pick 4 [0, 1]⟩

end Go.Proofs.YtpaelngpmbeedaaGreatDoor
