/- Redo: puts and doc: writes, as the program and as the document has them. -/
import Derived.Test.YtbnjeekhoaapiaaRedoR
namespace Go.Proofs.Ytbnjeekhoaapiaa
open Go.RowKit

theorem puts_build (w : World) (a b : Int) (A : Option Addr) (n k : Nat) : (Instr.buildSlice 46 1 #[(0, .agg #[.int .i64 a, .int .i64 b, .slice A n k])]).run Try.prog w = .ok (.slice (some ⟨w.heap.size, 0, none⟩) 1 1) (w.alloc (.cells #[.int .i64 a, .int .i64 b, .slice A n k] 62)) := by kernel_rfl
theorem doc_build (w : World) (a b : Int) (A : Option Addr) (n k : Nat) : (Instr.buildSlice 51 1 #[(0, .agg #[.int .i64 a, .int .i64 b, .slice A n k])]).run Try.prog w = .ok (.slice (some ⟨w.heap.size, 0, none⟩) 1 1) (w.alloc (.cells #[.int .i64 a, .int .i64 b, .slice A n k] 65)) := by kernel_rfl
theorem doc_elem : ElemOf Try.prog 51 65 (.agg #[.int .i64 0, .int .i64 0, .slice none 0 0]) 3 40 := ⟨Try.underlying51, by kernel_rfl, by kernel_rfl, by omega⟩
set_option maxHeartbeats 2000000 in
set_option maxRecDepth 100000 in
theorem puts_st {M0 : Imm} {L : List Res} (l : List PU) (A : Option Addr) (n c : Nat) (w : World) (hl : l.length ≤ 1000000000) (h : St M0 w (rowsR 3 PutR (.slice A n c) l :: L)) :
    Calls Try.prog 23 #[.slice A n c] w fun e w' => ∃ v, e = .returned v ∧ St M0 w' (growR 62 3 PutR v l :: rowsR 3 PutR (.slice A n c) l :: L) := by
  obtain ⟨A', c', e, hc, hm⟩ := (h.getRows 0 rfl).slice
  injection e with e1 e2 e3
  subst e1; subst e3
  have HN := hide e2
  have hn : n ≤ 1000000000 := by omega
  have H := hide (h.nilGrow 62 3 PutR)
  clear h e2 hl
  go_enter Try.func23, Try.ntmps23
  go_wp2_with fail
  go_loopg [3, 4] n (fun gh v i wr => ∃ (k : Nat) (B : Option Addr) (q d : Nat), gh = n - k ∧ k ≤ n ∧ v = .slice B q d ∧ i = .int .i64 (k : Nat) ∧ q = k ∧ St M0 wr (growR 62 3 PutR (.slice B q d) (l.take k) :: rowsR 3 PutR (.slice A n c) l :: L))
  case atStart => exact ⟨0, none, 0, 0, rfl, by omega, rfl, rfl, rfl, H.out⟩
  case round =>
    clear H
    obtain ⟨k, B, q, d, hg, hk, rfl, rfl, rfl, h⟩ := hrel
    have HG := hide hg
    clear hg
    by_cases hlt : q < n
    · have hx := List.getElem?_eq_getElem (l := l) (i := q) (by rw [← HN.out]; exact hlt)
      generalize l[q]'(by rw [← HN.out]; exact hlt) = x at hx
      have ht : l.take (q + 1) = l.take q ++ [x] := by rw [List.take_add_one, hx]; rfl
      obtain ⟨ad, cs, rfl, _, hcs, ⟨v, rfl, hv⟩, h1⟩ := h.elem 1 rfl hx
      obtain ⟨X, xc, rfl, _, _, _⟩ := id hv
      have HT := hide ht
      have H1 := hide h1
      clear hx h h1 hv hcs ht
      have i0 : (0 : Int) ≤ (q : Int) := by omega
      have i1 : (q : Int) < (n : Int) := by omega
      go_wp2_with fail
      refine region_mix (fun W => W.cell? (ad.add (q * 3)) = some (.int .i64 x.region) ∧ W.cell? ⟨(ad.add (q * 3)).block, (ad.add (q * 3)).off + 1, none⟩ = some (.int .i64 x.index) ∧ W.cell? ⟨(ad.add (q * 3)).block, (ad.add (q * 3)).off + 2, none⟩ = some (.slice X x.data.length xc)) 20 [0, 1, 2, 3, 4, 5, 6, 7, 8, 9, 10, 11, 12, 13, 14, 15, 16, 17] [18, 19, 20] (by kernel_rfl) (by kernel_rfl) (fun d => by cases d <;> exact fun _ _ _ _ h => h) (fun W hW => ?_)
      have hS : St M0 W _ := hW ▸ H1.out.drew
      have hS2 := hide hS
      clear hW H1
      have key : ∀ W' L', St M0 W' (persR (fun w' => (∀ (j : Nat) (u : Value), [.int .i64 x.region, .int .i64 x.index, .slice X x.data.length xc][j]? = some u → w'.cell? ((ad.add (q * 3)).add j) = some u) ∧ PutR w' [.int .i64 x.region, .int .i64 x.index, .slice X x.data.length xc] x) :: L') → W'.cell? (ad.add (q * 3)) = some (.int .i64 x.region) ∧ W'.cell? ⟨(ad.add (q * 3)).block, (ad.add (q * 3)).off + 1, none⟩ = some (.int .i64 x.index) ∧ W'.cell? ⟨(ad.add (q * 3)).block, (ad.add (q * 3)).off + 2, none⟩ = some (.slice X x.data.length xc) := fun W' L' h => cells3 (h.get 0 rfl).1
      have KEY := hide key
      clear key
      refine ⟨KEY.out _ _ hS, ?_⟩
      clear hS
      iterate 18 (refine take_run rfl rfl (fun W hW => by (rcases hW with ⟨_, _, _⟩; go_simp; try rfl)) ?_; (simp only [Act.put, List.setIfInBounds_toArray, List.set_cons_succ, List.set_cons_zero]))
      refine take_nil ?_
      obtain ⟨xs, hq, hxl, hz⟩ := hS2.out.swap.openGrowS
      have HXL := hide hxl
      have HQ := hide hq
      have h4 := (hz.up2.dn2).junk (.cells #[.int .i64 x.region, .int .i64 x.index, .slice X x.data.length xc] 62)
      refine seq_buildSlice1 rfl rfl 46 1 0 _ (.agg #[.int .i64 x.region, .int .i64 x.index, .slice X x.data.length xc]) rfl rfl (puts_build _ _ _ _ _ _) (fun _ => KEY.out _ _ h4.up2) ?_
      (simp only [Act.put, List.setIfInBounds_toArray, List.set_cons_succ, List.set_cons_zero])
      refine seq_app puts_elem h4 rfl rfl _ _ rfl rfl (some ⟨W.heap.size, 0, none⟩) 1 1 rfl [.int .i64 x.region, .int .i64 x.index, .slice X x.data.length xc] (sl_newN _ _ _) (by intro u hu; simp at hu; rcases hu with rfl | rfl | rfl <;> rfl) (by omega) (by omega) (fun A4 c4 w4 h5 => ⟨fun _ => KEY.out _ _ h5.up2, ?_⟩)
      (simp only [Act.put, List.setIfInBounds_toArray, List.set_cons_succ, List.set_cons_zero])
      have h7 := ((h5.up2.pers1 (R' := fun w' => PutR w' [.int .i64 x.region, .int .i64 x.index, .slice X x.data.length xc] x) (fun w' hi => hi.2)).dn2).snocGrow HQ.out rfl HXL.out
      have H7 := hide h7
      clear h4 h5 h7 hS2 KEY hz hq hxl
      refine seq_read rfl rfl (by (go_simp; try rfl)) (fun h => absurd h (by decide)) ?_
      (simp only [Act.put, List.setIfInBounds_toArray, List.set_cons_succ, List.set_cons_zero])
      refine seq_nil ?_
      go_wp2_with fail
      go_roundg (n - (q + 1))
      case measure => have := HG.out; omega
      case rel => exact ⟨q + 1, A4, q + 1, c4, rfl, by omega, rfl, by go_num, rfl, by rw [HT.out]; exact H7.out⟩
    · obtain rfl : q = n := by omega
      have htk : l.take q = l := List.take_of_length_le (by rw [← HN.out]; exact Nat.le_refl _)
      rw [htk] at h
      have H := hide h
      clear h htk
      go_wp2_with fail
      go_ret
      exact ⟨.slice B q d, rfl, H.out⟩
set_option maxHeartbeats 2000000 in
set_option maxRecDepth 100000 in
theorem doc_st {M0 : Imm} {L : List Res} (l : List PU) (A : Option Addr) (n c : Nat) (w : World) (hl : l.length ≤ 1000000000) (h : St M0 w (rowsR 3 PutR (.slice A n c) l :: L)) :
    Calls Try.prog 25 #[.slice A n c] w fun e w' => ∃ v, e = .returned v ∧ St M0 w' (growR 65 3 PutR v l :: rowsR 3 PutR (.slice A n c) l :: L) := by
  obtain ⟨A', c', e, hc, hm⟩ := (h.getRows 0 rfl).slice
  injection e with e1 e2 e3
  subst e1; subst e3
  have HN := hide e2
  have hn : n ≤ 1000000000 := by omega
  have H := hide (h.nilGrow 65 3 PutR)
  clear h e2 hl
  go_enter Try.func25, Try.ntmps25
  go_wp2_with fail
  go_loopg [3, 4] n (fun gh v i wr => ∃ (k : Nat) (B : Option Addr) (q d : Nat), gh = n - k ∧ k ≤ n ∧ v = .slice B q d ∧ i = .int .i64 (k : Nat) ∧ q = k ∧ St M0 wr (growR 65 3 PutR (.slice B q d) (l.take k) :: rowsR 3 PutR (.slice A n c) l :: L))
  case atStart => exact ⟨0, none, 0, 0, rfl, by omega, rfl, rfl, rfl, H.out⟩
  case round =>
    clear H
    obtain ⟨k, B, q, d, hg, hk, rfl, rfl, rfl, h⟩ := hrel
    have HG := hide hg
    clear hg
    by_cases hlt : q < n
    · have hx := List.getElem?_eq_getElem (l := l) (i := q) (by rw [← HN.out]; exact hlt)
      generalize l[q]'(by rw [← HN.out]; exact hlt) = x at hx
      have ht : l.take (q + 1) = l.take q ++ [x] := by rw [List.take_add_one, hx]; rfl
      obtain ⟨ad, cs, rfl, _, hcs, ⟨v, rfl, hv⟩, h1⟩ := h.elem 1 rfl hx
      obtain ⟨X, xc, rfl, _, _, _⟩ := id hv
      have HT := hide ht
      have H1 := hide h1
      clear hx h h1 hv hcs ht
      have i0 : (0 : Int) ≤ (q : Int) := by omega
      have i1 : (q : Int) < (n : Int) := by omega
      go_wp2_with fail
      refine region_mix (fun W => W.cell? (ad.add (q * 3)) = some (.int .i64 x.region) ∧ W.cell? ⟨(ad.add (q * 3)).block, (ad.add (q * 3)).off + 1, none⟩ = some (.int .i64 x.index) ∧ W.cell? ⟨(ad.add (q * 3)).block, (ad.add (q * 3)).off + 2, none⟩ = some (.slice X x.data.length xc)) 20 [0, 1, 2, 3, 4, 5, 6, 7, 8, 9, 10, 11, 12, 13, 14, 15, 16, 17] [18, 19, 20] (by kernel_rfl) (by kernel_rfl) (fun d => by cases d <;> exact fun _ _ _ _ h => h) (fun W hW => ?_)
      have hS : St M0 W _ := hW ▸ H1.out.drew
      have hS2 := hide hS
      clear hW H1
      have key : ∀ W' L', St M0 W' (persR (fun w' => (∀ (j : Nat) (u : Value), [.int .i64 x.region, .int .i64 x.index, .slice X x.data.length xc][j]? = some u → w'.cell? ((ad.add (q * 3)).add j) = some u) ∧ PutR w' [.int .i64 x.region, .int .i64 x.index, .slice X x.data.length xc] x) :: L') → W'.cell? (ad.add (q * 3)) = some (.int .i64 x.region) ∧ W'.cell? ⟨(ad.add (q * 3)).block, (ad.add (q * 3)).off + 1, none⟩ = some (.int .i64 x.index) ∧ W'.cell? ⟨(ad.add (q * 3)).block, (ad.add (q * 3)).off + 2, none⟩ = some (.slice X x.data.length xc) := fun W' L' h => cells3 (h.get 0 rfl).1
      have KEY := hide key
      clear key
      refine ⟨KEY.out _ _ hS, ?_⟩
      clear hS
      iterate 18 (refine take_run rfl rfl (fun W hW => by (rcases hW with ⟨_, _, _⟩; go_simp; try rfl)) ?_; (simp only [Act.put, List.setIfInBounds_toArray, List.set_cons_succ, List.set_cons_zero]))
      refine take_nil ?_
      obtain ⟨xs, hq, hxl, hz⟩ := hS2.out.swap.openGrowS
      have HXL := hide hxl
      have HQ := hide hq
      have h4 := (hz.up2.dn2).junk (.cells #[.int .i64 x.region, .int .i64 x.index, .slice X x.data.length xc] 65)
      refine seq_buildSlice1 rfl rfl 51 1 0 _ (.agg #[.int .i64 x.region, .int .i64 x.index, .slice X x.data.length xc]) rfl rfl (doc_build _ _ _ _ _ _) (fun _ => KEY.out _ _ h4.up2) ?_
      (simp only [Act.put, List.setIfInBounds_toArray, List.set_cons_succ, List.set_cons_zero])
      refine seq_app doc_elem h4 rfl rfl _ _ rfl rfl (some ⟨W.heap.size, 0, none⟩) 1 1 rfl [.int .i64 x.region, .int .i64 x.index, .slice X x.data.length xc] (sl_newN _ _ _) (by intro u hu; simp at hu; rcases hu with rfl | rfl | rfl <;> rfl) (by omega) (by omega) (fun A4 c4 w4 h5 => ⟨fun _ => KEY.out _ _ h5.up2, ?_⟩)
      (simp only [Act.put, List.setIfInBounds_toArray, List.set_cons_succ, List.set_cons_zero])
      have h7 := ((h5.up2.pers1 (R' := fun w' => PutR w' [.int .i64 x.region, .int .i64 x.index, .slice X x.data.length xc] x) (fun w' hi => hi.2)).dn2).snocGrow HQ.out rfl HXL.out
      have H7 := hide h7
      clear h4 h5 h7 hS2 KEY hz hq hxl
      refine seq_read rfl rfl (by (go_simp; try rfl)) (fun h => absurd h (by decide)) ?_
      (simp only [Act.put, List.setIfInBounds_toArray, List.set_cons_succ, List.set_cons_zero])
      refine seq_nil ?_
      go_wp2_with fail
      go_roundg (n - (q + 1))
      case measure => have := HG.out; omega
      case rel => exact ⟨q + 1, A4, q + 1, c4, rfl, by omega, rfl, by go_num, rfl, by rw [HT.out]; exact H7.out⟩
    · obtain rfl : q = n := by omega
      have htk : l.take q = l := List.take_of_length_le (by rw [← HN.out]; exact Nat.le_refl _)
      rw [htk] at h
      have H := hide h
      clear h htk
      go_wp2_with fail
      go_ret
      exact ⟨.slice B q d, rfl, H.out⟩
end Go.Proofs.Ytbnjeekhoaapiaa
