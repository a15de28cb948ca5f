/- Redo: slices.Chunk of writes by four. -/
import Derived.Test.YtbnjeekhoaapiaaRedoX
import Derived.Test.YtbnjeekhoaapiaaRedoG
namespace Go.Proofs.Ytbnjeekhoaapiaa
open Go.RowKit Go.Shelf
attribute [local go_sem] Oper.semAt_some

set_option maxHeartbeats 2000000 in
set_option maxRecDepth 100000 in
theorem cclo_st {M0 : Imm} (l : List PU) (A : Option Addr) (n c bs bn lr m : Nat) (T : Nat → List Res) (w : World) (hn : n ≤ 1000)
    (hY : ∀ (j : Nat) (W : World) (A' : Option Addr) (p : Nat), 4 * j < n → p = min 4 (n - 4 * j) → St M0 W (rowsR 3 PutR (.slice A' p p) ((l.drop (4 * j)).take 4) :: blkR bs 46 #[.slice A n c] :: blkR bn 3 #[.int .i64 4] :: rowsR 3 PutR (.slice A n c) l :: T j) →
      YieldAt Fence.wide (m - 1) Try.prog lr #[.slice A' p p] W fun e W' => e = .returned (.bool true) ∧ St M0 W' (blkR bs 46 #[.slice A n c] :: blkR bn 3 #[.int .i64 4] :: rowsR 3 PutR (.slice A n c) l :: T (j + 1)))
    (h : St M0 w (blkR bs 46 #[.slice A n c] :: blkR bn 3 #[.int .i64 4] :: rowsR 3 PutR (.slice A n c) l :: T 0)) :
    CallsIn Fence.wide m Try.prog 86 #[.func (.yield lr) #[] #[], .pointer (some ⟨bs, 0, none⟩), .pointer (some ⟨bn, 0, none⟩)] w fun e w' => (∃ v, e = .returned v) ∧ St M0 w' (blkR bs 46 #[.slice A n c] :: blkR bn 3 #[.int .i64 4] :: rowsR 3 PutR (.slice A n c) l :: T ((n + 3) / 4)) := by
  obtain ⟨A', c', e, hc, hm⟩ := (h.getRows 2 rfl).slice
  injection e with e1 e2 e3
  subst e1; subst e3
  have HN := hide e2
  have hnc : n ≤ c := by omega
  have HY := hide hY
  have HM := hide hm
  have H := hide h
  clear h hY e2 hm
  refine callsIn_of_wp Try.func86 rfl trivial ?_ rfl
  simp only [Try.ntmps86, List.size_toArray, List.length_cons, List.length_nil, Nat.reduceAdd, Nat.reduceSub, Array.replicate_succ, Array.replicate_zero, List.push_toArray, List.append_toArray, List.nil_append, List.cons_append]
  gi_wp2_with fail
  gi_loopw [4] (fun i wr => ∃ j k : Nat, k = 4 * j ∧ k < n + 4 ∧ i = .int .i64 (k : Nat) ∧ St M0 wr (blkR bs 46 #[.slice A n c] :: blkR bn 3 #[.int .i64 4] :: rowsR 3 PutR (.slice A n c) l :: T j)) (fun i _ => n - (intOf i).toNat)
  case atStart => exact ⟨0, 0, rfl, by omega, rfl, H.out⟩
  case round =>
    obtain ⟨j, k, hk, hj, rfl, h⟩ := hrel
    have y0 := (h.blk 0 rfl).cell 0
    have y1 := (h.blk 1 rfl).cell 0
    have HYj := hide (fun W A' p => HY.out j W A' p)
    clear H
    have H := hide h
    clear h
    rw [← hk] at HYj
    have HK := hide hk
    clear hk
    by_cases hlt : k < n
    · gi_wp2_with fail
      refine wpIn_wide.2 ?_
      have i0 : (0 : Int) ≤ (k : Int) := by omega
      have i1 : (k : Int) ≤ (n : Int) := by omega
      have i2 : (n : Int) ≤ (c : Int) := by omega
      refine region_mix (fun W => W.cell? ⟨bs, 0, none⟩ = some (.slice A n c) ∧ W.cell? ⟨bn, 0, none⟩ = some (.int .i64 4)) 7 [0, 1, 2, 3, 4, 5, 6] [] (by kernel_rfl) (by kernel_rfl) (fun d => by cases d <;> exact fun _ _ _ _ h => h) (fun W hW => ?_)
      have hS := hide (show St M0 W (blkR bs 46 #[.slice A n c] :: blkR bn 3 #[.int .i64 4] :: rowsR 3 PutR (.slice A n c) l :: T j) by
        rw [hW]
        exact H.out.drew)
      clear hW H y0 y1
      refine ⟨⟨(hS.out.blk 0 rfl).cell 0, (hS.out.blk 1 rfl).cell 0⟩, ?_⟩
      iterate 7 (refine take_run rfl rfl (fun W hW => by (rcases hW with ⟨_, _⟩; go_simp; try rfl)) ?_; simp only [Act.put, List.setIfInBounds_toArray, List.set_cons_succ, List.set_cons_zero])
      refine take_nil (seq_nil ?_)
      obtain ⟨p, hp⟩ : ∃ p, p = min 4 (n - k) := ⟨_, rfl⟩
      rw [show (if ((n - k : Nat) : Int) < 4 then ((n - k : Nat) : Int) else 4) = (p : Int) by split <;> omega]
      have y0 := (hS.out.blk 0 rfl).cell 0
      have y1 := (hS.out.blk 1 rfl).cell 0
      have p1 : 0 < p := by omega
      have p2 : (k : Int) + (p : Int) ≤ (c : Int) := by omega
      have p3 : (k : Int) ≤ (k : Int) + (p : Int) := by omega
      have p4 : (0 : Int) ≤ (k : Int) + (p : Int) := by omega
      have hkn : k + 4 < 2000 := by omega
      have hpp : p ≤ 4 := by omega
      obtain ⟨fn, tm, asg, bd, hy, hR⟩ := HYj.out W (A.map (·.add (k * 3))) p hlt hp (by
        have h1 := hS.out.subRows (A' := A.map (·.add (k * 3))) (k := k) (m := p) (c' := p) 2 rfl (by omega) (fun _ => rfl) (Nat.le_refl _) (by unfold maxLen; omega)
        rwa [show (l.drop k).take p = (l.drop k).take 4 by
          have := HN.out
          rcases Nat.le_total 4 (n - k) with h4 | h4
          · rw [show p = 4 by omega]
          · rw [List.take_of_length_le (by rw [List.length_drop]; omega), List.take_of_length_le (by rw [List.length_drop]; omega)]] at h1)
      clear hp hj
      gi_wp2_with fail
      refine ⟨fun hd => by simp [Fence.wide] at hd, hR.mono ?_⟩
      rintro e W3 ⟨rfl, h3⟩
      have y0 := (h3.blk 0 rfl).cell 0
      have y1 := (h3.blk 1 rfl).cell 0
      have H3 := hide h3
      clear h3 hR hS hy
      gi_wp2_with fail
      go_roundw
      case rel => exact ⟨j + 1, k + 4, by have := HK.out; omega, by omega, by go_num, H3.out⟩
      case measure => simp [intOf]; omega
    · gi_wp2_with fail
      go_end0
      refine ⟨⟨_, rfl⟩, ?_⟩
      rw [show (n + 3) / 4 = j by have := HK.out; omega]
      exact H.out
theorem chunk_st {M0 : Imm} {L : List Res} (A : Option Addr) (n c : Nat) (w : World) (h : St M0 w L) :
    Calls Try.prog 63 #[.slice A n c, .int .i64 4] w fun e w' => ∃ bs bn, e = .returned (.func (.func 86) #[] #[.pointer (some ⟨bs, 0, none⟩), .pointer (some ⟨bn, 0, none⟩)]) ∧ St M0 w' (blkR bs 46 #[.slice A n c] :: blkR bn 3 #[.int .i64 4] :: L) := by
  have H := hide ((h.alloc 46 #[.slice A n c]).alloc 3 #[.int .i64 4])
  clear h
  go_enter Try.func63, Try.ntmps63
  go_wp2_with fail
  go_ret
  exact ⟨_, _, rfl, by have h := H.out.swap; rwa [World.size_alloc] at h⟩
end Go.Proofs.Ytbnjeekhoaapiaa
