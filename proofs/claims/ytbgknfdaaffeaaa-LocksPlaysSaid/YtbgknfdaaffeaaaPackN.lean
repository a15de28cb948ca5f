/- (*Writer).Number: what it writes. -/
import Derived.Test.YtbgknfdaaffeaaaPackM
import Derived.Test.YtbgknfdaaffeaaaMix
import Derived.Test.YtbgknfdaaffeaaaStApp
import Derived.Test.YtbgknfdaaffeaaaRows
import Derived.Deep.LoopGhost
import Derived.IntWalk
import Derived.Test.YtbgknfdaaffeaaaCloneSt
namespace Go.Proofs.Ytbgknfdaaffeaaa
open Go.RowKit

/-- a Writer, and what it has written -/
def wrR (g : Nat) (xs : List Int) : Res := exR fun v => starR (blkR g 194 #[v]) (rowR 5 1 v xs.length (bv xs))
theorem St.wr {M0 : Imm} {w : World} {L : List Res} {g : Nat} {xs : List Int} (h : St M0 w (wrR g xs :: L)) : ∃ A c q, q = xs.length ∧ St M0 w (blkR g 194 #[.slice A q c] :: rowR 5 1 (.slice A q c) q (bv xs) :: L) := by
  obtain ⟨v, h⟩ := h.ex
  have h := h.star
  obtain ⟨A, c, rfl⟩ := h.swap.slice
  exact ⟨A, c, _, rfl, h⟩
theorem St.addWr {M0 : Imm} {w : World} {L : List Res} {g q : Nat} {v : Value} {xs : List Int} (h : St M0 w (blkR g 194 #[v] :: rowR 5 1 v q (bv xs) :: L)) (hq : q = xs.length) : St M0 w (wrR g xs :: L) := by
  subst hq
  exact h.addStar.addEx (f := fun v => starR (blkR g 194 #[v]) (rowR 5 1 v xs.length (bv xs))) v

theorem info_u8 : (Try.prog.info? 5).map (fun i => (i.zero, i.size, i.bytes)) = some (some (.int .u8 0), 1, 1) := by kernel_rfl

theorem build_u8 (w : World) (x : Int) : (Instr.buildSlice 48 1 #[(0, .int .u8 x)]).run Try.prog w = .ok (.slice (some ⟨w.heap.size, 0, none⟩) 1 1) (w.alloc (.cells #[.int .u8 x] 5)) := by
  go_simp
/-- a slice stored into the one cell of a block -/
theorem store_slice {M0 : Imm} {w : World} {L : List Res} {e : TypeId} {size : Nat} {v : Value} {n : Nat} {xs : List Value} {g : Nat} {t : TypeId} {u : Value} (h : St M0 w (rowR e size v n xs :: blkR g t #[u] :: L)) :
    (Instr.storeAt 48 (.pointer (some ⟨g, 0, none⟩)) v).run Try.prog w = .ok () (w.setCell ⟨g, 0, none⟩ v) := by
  have h1 := (h.blk 1 rfl).cell 0
  have h2 := (h.blk 1 rfl).frozen 0
  rcases (h.row 0 rfl).2 with ⟨rfl, _⟩ | ⟨g', cap, cur, rfl, _⟩ <;> go_simp

set_option maxHeartbeats 400000 in
theorem num_no {M0 : Imm} {L : List Res} (g : Nat) (n size : Int) (w : World) (hs : size < 1 ∨ 8 < size) (h : St M0 w L) :
    Calls Try.prog 118 #[.pointer (some ⟨g, 0, none⟩), .int .u64 n, .int .i64 size] w fun e w' => e = .returned (.tuple #[]) ∧ St M0 w' L := by
  rcases hs with hs | hs
  · go_enter Try.func118, Try.ntmps118
    go_wp2
    ((try simp only [Exit.inBlock, Exit.then]); refine bodyPost_ret (results_none rfl _ _ _) rfl ?_)
    exact ⟨rfl, h⟩
  · have h1 : ¬ size < 1 := by omega
    go_enter Try.func118, Try.ntmps118
    go_wp2
    ((try simp only [Exit.inBlock, Exit.then]); refine bodyPost_ret (results_none rfl _ _ _) rfl ?_)
    exact ⟨rfl, h⟩

set_option maxRecDepth 100000 in
set_option maxHeartbeats 1000000 in
theorem num_yes {M0 : Imm} {L : List Res} (g : Nat) (n : Int) (k : Nat) (xs : List Int) (w : World) (h1 : 1 ≤ k) (h8 : k ≤ 8) (hl : xs.length ≤ 1000000000) (h : St M0 w (wrR g xs :: L)) :
    Calls Try.prog 118 #[.pointer (some ⟨g, 0, none⟩), .int .u64 n, .int .i64 k] w fun e w' => e = .returned (.tuple #[]) ∧ St M0 w' (wrR g (xs ++ numB n k) :: L) := by
  have H := hide h
  clear h
  have hk1 : ¬ (k : Int) < 1 := by omega
  have hk8 : ¬ (8 : Int) < k := by omega
  go_enter Try.func118, Try.ntmps118
  go_wp2
  go_loopg [14] k (fun gh i wr => ∃ j : Nat, gh = k - j ∧ j ≤ k ∧ i = .int .i64 j ∧ St M0 wr (wrR g (xs ++ numB n j) :: L))
  case atStart => exact ⟨0, rfl, Nat.zero_le _, rfl, by rw [numB_zero, List.append_nil]; exact H.out⟩
  case round =>
    clear H
    obtain ⟨j, hg, hj, rfl, hs⟩ := hrel
    have HG := hide hg
    have hll := numB_length n j
    have hlen : (xs ++ numB n j).length ≤ 1000000008 := by rw [List.length_append]; omega
    have HS := hide hs
    clear hg hs hll
    by_cases hlt : j < k
    · obtain ⟨A, c, q, hq, hs⟩ := HS.out.wr
      clear HS
      have HL := hide (numB_succ n j)
      generalize hys : xs ++ numB n j = ys at *
      have HY := hide hys
      have HQ := hide hq
      have hq2 : q ≤ 1000000008 := by omega
      clear hys hq
      generalize hv : Value.slice A q c = v at hs
      have HV := hide hv
      clear hv
      have c0 := (hs.blk 0 rfl).cell 0
      have f0 := (hs.blk 0 rfl).frozen 0
      have H := hide hs
      clear hs
      go_wp2
      have w8 : IntKind.i64.wrap (8 * (j : Int)) = 8 * (j : Int) := IntWalk.i64_in _ (by omega)
      have w0 : (0 : Int) ≤ 8 * (j : Int) := by omega
      have w1 : 8 * (j : Int) ≤ 64 := by omega
      have w2 : (8 * (j : Int)).toNat = 8 * j := by omega
      refine region_mix (fun W => W.cell? ⟨g, 0, none⟩ = some v ∧ W.frozen? ⟨g, 0, none⟩ = false) 12 [0, 1, 2, 3, 4, 5, 6, 7, 8, 9] [10, 11, 12, 13, 14] (by kernel_rfl) (by kernel_rfl)
        (fun d => by cases d <;> exact fun _ _ _ _ h => h) (fun W hW => ?_)
      refine ⟨⟨by rw [hW]; exact c0, by rw [hW]; exact f0⟩, ?_⟩
      iterate 10 (refine take_run rfl rfl (fun W hW => by (rcases hW with ⟨_, _⟩; go_simp; try rfl)) ?_; simp only [Act.put, List.setIfInBounds_toArray, List.set_cons_succ, List.set_cons_zero])
      clear w8 w0 w1 w2
      refine take_nil ?_
      have hs := H.out.grow (show Fr Non wr W by rw [hW]; exact (Fr.refl _ _).drew)
      clear hW H c0 f0
      have hx : IntKind.u8.wrap (n / 2 ^ (8 * j)) = n / 256 ^ j % 256 := by rw [IntKind.wrap_u8, Int.pow_mul]; rfl
      generalize IntKind.u8.wrap (n / 2 ^ (8 * j)) = x at hx ⊢
      have HX := hide hx
      clear hx
      refine seq_buildSlice1 rfl rfl 48 1 0 _ (.int .u8 x) rfl rfl (build_u8 W x) (fun _ => ⟨?_, ?_⟩) ?_
      · exact ((hs.junk _).blk 0 rfl).cell 0
      · exact ((hs.junk _).blk 0 rfl).frozen 0
      (simp only [Act.put, List.setIfInBounds_toArray, List.set_cons_succ, List.set_cons_zero])
      have hs1 := hs.junk (.cells #[.int .u8 x] 5)
      refine seq_append rfl rfl _ _ 48 rfl 0 5 _ 1 1 Try.underlying48 info_u8 (by kernel_rfl) (by omega) v q (bv ys) rfl (hs1.row 1 rfl) ⟨W.heap.size, 0, none⟩ 1 1 rfl [.int .u8 x] rfl ?_ (bv_one [x]) (by omega) (by omega) (Nat.zero_le _) (fun v' w' hown hF hb => ?_)
      · intro i u hu
        match i, hu with
        | 0, hu => exact (hs.alloc 5 #[.int .u8 x] |>.blk 0 rfl |>.cell 0).trans hu
        | i + 1, hu => simp at hu
      have hs2 := hs1.swap.app (n' := (ys ++ [x]).length) (xs' := bv (ys ++ [x])) (own_congr hown (by simp [HQ.out]) (bv_snoc ys x).symm) hF hb
      clear hs hs1 hown hF hb
      have c0 := (hs2.blk 1 rfl).cell 0
      have f0 := (hs2.blk 1 rfl).frozen 0
      refine ⟨fun _ => ⟨c0, f0⟩, ?_⟩
      (simp only [Act.put, List.setIfInBounds_toArray, List.set_cons_succ, List.set_cons_zero])
      (refine seq_read rfl rfl (by (go_simp; try rfl)) (fun h => absurd h (by decide)) ?_; simp only [Act.put, List.setIfInBounds_toArray, List.set_cons_succ, List.set_cons_zero])
      (refine seq_read rfl rfl (by (go_simp; try rfl)) (fun h => absurd h (by decide)) ?_; simp only [Act.put, List.setIfInBounds_toArray, List.set_cons_succ, List.set_cons_zero])
      refine seq_store rfl rfl 48 _ _ (.pointer (some ⟨g, 0, none⟩)) v' rfl rfl rfl (store_slice hs2) (fun h => absurd h (by decide)) ?_
      simp only [Act.put]
      refine seq_nil ?_
      have hs3 := hs2.swap.set_ 0 v'
      generalize w'.setCell ⟨g, 0, none⟩ v' = w3 at hs3 ⊢
      have H := hide (St.addWr hs3 rfl)
      clear hs2 hs3 c0 f0
      go_wp2
      go_roundg (k - (j + 1))
      case measure => have := HG.out; omega
      case rel => exact ⟨j + 1, rfl, hlt, rfl, by rw [HL.out, ← List.append_assoc, HY.out, ← HX.out]; exact H.out⟩
    · obtain rfl : j = k := by omega
      go_wp2
      go_end0
      exact ⟨rfl, HS.out⟩

theorem num_st {M0 : Imm} {L : List Res} (g : Nat) (n size : Int) (xs : List Int) (w : World) (hl : xs.length ≤ 1000000000) (h : St M0 w (wrR g xs :: L)) :
    Calls Try.prog 118 #[.pointer (some ⟨g, 0, none⟩), .int .u64 n, .int .i64 size] w fun e w' => e = .returned (.tuple #[]) ∧ St M0 w' (wrR g (xs ++ numI n size) :: L) := by
  unfold numI
  by_cases hs : size < 1 ∨ 8 < size
  · rw [if_pos hs, List.append_nil]
    exact num_no g n size w hs h
  · rw [if_neg hs]
    obtain ⟨k, rfl⟩ := Int.eq_ofNat_of_zero_le (show 0 ≤ size by omega)
    exact num_yes g n k xs w (by omega) (by omega) hl h

end Go.Proofs.Ytbgknfdaaffeaaa
/- (*Writer).Out. -/
namespace Go.Proofs.Ytbgknfdaaffeaaa
open Go.RowKit

set_option maxHeartbeats 400000 in
theorem out_st {M0 : Imm} {L : List Res} (g : Nat) (xs : List Int) (w : World) (hl : xs.length ≤ 1000000000) (h : St M0 w (wrR g xs :: L)) :
    Calls Try.prog 119 #[.pointer (some ⟨g, 0, none⟩)] w fun e w' => ∃ v, e = .returned v ∧ St M0 w' (rowR 5 1 v xs.length (bv xs) :: wrR g xs :: L) := by
  obtain ⟨A, c, q, hq, h⟩ := h.wr
  have c0 := (h.blk 0 rfl).cell 0
  have HC := hide (clone_st A q c xs w h.swap.sl (by omega) h)
  have HQ := hide hq
  clear h hq
  go_enter Try.func119, Try.ntmps119
  go_wp2_with fail
  refine HC.out.mono ?_
  rintro e w1 ⟨v1, rfl, h1⟩
  go_wp2_with fail
  go_ret
  rw [← HQ.out]
  exact ⟨v1, rfl, (St.addWr h1.dn2 HQ.out).swap⟩
end Go.Proofs.Ytbgknfdaaffeaaa
