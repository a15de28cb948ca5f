/- (*Writer).Number: what it writes. -/
import Derived.Test.YtpaelngpmbeedaaGreatDoorBaseZ
import Derived.Test.YtpaelngpmbeedaaGreatDoorRows
import Derived.Deep.LoopGhost
import Derived.IntWalk
import Derived.Test.YtpaelngpmbeedaaGreatDoorStZ
namespace Go.Proofs.YtpaelngpmbeedaaGreatDoor
open Go.RowKit

/-- a Writer, and what it has written -/
def wrR (g : Nat) (xs : List Int) : Res := exR fun v => starR (blkR g 97 #[v]) (rowR 5 1 v xs.length (bv xs))
theorem St.wr {M0 : Imm} {w : World} {L : List Res} {g : Nat} {xs : List Int} (h : St M0 w (wrR g xs :: L)) : ∃ A c q, q = xs.length ∧ St M0 w (blkR g 97 #[.slice A q c] :: rowR 5 1 (.slice A q c) q (bv xs) :: L) := by
  obtain ⟨v, h⟩ := h.ex
  have h := h.star
  obtain ⟨A, c, rfl⟩ := h.swap.slice
  exact ⟨A, c, _, rfl, h⟩
theorem St.addWr {M0 : Imm} {w : World} {L : List Res} {g q : Nat} {v : Value} {xs : List Int} (h : St M0 w (blkR g 97 #[v] :: rowR 5 1 v q (bv xs) :: L)) (hq : q = xs.length) : St M0 w (wrR g xs :: L) := by
  subst hq
  exact h.addStar.addEx (f := fun v => starR (blkR g 97 #[v]) (rowR 5 1 v xs.length (bv xs))) v

theorem info_u8 : (Tryz.prog.info? 5).map (fun i => (i.zero, i.size, i.bytes)) = some (some (.int .u8 0), 1, 1) := by kernel_rfl

theorem build_u8 (w : World) (x : Int) : (Instr.buildSlice 34 1 #[(0, .int .u8 x)]).run Tryz.prog w = .ok (.slice (some ⟨w.heap.size, 0, none⟩) 1 1) (w.alloc (.cells #[.int .u8 x] 5)) := by
  go_simp
/-- a slice stored into the one cell of a block -/
theorem store_slice {M0 : Imm} {w : World} {L : List Res} {e : TypeId} {size : Nat} {v : Value} {n : Nat} {xs : List Value} {g : Nat} {t : TypeId} {u : Value} (h : St M0 w (rowR e size v n xs :: blkR g t #[u] :: L)) :
    (Instr.storeAt 34 (.pointer (some ⟨g, 0, none⟩)) v).run Tryz.prog w = .ok () (w.setCell ⟨g, 0, none⟩ v) := by
  have h1 := (h.blk 1 rfl).cell 0
  have h2 := (h.blk 1 rfl).frozen 0
  rcases (h.row 0 rfl).2 with ⟨rfl, _⟩ | ⟨g', cap, cur, rfl, _⟩ <;> go_simp

set_option maxHeartbeats 400000 in
theorem num_no {M0 : Imm} {L : List Res} (g : Nat) (n size : Int) (w : World) (hs : size < 1 ∨ 8 < size) (h : St M0 w L) :
    Calls Tryz.prog 35 #[.pointer (some ⟨g, 0, none⟩), .int .u64 n, .int .i64 size] w fun e w' => e = .returned (.tuple #[]) ∧ St M0 w' L := by
  rcases hs with hs | hs
  · go_enter Tryz.func35, Tryz.ntmps35
    go_wp2
    ((try simp only [Exit.inBlock, Exit.then]); refine bodyPost_ret (results_none rfl _ _ _) rfl ?_)
    exact ⟨rfl, h⟩
  · have h1 : ¬ size < 1 := by omega
    go_enter Tryz.func35, Tryz.ntmps35
    go_wp2
    ((try simp only [Exit.inBlock, Exit.then]); refine bodyPost_ret (results_none rfl _ _ _) rfl ?_)
    exact ⟨rfl, h⟩

set_option maxRecDepth 100000 in
set_option maxHeartbeats 1000000 in
theorem num_yes {M0 : Imm} {L : List Res} (g : Nat) (n : Int) (k : Nat) (xs : List Int) (w : World) (h1 : 1 ≤ k) (h8 : k ≤ 8) (hl : xs.length ≤ 1000000000) (h : St M0 w (wrR g xs :: L)) :
    Calls Tryz.prog 35 #[.pointer (some ⟨g, 0, none⟩), .int .u64 n, .int .i64 k] w fun e w' => e = .returned (.tuple #[]) ∧ St M0 w' (wrR g (xs ++ numB n k) :: L) := by
  have H := hide h
  clear h
  have hk1 : ¬ (k : Int) < 1 := by omega
  have hk8 : ¬ (8 : Int) < k := by omega
  go_enter Tryz.func35, Tryz.ntmps35
  go_wp2
  go_loopg [14] k (fun gh i wr => ∃ j : Nat, gh = k - j ∧ j ≤ k ∧ i = .int .i64 j ∧ St M0 wr (wrR g (xs ++ numB n j) :: L))
  case atStart => exact ⟨0, rfl, Nat.zero_le _, rfl, by rw [numB_zero, List.append_nil]; exact H.out⟩
  case round =>
    clear H
    obtain ⟨j, hg, hj, rfl, hs⟩ := hrel
    have HG := hide hg
    have hll := numB_length n j
    have hlen : (xs ++ numB n j).length ≤ 1000000008 := by rw [List.length_append]; omega
    have HS := hide hs
    clear hg hs hll
    by_cases hlt : j < k
    · obtain ⟨A, c, q, hq, hs⟩ := HS.out.wr
      clear HS
      have HL := hide (numB_succ n j)
      generalize hys : xs ++ numB n j = ys at *
      have HY := hide hys
      have HQ := hide hq
      have hq2 : q ≤ 1000000008 := by omega
      clear hys hq
      generalize hv : Value.slice A q c = v at hs
      have HV := hide hv
      clear hv
      have c0 := (hs.blk 0 rfl).cell 0
      have f0 := (hs.blk 0 rfl).frozen 0
      have H := hide hs
      clear hs
      go_wp2
      have w8 : IntKind.i64.wrap (8 * (j : Int)) = 8 * (j : Int) := IntWalk.i64_in _ (by omega)
      have w0 : (0 : Int) ≤ 8 * (j : Int) := by omega
      have w1 : 8 * (j : Int) ≤ 64 := by omega
      have w2 : (8 * (j : Int)).toNat = 8 * j := by omega
      refine region_mix (fun W => W.cell? ⟨g, 0, none⟩ = some v ∧ W.frozen? ⟨g, 0, none⟩ = false) 12 [0, 1, 2, 3, 4, 5, 6, 7, 8, 9] [10, 11, 12, 13, 14] (by kernel_rfl) (by kernel_rfl)
        (fun d => by cases d <;> exact fun _ _ _ _ h => h) (fun W hW => ?_)
      refine ⟨⟨by rw [hW]; exact c0, by rw [hW]; exact f0⟩, ?_⟩
      iterate 10 (refine take_run rfl rfl (fun W hW => by (rcases hW with ⟨_, _⟩; go_simp; try rfl)) ?_; simp only [Act.put, List.setIfInBounds_toArray, List.set_cons_succ, List.set_cons_zero])
      clear w8 w0 w1 w2
      refine take_nil ?_
      have hs := H.out.grow (show Fr Non wr W by rw [hW]; exact (Fr.refl _ _).drew)
      clear hW H c0 f0
      have hx : IntKind.u8.wrap (n / 2 ^ (8 * j)) = n / 256 ^ j % 256 := by rw [IntKind.wrap_u8, Int.pow_mul]; rfl
      generalize IntKind.u8.wrap (n / 2 ^ (8 * j)) = x at hx ⊢
      have HX := hide hx
      clear hx
      refine seq_buildSlice1 rfl rfl 34 1 0 _ (.int .u8 x) rfl rfl (build_u8 W x) (fun _ => ⟨?_, ?_⟩) ?_
      · exact ((hs.junk _).blk 0 rfl).cell 0
      · exact ((hs.junk _).blk 0 rfl).frozen 0
      (simp only [Act.put, List.setIfInBounds_toArray, List.set_cons_succ, List.set_cons_zero])
      have hs1 := hs.junk (.cells #[.int .u8 x] 5)
      refine seq_append rfl rfl _ _ 34 rfl 0 5 _ 1 1 Tryz.underlying34 info_u8 (by kernel_rfl) (by omega) v q (bv ys) rfl (hs1.row 1 rfl) ⟨W.heap.size, 0, none⟩ 1 1 rfl [.int .u8 x] rfl ?_ (bv_one [x]) (by omega) (by omega) (Nat.zero_le _) (fun v' w' hown hF hb => ?_)
      · intro i u hu
        match i, hu with
        | 0, hu => exact (hs.alloc 5 #[.int .u8 x] |>.blk 0 rfl |>.cell 0).trans hu
        | i + 1, hu => simp at hu
      have hs2 := hs1.swap.app (n' := (ys ++ [x]).length) (xs' := bv (ys ++ [x])) (own_congr hown (by simp [HQ.out]) (bv_snoc ys x).symm) hF hb
      clear hs hs1 hown hF hb
      have c0 := (hs2.blk 1 rfl).cell 0
      have f0 := (hs2.blk 1 rfl).frozen 0
      refine ⟨fun _ => ⟨c0, f0⟩, ?_⟩
      (simp only [Act.put, List.setIfInBounds_toArray, List.set_cons_succ, List.set_cons_zero])
      (refine seq_read rfl rfl (by (go_simp; try rfl)) (fun h => absurd h (by decide)) ?_; simp only [Act.put, List.setIfInBounds_toArray, List.set_cons_succ, List.set_cons_zero])
      (refine seq_read rfl rfl (by (go_simp; try rfl)) (fun h => absurd h (by decide)) ?_; simp only [Act.put, List.setIfInBounds_toArray, List.set_cons_succ, List.set_cons_zero])
      refine seq_store rfl rfl 34 _ _ (.pointer (some ⟨g, 0, none⟩)) v' rfl rfl rfl (store_slice hs2) (fun h => absurd h (by decide)) ?_
      simp only [Act.put]
      refine seq_nil ?_
      have hs3 := hs2.swap.set_ 0 v'
      generalize w'.setCell ⟨g, 0, none⟩ v' = w3 at hs3 ⊢
      have H := hide (St.addWr hs3 rfl)
      clear hs2 hs3 c0 f0
      go_wp2
      go_roundg (k - (j + 1))
      case measure => have := HG.out; omega
      case rel => exact ⟨j + 1, rfl, hlt, rfl, by rw [HL.out, ← List.append_assoc, HY.out, ← HX.out]; exact H.out⟩
    · obtain rfl : j = k := by omega
      go_wp2
      go_end0
      exact ⟨rfl, HS.out⟩

theorem num_st {M0 : Imm} {L : List Res} (g : Nat) (n size : Int) (xs : List Int) (w : World) (hl : xs.length ≤ 1000000000) (h : St M0 w (wrR g xs :: L)) :
    Calls Tryz.prog 35 #[.pointer (some ⟨g, 0, none⟩), .int .u64 n, .int .i64 size] w fun e w' => e = .returned (.tuple #[]) ∧ St M0 w' (wrR g (xs ++ numI n size) :: L) := by
  unfold numI
  by_cases hs : size < 1 ∨ 8 < size
  · rw [if_pos hs, List.append_nil]
    exact num_no g n size w hs h
  · rw [if_neg hs]
    obtain ⟨k, rfl⟩ := Int.eq_ofNat_of_zero_le (show 0 ≤ size by omega)
    exact num_yes g n k xs w (by omega) (by omega) hl h

end Go.Proofs.YtpaelngpmbeedaaGreatDoor
/- (*Writer).Out. -/
namespace Go.Proofs.YtpaelngpmbeedaaGreatDoor
open Go.RowKit

set_option maxHeartbeats 400000 in
theorem out_st {M0 : Imm} {L : List Res} (g : Nat) (xs : List Int) (w : World) (hl : xs.length ≤ 1000000000) (h : St M0 w (wrR g xs :: L)) :
    Calls Tryz.prog 37 #[.pointer (some ⟨g, 0, none⟩)] w fun e w' => ∃ v, e = .returned v ∧ St M0 w' (rowR 5 1 v xs.length (bv xs) :: wrR g xs :: L) := by
  obtain ⟨A, c, q, hq, h⟩ := h.wr
  have c0 := (h.blk 0 rfl).cell 0
  have HC := hide (clone_st A q c xs w h.swap.sl (by omega) h)
  have HQ := hide hq
  clear h hq
  go_enter Tryz.func37, Tryz.ntmps37
  go_wp2_with fail
  refine HC.out.mono ?_
  rintro e w1 ⟨v1, rfl, h1⟩
  go_wp2_with fail
  go_ret
  rw [← HQ.out]
  exact ⟨v1, rfl, (St.addWr h1.dn2 HQ.out).swap⟩
end Go.Proofs.YtpaelngpmbeedaaGreatDoor
/- (*Writer).Bytes and Out. -/
namespace Go.Proofs.YtpaelngpmbeedaaGreatDoor
open Go.RowKit

theorem take_1000 (bs : List Int) : bs.take 1000 = bs.take (min 1000 bs.length) := by
  rcases Nat.le_total 1000 bs.length with h1 | h1
  · rw [Nat.min_eq_left h1]
  · rw [Nat.min_eq_right h1, List.take_of_length_le h1, List.take_length]
theorem bytB_eq (bs : List Int) : bytB bs = numI (min 1000 bs.length : Nat) 2 ++ bs.take (min 1000 bs.length) := by
  unfold bytB
  rw [take_1000, List.length_take, Nat.min_eq_left (Nat.min_le_right _ _)]
  rfl

set_option maxHeartbeats 1000000 in
theorem byt_st {M0 : Imm} {L : List Res} (g : Nat) (v : Value) (bs xs : List Int) (w : World) (hl : xs.length ≤ 900000000) (h : St M0 w (wrR g xs :: persR (fun w' => Ints w' .u8 v bs) :: L)) :
    Calls Tryz.prog 36 #[.pointer (some ⟨g, 0, none⟩), v] w fun e w' => e = .returned (.tuple #[]) ∧ St M0 w' (wrR g (xs ++ bytB bs) :: persR (fun w' => Ints w' .u8 v bs) :: L) := by
  obtain ⟨A, c, rfl, hbl, hcm, _⟩ := h.get 1 rfl
  unfold maxLen at hcm
  have h0 : (0 : Int) ≤ (bs.length : Int) := by omega
  have HB := hide (bytB_eq bs)
  have HL := hide (List.length_take (i := min 1000 bs.length) (l := bs))
  generalize hn : bs.length = n at *
  have HN := hide hn
  clear hn
  have HT : Hid (∀ k w', k ≤ n → Ints w' .u8 (.slice A n c) bs → Sl w' Any 1 A k (bv (bs.take k))) := hide (fun k w' hk hi => by
    have h1 := (hi.cut hk).sl
    exact h1.2.2.2)
  have hin := numI_length n 2
  have hin2 := numI_length 1000 2
  rcases (by omega : n ≤ 1000 ∨ 1000 < n) with h1 | h1
  · have h2 : (n : Int) ≤ 1000 := by omega
    have h3 : (n : Int) ≤ (c : Int) := by omega
    rw [Nat.min_eq_right h1] at HB HL
    have H := hide h
    clear h h1 hin2
    go_enter Tryz.func36, Tryz.ntmps36
    go_wp2_with fail
    refine (num_st g n 2 xs _ (by omega) H.out).mono ?_
    rintro e w1 ⟨rfl, h1⟩
    clear H
    obtain ⟨A2, c2, q, hq, h1⟩ := h1.wr
    have c0 := (h1.blk 0 rfl).cell 0
    have f0 := (h1.blk 0 rfl).frozen 0
    rw [List.length_append] at hq
    have hq2 : q ≤ 900000008 := by omega
    have HQ := hide hq
    have H := hide h1
    clear h1 hq
    go_wp2_with (at_builtin; refine St.app_step u8_row H.out.swap rfl _ _ rfl rfl A _ c rfl (bv (bs.take n)) (HT.out n _ (by omega) (H.out.get 2 rfl)) (bv_one _) (by omega) (by omega) ?_; intro A' c' w1 h1; have c1 := (h1.blk 1 rfl).cell 0; have f1 := (h1.blk 1 rfl).frozen 0)
    go_end0
    refine ⟨rfl, St.addWr (((h1.swap.set_ 0 _).swap.row_eq rfl ?_).swap) ?_⟩
    · rw [HB.out]; simp [bv]
    · rw [HB.out, HQ.out, List.length_append, List.length_append, HL.out]; omega
  · have h2 : ¬ (n : Int) ≤ 1000 := by omega
    have h3 : (1000 : Int) ≤ (c : Int) := by omega
    rw [Nat.min_eq_left (show 1000 ≤ n by omega)] at HB HL
    rw [show ((1000 : Nat) : Int) = 1000 from rfl] at HB
    have H := hide h
    clear h hin
    go_enter Tryz.func36, Tryz.ntmps36
    go_wp2_with fail
    refine (num_st g 1000 2 xs _ (by omega) H.out).mono ?_
    rintro e w1 ⟨rfl, h1⟩
    clear H
    obtain ⟨A2, c2, q, hq, h1⟩ := h1.wr
    have c0 := (h1.blk 0 rfl).cell 0
    have f0 := (h1.blk 0 rfl).frozen 0
    rw [List.length_append] at hq
    have hq2 : q ≤ 900000008 := by omega
    have HQ := hide hq
    have H := hide h1
    clear h1 hq
    go_wp2_with (at_builtin; refine St.app_step u8_row H.out.swap rfl _ _ rfl rfl A _ c rfl (bv (bs.take 1000)) (HT.out 1000 _ (by omega) (H.out.get 2 rfl)) (bv_one _) (by omega) (by omega) ?_; intro A' c' w1 h1; have c1 := (h1.blk 1 rfl).cell 0; have f1 := (h1.blk 1 rfl).frozen 0)
    go_end0
    refine ⟨rfl, St.addWr (((h1.swap.set_ 0 _).swap.row_eq rfl ?_).swap) ?_⟩
    · rw [HB.out]; simp [bv]
    · rw [HB.out, HQ.out, List.length_append, List.length_append, HL.out]; omega

end Go.Proofs.YtpaelngpmbeedaaGreatDoor
/- pack.Reader.Bytes. -/
namespace Go.Proofs.YtpaelngpmbeedaaGreatDoor
open Go.RowKit

set_option maxHeartbeats 400000 in
theorem rdbyt_st {M0 : Imm} {L : List Res} (g : Nat) (r : Rd) (w : World) (hb : Bytes r.xs) (hl : r.xs.length ≤ 140737488355328) (hz : r.s = true → r.xs = []) (h : St M0 w (rdR g r :: L)) :
    Calls Tryz.prog 50 #[.pointer (some ⟨g, 0, none⟩)] w fun e w' => ∃ v, e = .returned v ∧ St M0 w' (intsR .u8 v r.byt.1 :: rdR g r.byt.2 :: L) := by
  have HN := hide (rdnum_st g r 2 w hb hl hz h)
  have hf := r.num_facts 2 hb hl
  have hn2 := r.num_2 hb
  clear h hz
  unfold Rd.byt
  generalize (r.num 2).1 = n at *
  generalize (r.num 2).2 = r1 at *
  obtain ⟨hb1, hl1, hn0, h64⟩ := hf
  clear h64
  have T := hide (fun w (h : St M0 w (rdR g r1 :: L)) => take_st g r1 (Rd.count n r1) w h)
  have hc := r1.take_len (Rd.count n r1)
  have hcount : Rd.count n r1 = if 1000 < n then r1.xs.length + 1 else n.toNat := rfl
  generalize (r1.take (Rd.count n r1)).1 = out at *
  generalize (r1.take (Rd.count n r1)).2 = r2 at *
  generalize Rd.count n r1 = k at *
  go_enter Tryz.func50, Tryz.ntmps50
  have HC := hide hcount
  clear hcount
  go_wp2_with fail
  refine HN.out.mono ?_
  rintro e w1 ⟨rfl, h⟩
  clear HN
  have wn : IntKind.i64.wrap n = n := IntWalk.i64_in _ (by omega)
  obtain ⟨xs1, s1⟩ := r1
  obtain ⟨A1, c1, hc1, hm1, h1⟩ := h.rd
  simp only at hc1 h1 hb1 hl1
  have c0 := (h1.blk 0 rfl).cell 0
  have H := hide h
  clear h h1
  by_cases hbig : 1000 < n
  · have hk : k = xs1.length + 1 := by rw [HC.out, if_pos hbig]
    subst hk
    go_wp2_with fail
    refine (T.out _ H.out).mono ?_
    rintro e w2 ⟨v, rfl, h⟩
    obtain ⟨A2, c2, rfl, _, _, hs⟩ := h.get 0 rfl
    have HCl := hide (clone_st A2 out.length c2 out w2 hs (by omega) h.tail)
    clear T H h hs
    go_wp2_with fail
    refine HCl.out.mono ?_
    rintro e w3 ⟨v, rfl, h⟩
    go_wp2_with fail
    go_ret
    exact ⟨v, rfl, h.ints⟩
  · have hk : n = (k : Int) := by rw [HC.out, if_neg hbig]; omega
    subst hk
    clear wn hc1 hm1 hl1 hn2 hn0
    go_wp2_with fail
    refine (T.out _ H.out).mono ?_
    rintro e w2 ⟨v, rfl, h⟩
    obtain ⟨A2, c2, rfl, _, _, hs⟩ := h.get 0 rfl
    have HCl := hide (clone_st A2 out.length c2 out w2 hs (by omega) h.tail)
    clear T H h hs
    go_wp2_with fail
    refine HCl.out.mono ?_
    rintro e w3 ⟨v, rfl, h⟩
    go_wp2_with fail
    go_ret
    exact ⟨v, rfl, h.ints⟩
end Go.Proofs.YtpaelngpmbeedaaGreatDoor
/- pack.Encode. -/
namespace Go.Proofs.YtpaelngpmbeedaaGreatDoor
open Go.RowKit

structure Fld where
  k : Int
  n : Int
  b : List Int
def FldR (w : World) (cs : List Value) (f : Fld) : Prop := ∃ v, cs = [.int .i64 f.k, .int .u64 f.n, v] ∧ Ints w .u8 v f.b ∧ 0 ≤ f.n ∧ f.n < 18446744073709551616
def isKind (k : Int) : Bool := k == 1 || k == 2 || k == 4 || k == 8 || k == 9

theorem take_all {α : Type} {p : α → Prop} {l : List α} {k : Nat} {x : α} (h : ∀ f ∈ l.take k, p f) (hx : l[k]? = some x) (hp : p x) : ∀ f ∈ l.take (k + 1), p f := by
  intro f hf
  rw [List.take_add_one, hx] at hf
  rcases List.mem_append.1 hf with h1 | h1
  · exact h f h1
  · simp at h1; subst h1; exact hp

def allKinds (fs : List Fld) : Bool := fs.all fun f => isKind f.k
/-- what a field's bytes are -/
def fldB (f : Fld) : List Int := if f.k = 9 then bytB f.b else numI f.n f.k
def fldsB (fs : List Fld) : List Int := fs.flatMap fldB
/-- a field whose bytes are too many -/
def tooLong (f : Fld) : Bool := f.k == 9 && decide (1000 < f.b.length)
def encE (fs : List Fld) : Int := if allKinds fs then (if fs.any tooLong then 2 else 0) else 1
def encB (fs : List Fld) : List Int := if encE fs = 0 then fldsB fs else []

theorem fldB_length (f : Fld) : (fldB f).length ≤ 1002 := by
  unfold fldB
  split
  · exact bytB_length _
  · have := numI_length f.n f.k; omega
theorem fldsB_length (fs : List Fld) : (fldsB fs).length ≤ fs.length * 1002 := by
  induction fs with
  | nil => simp [fldsB]
  | cons f fs ih => simp only [fldsB, List.flatMap_cons, List.length_append, List.length_cons] at *; have := fldB_length f; omega
theorem fldsB_take {fs : List Fld} {k : Nat} {f : Fld} (h : fs[k]? = some f) : fldsB (fs.take (k + 1)) = fldsB (fs.take k) ++ fldB f := by
  rw [List.take_add_one, h]
  simp [fldsB]

end Go.Proofs.YtpaelngpmbeedaaGreatDoor
/- pack.Decode. -/
namespace Go.Proofs.YtpaelngpmbeedaaGreatDoor
open Go.RowKit

/-- one field read -/
def Rd.fld (r : Rd) (k : Int) : Fld × Rd := if k = 9 then (⟨9, 0, r.byt.1⟩, r.byt.2) else (⟨k, (r.num k).1, []⟩, (r.num k).2)
def Rd.flds (r : Rd) : List Int → List Fld × Rd
  | [] => ([], r)
  | k :: ks => ((r.fld k).1 :: ((r.fld k).2.flds ks).1, ((r.fld k).2.flds ks).2)
def okShape (shape : List Int) : Bool := shape.all isKind
def decE (shape : List Int) (bs : List Int) : Int := if okShape shape then (Rd.flds ⟨bs, false⟩ shape).2.endE else 1
def decL (shape : List Int) (bs : List Int) : List Fld := if decE shape bs = 0 then (Rd.flds ⟨bs, false⟩ shape).1 else []
theorem Rd.flds_snoc (r : Rd) (ks : List Int) (k : Int) : r.flds (ks ++ [k]) = ((r.flds ks).1 ++ [((r.flds ks).2.fld k).1], ((r.flds ks).2.fld k).2) := by
  induction ks generalizing r with
  | nil => rfl
  | cons a ks ih => simp [Rd.flds, ih]
theorem Rd.Ok.fld {r : Rd} (h : r.Ok) (k : Int) : (r.fld k).2.Ok := by
  unfold Rd.fld
  split
  · exact h.byt
  · exact h.num k
theorem Rd.Ok.flds {r : Rd} (h : r.Ok) (ks : List Int) : (r.flds ks).2.Ok := by
  induction ks generalizing r with
  | nil => exact h
  | cons k ks ih => exact ih (h.fld k)

end Go.Proofs.YtpaelngpmbeedaaGreatDoor
/- The document's Number. -/
namespace Go.Proofs.YtpaelngpmbeedaaGreatDoor
open Go.RowKit

theorem numB_step (n : Int) (j : Nat) : n / 256 ^ (j + 1) = n / 256 ^ j / 256 := by
  rw [Int.pow_succ, Int.ediv_ediv_of_nonneg (Int.le_of_lt (Int.pow_pos (by omega)))]
theorem div_in (n : Int) (j : Nat) (h0 : 0 ≤ n) (h1 : n < 18446744073709551616) : 0 ≤ n / 256 ^ j ∧ n / 256 ^ j < 18446744073709551616 := by
  have hp : (0 : Int) < 256 ^ j := Int.pow_pos (by omega)
  exact ⟨Int.ediv_nonneg h0 (Int.le_of_lt hp), Int.lt_of_le_of_lt (Int.ediv_le_self _ h0) h1⟩

set_option maxHeartbeats 400000 in
theorem rnum_st {M0 : Imm} {L : List Res} (n size : Int) (w : World) (h0 : 0 ≤ n) (hn : n < 18446744073709551616) (h : St M0 w L) :
    Calls Tryz.prog 27 #[.int .u64 n, .int .i64 size] w fun e w' => ∃ v, e = .returned v ∧ St M0 w' (rowR 5 1 v (numI n size).length (bv (numI n size)) :: L) := by
  by_cases h8 : 8 < size
  · have e : numI n size = [] := by unfold numI; rw [if_pos (.inr h8)]
    rw [e]
    go_enter Tryz.func27, Tryz.ntmps27
    go_wp2
    go_ret
    exact ⟨_, rfl, h.nilRow _ _⟩
  · have hk : ∃ k : Nat, k ≤ 8 ∧ numI n size = numB n k ∧ (∀ j : Nat, j ≤ k → j < k → (j : Int) < size) ∧ (∀ j : Nat, j ≤ k → ¬ j < k → ¬ (j : Int) < size) := by
      by_cases h1 : size < 1
      · exact ⟨0, by omega, by unfold numI; rw [if_pos (.inl h1)]; rfl, fun j _ _ => by omega, fun j _ _ => by omega⟩
      · exact ⟨size.toNat, by omega, by unfold numI; rw [if_neg (by omega)], fun j _ _ => by omega, fun j _ _ => by omega⟩
    obtain ⟨k, hk8, hN, hlt1, hlt2⟩ := hk
    have HNum := hide hN
    have H1 := hide hlt1
    have H2 := hide hlt2
    have H := hide h
    have HB := hide (fun j => div_in n j h0 hn)
    clear hN hlt1 hlt2 h
    go_enter Tryz.func27, Tryz.ntmps27
    go_wp2
    go_loopg [0, 5, 6] k (fun gh x v i wr => ∃ (j : Nat) (A : Option Addr) (c : Nat), gh = k - j ∧ j ≤ k ∧ i = .int .i64 j ∧ x = .int .u64 (n / 256 ^ j) ∧ v = .slice A j c ∧ St M0 wr (rowR 5 1 (.slice A j c) j (bv (numB n j)) :: L))
    case atStart => exact ⟨0, none, 0, rfl, Nat.zero_le _, rfl, by simp, rfl, by rw [numB_zero]; exact H.out.nilRow _ _⟩
    case round =>
      clear H
      obtain ⟨j, A, c, hg, hj, rfl, rfl, rfl, h⟩ := hrel
      have HG := hide hg
      have hx := HB.out j
      have HS := hide (numB_succ n j)
      have HD := hide (numB_step n j)
      generalize n / 256 ^ j = x at *
      obtain ⟨hx0, hx1⟩ := hx
      have H := hide h
      clear hg h
      by_cases hlt : j < k
      · have hls := H1.out j hj hlt
        go_wp2_with (at_builtin; refine St.app_step u8_row (H.out.junk _) rfl _ _ rfl rfl (some ⟨wr.heap.size, 0, none⟩) 1 1 rfl [_] (sl_new1 _ _ _) (bv_one [_]) (by omega) (by omega) ?_; intro A' c' w1 h1)
        go_roundg (k - (j + 1))
        case measure => have := HG.out; omega
        case rel => exact ⟨j + 1, A', c', rfl, hlt, by go_num, by rw [HD.out], rfl, by rw [HS.out, bv_snoc]; exact h1⟩
      · have hls := H2.out j hj hlt
        go_wp2
        go_ret
        obtain rfl : j = k := by omega
        rw [HNum.out, numB_length]
        exact ⟨_, rfl, H.out⟩
end Go.Proofs.YtpaelngpmbeedaaGreatDoor
/- The document's answer: Number, Bytes, Kind. -/
namespace Go.Proofs.YtpaelngpmbeedaaGreatDoor
open Go.RowKit
set_option maxHeartbeats 400000 in
theorem rbyt_st {M0 : Imm} {L : List Res} (v : Value) (bs : List Int) (w : World) (h : St M0 w (intsR .u8 v bs :: L)) :
    Calls Tryz.prog 28 #[v] w fun e w' => ∃ u, e = .returned u ∧ St M0 w' (rowR 5 1 u (bytB bs).length (bv (bytB bs)) :: intsR .u8 v bs :: L) := by
  obtain ⟨A, c, rfl, hbl, hcm, _⟩ := h.get 0 rfl
  unfold maxLen at hcm
  have HB := hide (bytB_eq bs)
  have HL := hide (List.length_take (i := min 1000 bs.length) (l := bs))
  generalize hn : bs.length = n at *
  have HN := hide hn
  clear hn
  have HT : Hid (∀ k w', k ≤ n → Ints w' .u8 (.slice A n c) bs → Sl w' Any 1 A k (bv (bs.take k))) := hide (fun k w' hk hi => (hi.cut hk).sl.2.2.2)
  rcases (by omega : n ≤ 1000 ∨ 1000 < n) with h1 | h1
  · have h2 : ¬ (1000 : Int) < (n : Int) := by omega
    rw [Nat.min_eq_right h1] at HB HL
    have H := hide h
    have hin := numI_length n 2
    clear h h1
    go_enter Tryz.func28, Tryz.ntmps28
    go_wp2_with fail
    refine (rnum_st n 2 _ (by omega) (by omega) H.out).mono ?_
    rintro e w1 ⟨u, rfl, h⟩
    clear H
    obtain ⟨A2, c2, rfl⟩ := h.slice
    have H := hide h
    clear h
    go_wp2_with (at_builtin; refine St.app_step u8_row H.out rfl _ _ rfl rfl A _ c rfl (bv (bs.take n)) (HT.out n _ (by omega) (H.out.get 1 rfl)) (bv_one _) (by omega) (by omega) ?_; intro A' c' w1 h1)
    go_ret
    refine ⟨_, rfl, h1.row_eq ?_ ?_⟩
    · rw [HB.out, List.length_append, HL.out]; omega
    · rw [HB.out, bv_append]
  · have h2 : (1000 : Int) < (n : Int) := by omega
    have h3 : (1000 : Int) ≤ (c : Int) := by omega
    rw [Nat.min_eq_left (show 1000 ≤ n by omega)] at HB HL
    rw [show ((1000 : Nat) : Int) = 1000 from rfl] at HB
    have hin := numI_length 1000 2
    have H := hide h
    clear h
    go_enter Tryz.func28, Tryz.ntmps28
    go_wp2_with fail
    refine (rnum_st 1000 2 _ (by omega) (by omega) H.out).mono ?_
    rintro e w1 ⟨u, rfl, h⟩
    generalize numI 1000 2 = ns at *
    clear H
    obtain ⟨A2, c2, rfl⟩ := h.slice
    have H := hide h
    clear h
    go_wp2_with (at_builtin; refine St.app_step u8_row H.out rfl _ _ rfl rfl A _ c rfl (bv (bs.take 1000)) (HT.out 1000 _ (by omega) (H.out.get 1 rfl)) (bv_one _) (by omega) (by omega) ?_; intro A' c' w1 h1)
    go_ret
    refine ⟨_, rfl, h1.row_eq ?_ ?_⟩
    · rw [HB.out, List.length_append, HL.out]; omega
    · rw [HB.out, bv_append]

end Go.Proofs.YtpaelngpmbeedaaGreatDoor
/- The document's Reader, told by the same plain reader. -/
namespace Go.Proofs.YtpaelngpmbeedaaGreatDoor
open Go.RowKit

def rrR (g : Nat) (r : Rd) : Res := exR fun p : Value × List Int × Nat => starR (blkR g 121 #[p.1, .int .i64 p.2.2, .bool r.s]) (starR (intsR .u8 p.1 p.2.1) (pureR (p.2.2 ≤ p.2.1.length ∧ p.2.1.length ≤ 140737488355328 ∧ r.xs = if r.s = true then [] else p.2.1.drop p.2.2)))
section
variable {M0 : Imm} {w : World} {L : List Res} {g : Nat}
theorem St.rr {r : Rd} (h : St M0 w (rrR g r :: L)) : ∃ A c xs at_, at_ ≤ xs.length ∧ xs.length ≤ 140737488355328 ∧ (r.xs = if r.s = true then [] else xs.drop at_) ∧ xs.length ≤ c ∧ c ≤ 9223372036854775807 ∧
    St M0 w (blkR g 121 #[.slice A xs.length c, .int .i64 (at_ : Nat), .bool r.s] :: intsR .u8 (.slice A xs.length c) xs :: L) := by
  obtain ⟨⟨v, xs, k⟩, h⟩ := h.ex
  have h := h.star.swap.star
  simp only at h
  obtain ⟨A, c, rfl, h1, h2, _⟩ := h.get 0 rfl
  obtain ⟨⟨h3, h5, h4⟩, h⟩ := h.swap.pure_
  exact ⟨A, c, xs, k, h3, h5, h4, h1, h2, h.swap⟩
theorem St.addRr {v : Value} {xs : List Int} {k : Nat} {r : Rd} (h : St M0 w (blkR g 121 #[v, .int .i64 k, .bool r.s] :: intsR .u8 v xs :: L)) (h1 : k ≤ xs.length) (h3 : xs.length ≤ 140737488355328) (h2 : r.xs = if r.s = true then [] else xs.drop k) : St M0 w (rrR g r :: L) :=
  St.addEx (f := fun p : Value × List Int × Nat => starR (blkR g 121 #[p.1, .int .i64 p.2.2, .bool r.s]) (starR (intsR .u8 p.1 p.2.1) (pureR (p.2.2 ≤ p.2.1.length ∧ p.2.1.length ≤ 140737488355328 ∧ r.xs = if r.s = true then [] else p.2.1.drop p.2.2)))) (v, xs, k)
    ((h.swap.addP (p := k ≤ xs.length ∧ xs.length ≤ 140737488355328 ∧ r.xs = if r.s = true then [] else xs.drop k) ⟨h1, h3, h2⟩).swap.addStar.swap.addStar)
end

set_option maxHeartbeats 400000 in
theorem of_any (v : Value) (xs : List Int) (w : World) (hb : Bytes xs) (hl : xs.length ≤ 8) (hv : Ints w .u8 v xs) :
    Calls Tryz.prog 92 #[v] w fun e w' => e = .returned (.int .u64 (ofB xs)) ∧ w' = w := by
  obtain ⟨A, c, rfl, hc, hm, hs⟩ := hv
  have HS := hide hs
  clear hs hm
  generalize hn : xs.length = n at *
  have HN := hide hn
  clear hn
  go_enter Tryz.func92, Tryz.ntmps92
  go_wp2
  go_loop [3, 4] (fun x i => ∃ k : Nat, k ≤ n ∧ i = .int .i64 ((k : Int) - 1) ∧ x = .int .u64 (ofB (xs.drop k))) (fun _ i => (intOf i + 1).toNat)
  case atStart => exact ⟨n, Nat.le_refl _, rfl, by rw [List.drop_of_length_le (by rw [HN.out]; exact Nat.le_refl _)]; rfl⟩
  case round =>
    obtain ⟨k, hk, rfl, rfl⟩ := hrel
    by_cases hlt : 0 < k
    · obtain ⟨j, rfl⟩ : ∃ j, k = j + 1 := ⟨k - 1, by omega⟩
      have hj : j < n := by omega
      have hx := List.getElem?_eq_getElem (l := xs) (i := j) (by rw [HN.out]; exact hj)
      have hd := List.drop_eq_getElem_cons (l := xs) (i := j) (by rw [HN.out]; exact hj)
      generalize xs[j]'(by rw [HN.out]; exact hj) = x at hx hd
      obtain ⟨ad, u, rfl, _, _, hu, hcu⟩ := Sl.at_ HS.out hj
      rw [List.getElem?_map, hx] at hu
      obtain rfl : Value.int .u8 x = u := by simpa using hu
      have hxb : isByte x := hb x (List.mem_of_getElem? hx)
      have hr := ofB_range (hb.drop (j + 1))
      have hdl : (xs.drop (j + 1)).length ≤ 7 := by rw [List.length_drop, HN.out]; omega
      have hp : (256 : Int) ^ (xs.drop (j + 1)).length ≤ 72057594037927936 := by
        have : ∀ k, k ≤ 7 → (256 : Int) ^ k ≤ 72057594037927936 := by decide
        exact this _ hdl
      have hD := hide (show ofB (xs.drop j) = x + 256 * ofB (xs.drop (j + 1)) by rw [hd]; rfl)
      generalize ofB (xs.drop (j + 1)) = a at *
      unfold isByte at hxb
      obtain ⟨hx0, hx1⟩ := hxb
      obtain ⟨ha0, ha1⟩ := hr
      have ha2 : a < 72057594037927936 := by omega
      have e0 : ((j + 1 : Nat) : Int) - 1 = (j : Int) := by omega
      clear hx hd hu hdl hp ha1
      rw [e0]
      clear e0
      go_wp2
      go_round
      case rel => exact ⟨j, by omega, by go_num, by rw [hD.out]; congr 1; omega⟩
      case measure => simp [intOf]
    · obtain rfl : k = 0 := by omega
      rw [List.drop_zero]
      go_wp2
      go_ret
      exact ⟨rfl, rfl⟩

set_option maxHeartbeats 1000000 in
theorem rrnum_shut {M0 : Imm} {L : List Res} (g : Nat) (A : Option Addr) (c k : Nat) (xs : List Int) (size : Int) (w : World) (hk : k ≤ xs.length) (hl : xs.length ≤ 140737488355328)  (h : St M0 w (blkR g 121 #[.slice A xs.length c, .int .i64 (k : Nat), .bool true] :: intsR .u8 (.slice A xs.length c) xs :: L)) :
    Calls Tryz.prog 52 #[.pointer (some ⟨g, 0, none⟩), .int .i64 size] w fun e w' => e = .returned (.int .u64 0) ∧ St M0 w' (rrR g ⟨[], true⟩ :: L) := by
  have c0 := (h.blk 0 rfl).cell 0
  have c1 := (h.blk 0 rfl).cell 1
  have c2 := (h.blk 0 rfl).cell 2
  have f2 := (h.blk 0 rfl).frozen 2
  have H := hide h
  clear h
  go_enter Tryz.func52, Tryz.ntmps52
  go_wp2
  go_quiet (fail)
  go_wp2
  go_ret
  exact ⟨rfl, St.addRr (r := ⟨[], true⟩) ((H.out.drewN _).set_ 2 (.bool true)) hk hl rfl⟩
set_option maxHeartbeats 1000000 in
theorem rrnum_low {M0 : Imm} {L : List Res} (g : Nat) (A : Option Addr) (c k : Nat) (xs : List Int) (size : Int) (w : World) (hk : k ≤ xs.length) (hl : xs.length ≤ 140737488355328) (d1 : decide (size < 1) = true) (h : St M0 w (blkR g 121 #[.slice A xs.length c, .int .i64 (k : Nat), .bool false] :: intsR .u8 (.slice A xs.length c) xs :: L)) :
    Calls Tryz.prog 52 #[.pointer (some ⟨g, 0, none⟩), .int .i64 size] w fun e w' => e = .returned (.int .u64 0) ∧ St M0 w' (rrR g ⟨[], true⟩ :: L) := by
  have c0 := (h.blk 0 rfl).cell 0
  have c1 := (h.blk 0 rfl).cell 1
  have c2 := (h.blk 0 rfl).cell 2
  have f2 := (h.blk 0 rfl).frozen 2
  have H := hide h
  clear h
  go_enter Tryz.func52, Tryz.ntmps52
  go_wp2
  go_quiet (fail)
  go_wp2
  go_ret
  exact ⟨rfl, St.addRr (r := ⟨[], true⟩) ((H.out.drewN _).set_ 2 (.bool true)) hk hl rfl⟩
set_option maxHeartbeats 1000000 in
theorem rrnum_high {M0 : Imm} {L : List Res} (g : Nat) (A : Option Addr) (c k : Nat) (xs : List Int) (size : Int) (w : World) (hk : k ≤ xs.length) (hl : xs.length ≤ 140737488355328) (d1 : decide (size < 1) = false) (d8 : decide (8 < size) = true) (h : St M0 w (blkR g 121 #[.slice A xs.length c, .int .i64 (k : Nat), .bool false] :: intsR .u8 (.slice A xs.length c) xs :: L)) :
    Calls Tryz.prog 52 #[.pointer (some ⟨g, 0, none⟩), .int .i64 size] w fun e w' => e = .returned (.int .u64 0) ∧ St M0 w' (rrR g ⟨[], true⟩ :: L) := by
  have c0 := (h.blk 0 rfl).cell 0
  have c1 := (h.blk 0 rfl).cell 1
  have c2 := (h.blk 0 rfl).cell 2
  have f2 := (h.blk 0 rfl).frozen 2
  have H := hide h
  clear h
  go_enter Tryz.func52, Tryz.ntmps52
  go_wp2
  go_quiet (fail)
  go_wp2
  go_ret
  exact ⟨rfl, St.addRr (r := ⟨[], true⟩) ((H.out.drewN _).set_ 2 (.bool true)) hk hl rfl⟩
set_option maxHeartbeats 1000000 in
theorem rrnum_none {M0 : Imm} {L : List Res} (g : Nat) (A : Option Addr) (c k : Nat) (xs : List Int) (n : Nat) (w : World) (hk : k ≤ xs.length) (hl : xs.length ≤ 140737488355328) (h8 : n ≤ 8) (d1 : decide ((n : Int) < 1) = false) (d8 : decide (8 < (n : Int)) = false) (d2 : decide ((xs.length : Int) < (k : Int) + (n : Int)) = true) (h : St M0 w (blkR g 121 #[.slice A xs.length c, .int .i64 (k : Nat), .bool false] :: intsR .u8 (.slice A xs.length c) xs :: L)) :
    Calls Tryz.prog 52 #[.pointer (some ⟨g, 0, none⟩), .int .i64 n] w fun e w' => e = .returned (.int .u64 0) ∧ St M0 w' (rrR g ⟨[], true⟩ :: L) := by
  have c0 := (h.blk 0 rfl).cell 0
  have c1 := (h.blk 0 rfl).cell 1
  have c2 := (h.blk 0 rfl).cell 2
  have f2 := (h.blk 0 rfl).frozen 2
  have wk : IntKind.i64.wrap ((k : Int) + (n : Int)) = (k : Int) + (n : Int) := IntWalk.i64_in _ (by omega)
  have H := hide h
  clear h
  go_enter Tryz.func52, Tryz.ntmps52
  go_wp2
  go_quiet (fail)
  go_wp2
  go_ret
  exact ⟨rfl, St.addRr (r := ⟨[], true⟩) ((H.out.drewN _).set_ 2 (.bool true)) hk hl rfl⟩

set_option maxHeartbeats 1000000 in
theorem rrnum_ok {M0 : Imm} {L : List Res} (g : Nat) (A : Option Addr) (c k : Nat) (xs : List Int) (n : Nat) (w : World) (hk : k ≤ xs.length) (hl : xs.length ≤ 140737488355328) (hc : xs.length ≤ c) (hm : c ≤ 9223372036854775807) (hn1 : 1 ≤ n) (h8 : n ≤ 8) (h2 : k + n ≤ xs.length) (d1 : decide ((n : Int) < 1) = false) (d8 : decide (8 < (n : Int)) = false) (d2 : decide ((xs.length : Int) < (k : Int) + (n : Int)) = false) (hb : Bytes (xs.drop k))
    (h : St M0 w (blkR g 121 #[.slice A xs.length c, .int .i64 (k : Nat), .bool false] :: intsR .u8 (.slice A xs.length c) xs :: L)) :
    Calls Tryz.prog 52 #[.pointer (some ⟨g, 0, none⟩), .int .i64 n] w fun e w' => e = .returned (.int .u64 (ofB ((xs.drop k).take n))) ∧ St M0 w' (rrR g ⟨xs.drop (k + n), false⟩ :: L) := by
  have c0 := (h.blk 0 rfl).cell 0
  have c1 := (h.blk 0 rfl).cell 1
  have c2 := (h.blk 0 rfl).cell 2
  have f1 := (h.blk 0 rfl).frozen 1
  have wk : IntKind.i64.wrap ((k : Int) + (n : Int)) = (k : Int) + (n : Int) := IntWalk.i64_in _ (by omega)
  have H := hide h
  have HB := hide hb
  clear h hb
  go_enter Tryz.func52, Tryz.ntmps52
  go_wp2
  go_quiet (fail)
  go_wp2_with fail
  have h1 := (H.out.drewN nq).set_ 1 (.int .i64 ((k : Int) + (n : Int)))
  generalize (w.drewN nq).setCell ⟨g, 1, none⟩ (.int .i64 ((k : Int) + (n : Int))) = W at h1 ⊢
  clear c0 c1 c2 f1 H wk
  have c0 := (h1.blk 0 rfl).cell 0
  have c1 := (h1.blk 0 rfl).cell 1
  have HI : Hid (∀ m, Ints (W.drewN m) .u8 (.slice (A.map (·.add k)) n (c - k)) ((xs.drop k).take n)) := hide (fun m => (((h1.get 1 rfl).drop hk (A.map (·.add k)) (fun _ => rfl)).cut (by omega)).non ((Fr.refl _ _).drewN m))
  have H := hide h1
  have hck : ¬ c = k := by omega
  have hkc : k ≤ c := by omega
  have hkn : (k : Int) + (n : Int) ≤ (c : Int) := by omega
  have hk0 : (k : Int) ≤ (k : Int) + (n : Int) := by omega
  have wkn : IntKind.i64.wrap ((k : Int) + (n : Int) - (n : Int)) = (k : Int) := by rw [IntWalk.i64_in _ (by omega)]; omega
  have hlen : ((xs.drop k).take n).length ≤ 8 := by rw [List.length_take]; omega
  have HL := hide hlen
  clear h1 hlen d1 d8 d2
  go_quiet ((go_at_call 92; exact Calls.quiet_of_same (of_any _ _ _ (HB.out.take n) HL.out (HI.out _))))
  go_wp2
  go_ret
  refine ⟨?_, St.addRr (r := ⟨xs.drop (k + n), false⟩) (H.out.drewN _) h2 hl rfl⟩
  first | rfl | simp

theorem rrnum_st {M0 : Imm} {L : List Res} (g : Nat) (r : Rd) (size : Int) (w : World) (hb : Bytes r.xs) (h : St M0 w (rrR g r :: L)) :
    Calls Tryz.prog 52 #[.pointer (some ⟨g, 0, none⟩), .int .i64 size] w fun e w' => e = .returned (.int .u64 (r.num size).1) ∧ St M0 w' (rrR g (r.num size).2 :: L) := by
  obtain ⟨A, c, xs, k, hk, hl, hrx, hc, hm, h⟩ := h.rr
  obtain ⟨rx, s⟩ := r
  simp only at hrx h hb
  have hshut : (s = true ∨ size < 1 ∨ 8 < size ∨ rx.length < size.toNat) → Rd.num ⟨rx, s⟩ size = (0, ⟨[], true⟩) := by
    intro h
    have e : Rd.take ⟨rx, s⟩ (Rd.size ⟨rx, s⟩ size) = ([], ⟨[], true⟩) := by
      unfold Rd.take
      rw [if_pos]
      unfold Rd.size
      split
      · exact .inr (Nat.lt_succ_self _)
      · rcases h with h | h | h | h
        · exact .inl h
        · omega
        · omega
        · exact .inr h
    unfold Rd.num
    rw [e]
    rfl
  cases s with
  | true =>
    rw [hshut (.inl rfl)]
    exact rrnum_shut g A c k xs size w hk hl h
  | false =>
    rw [if_neg (by simp)] at hrx
    have hrl : rx.length = xs.length - k := by rw [hrx, List.length_drop]
    by_cases h1 : size < 1
    · rw [hshut (.inr (.inl h1))]
      exact rrnum_low g A c k xs size w hk hl (decide_eq_true h1) h
    by_cases h8 : 8 < size
    · rw [hshut (.inr (.inr (.inl h8)))]
      exact rrnum_high g A c k xs size w hk hl (decide_eq_false h1) (decide_eq_true h8) h
    obtain ⟨n, rfl⟩ := Int.eq_ofNat_of_zero_le (show 0 ≤ size by omega)
    by_cases hlt : rx.length < n
    · rw [hshut (.inr (.inr (.inr hlt)))]
      exact rrnum_none g A c k xs n w hk hl (by omega) (decide_eq_false h1) (decide_eq_false h8) (decide_eq_true (by omega)) h
    · have e : Rd.size ⟨rx, false⟩ (n : Int) = n := by unfold Rd.size; rw [if_neg (by omega)]; omega
      have E : Rd.num ⟨rx, false⟩ n = (ofB ((xs.drop k).take n), ⟨xs.drop (k + n), false⟩) := by
        unfold Rd.num
        rw [e]
        unfold Rd.take
        rw [if_neg (by simp; omega), hrx, List.drop_drop]
      rw [E]
      exact rrnum_ok g A c k xs n w hk hl hc hm (by omega) (by omega) (by omega) (decide_eq_false h1) (decide_eq_false h8) (decide_eq_false (by omega)) (hrx ▸ hb) h

set_option maxHeartbeats 400000 in
set_option maxHeartbeats 400000 in
theorem rrend_st {M0 : Imm} {L : List Res} (g : Nat) (r : Rd) (w : World) (h : St M0 w (rrR g r :: L)) :
    Calls Tryz.prog 54 #[.pointer (some ⟨g, 0, none⟩)] w fun e w' => e = .returned (.int .i64 r.endE) ∧ St M0 w' (rrR g r :: L) := by
  have H := hide h
  obtain ⟨A, c, xs, k, hk, hl, hrx, hc, hm, h1⟩ := h.rr
  obtain ⟨rx, s⟩ := r
  simp only at hrx h1
  have c0 := (h1.blk 0 rfl).cell 0
  have c1 := (h1.blk 0 rfl).cell 1
  have c2 := (h1.blk 0 rfl).cell 2
  clear h h1
  cases s with
  | true =>
    clear hrx
    go_enter Tryz.func54, Tryz.ntmps54
    go_wp2
    go_ret
    exact ⟨rfl, H.out⟩
  | false =>
    have hrl : rx.length = xs.length - k := by rw [hrx]; simp
    have HR := hide hrl
    clear hrx hrl
    by_cases hlt : k < xs.length
    · go_enter Tryz.func54, Tryz.ntmps54
      go_wp2
      go_quiet (fail)
      go_wp2
      go_ret
      have e : Rd.endE ⟨rx, false⟩ = 11 := by unfold Rd.endE; rw [if_neg (by simp), if_pos (by show 0 < rx.length; rw [HR.out]; omega)]
      exact ⟨by rw [e]; rfl, H.out.drewN _⟩
    · go_enter Tryz.func54, Tryz.ntmps54
      go_wp2
      go_quiet (fail)
      go_wp2
      go_ret
      have e : Rd.endE ⟨rx, false⟩ = 0 := by unfold Rd.endE; rw [if_neg (by simp), if_neg (by show ¬ 0 < rx.length; rw [HR.out]; omega)]
      exact ⟨by rw [e]; rfl, H.out.drewN _⟩

end Go.Proofs.YtpaelngpmbeedaaGreatDoor
/- The document's Reader.Bytes. -/
namespace Go.Proofs.YtpaelngpmbeedaaGreatDoor
open Go.RowKit

set_option maxHeartbeats 1000000 in
theorem rrbyt_st {M0 : Imm} {L : List Res} (g : Nat) (r : Rd) (w : World) (hb : Bytes r.xs) (hl : r.xs.length ≤ 140737488355328) (h : St M0 w (rrR g r :: L)) :
    Calls Tryz.prog 53 #[.pointer (some ⟨g, 0, none⟩)] w fun e w' => ∃ v, e = .returned v ∧ St M0 w' (intsR .u8 v r.byt.1 :: rrR g r.byt.2 :: L) := by
  have HN := hide (rrnum_st g r 2 w hb h)
  have hf := r.num_facts 2 hb hl
  have hn2 := r.num_2 hb
  clear h
  unfold Rd.byt
  generalize (r.num 2).1 = n at *
  generalize (r.num 2).2 = r1 at *
  obtain ⟨hb1, hl1, hn0, h64⟩ := hf
  clear h64
  have hshut : (r1.s = true ∨ 1000 < n ∨ r1.xs.length < n.toNat) → Rd.take r1 (Rd.count n r1) = ([], ⟨[], true⟩) := by
    intro h
    unfold Rd.take
    rw [if_pos]
    unfold Rd.count
    rcases h with h | h | h
    · exact .inl h
    · rw [if_pos h]; exact .inr (Nat.lt_succ_self _)
    · split
      · exact .inr (Nat.lt_succ_self _)
      · exact .inr h
  have hgood : r1.s = false → ¬ 1000 < n → ¬ r1.xs.length < n.toNat → Rd.take r1 (Rd.count n r1) = (r1.xs.take n.toNat, ⟨r1.xs.drop n.toNat, false⟩) := by
    intro h0 h1 h2
    unfold Rd.take Rd.count
    rw [if_neg h1, if_neg (by simp [h0]; omega)]
  have HSH := hide hshut
  have HGD := hide hgood
  clear hshut hgood
  have wn : IntKind.i64.wrap n = n := IntWalk.i64_in _ (by omega)
  go_enter Tryz.func53, Tryz.ntmps53
  go_wp2_with fail
  refine HN.out.mono ?_
  rintro e w1 ⟨rfl, h⟩
  clear HN
  obtain ⟨A, c, xs, k, hk, hxl, hrx, hc, hm, h⟩ := h.rr
  obtain ⟨rx, s⟩ := r1
  simp only at hrx h hb1 hl1
  have c0 := (h.blk 0 rfl).cell 0
  have c1 := (h.blk 0 rfl).cell 1
  have c2 := (h.blk 0 rfl).cell 2
  have f1 := (h.blk 0 rfl).frozen 1
  have f2 := (h.blk 0 rfl).frozen 2
  have H := hide h
  clear h
  cases s with
  | true =>
    have E := hide (HSH.out (.inl rfl))
    clear hrx HSH HGD
    go_wp2
    go_quiet (fail)
    go_wp2
    go_ret
    rw [E.out]
    exact ⟨_, rfl, (St.addRr (r := ⟨[], true⟩) ((H.out.drewN _).set_ 2 (.bool true)) hk hxl rfl).pers0 (fun w' _ => Ints.none_ w' _)⟩
  | false =>
    rw [if_neg (by simp)] at hrx
    have hrl : rx.length = xs.length - k := by rw [hrx, List.length_drop]
    have HRX := hide hrx
    clear hrx
    by_cases hbig : 1000 < n
    · have E := hide (HSH.out (.inr (.inl hbig)))
      have d1 : decide (1000 < n) = true := decide_eq_true hbig
      clear HSH HGD
      go_wp2
      go_quiet (fail)
      go_wp2
      go_ret
      rw [E.out]
      exact ⟨_, rfl, (St.addRr (r := ⟨[], true⟩) ((H.out.drewN _).set_ 2 (.bool true)) hk hxl rfl).pers0 (fun w' _ => Ints.none_ w' _)⟩
    have d1 : decide (1000 < n) = false := decide_eq_false hbig
    have wkn : IntKind.i64.wrap ((k : Int) + n) = (k : Int) + n := IntWalk.i64_in _ (by omega)
    by_cases hlt : rx.length < n.toNat
    · have E := hide (HSH.out (.inr (.inr hlt)))
      have d2 : decide ((xs.length : Int) < (k : Int) + n) = true := decide_eq_true (by omega)
      clear HSH HGD
      go_wp2
      go_quiet (fail)
      go_wp2
      go_ret
      rw [E.out]
      exact ⟨_, rfl, (St.addRr (r := ⟨[], true⟩) ((H.out.drewN _).set_ 2 (.bool true)) hk hxl rfl).pers0 (fun w' _ => Ints.none_ w' _)⟩
    · have d2 : decide ((xs.length : Int) < (k : Int) + n) = false := decide_eq_false (by omega)
      have E := hide (HGD.out rfl (by omega) hlt)
      obtain ⟨m, rfl⟩ := Int.eq_ofNat_of_zero_le hn0
      have hmt : ((m : Int)).toNat = m := by omega
      rw [hmt] at E hlt
      clear HSH HGD hmt
      go_wp2
      go_quiet (fail)
      go_wp2_with fail
      have h1 := (H.out.drewN nq).set_ 1 (.int .i64 ((k : Int) + (m : Int)))
      generalize (w1.drewN nq).setCell ⟨g, 1, none⟩ (.int .i64 ((k : Int) + (m : Int))) = W at h1 ⊢
      clear c0 c1 c2 f1 f2 H wkn
      have c0 := (h1.blk 0 rfl).cell 0
      have c1 := (h1.blk 0 rfl).cell 1
      have hkn : (k : Int) + (m : Int) ≤ (c : Int) := by omega
      have hk0 : (k : Int) ≤ (k : Int) + (m : Int) := by omega
      have wkn : IntKind.i64.wrap ((k : Int) + (m : Int) - (m : Int)) = (k : Int) := by rw [IntWalk.i64_in _ (by omega)]; omega
      have hkm : k + m ≤ xs.length := by omega
      have key : ∀ A' q cc, q = m → cc = c - k → (k < xs.length → A' = A.map (·.add k)) → ∀ W', Fr Non W W' → St M0 W' (intsR .u8 (.slice A' q cc) (rx.take m) :: rrR g ⟨rx.drop m, false⟩ :: L) := by
        rintro A' q cc rfl rfl hA' W' hF
        have h2 := (((h1.swap).copy 0 rfl).pers1 (R' := fun w' => Ints w' .u8 (.slice A' q (c - k)) (rx.take q)) (fun w' h => by rw [HRX.out]; exact (h.drop hk A' hA').cut (by omega))).grow hF
        exact (St.addRr (r := ⟨rx.drop q, false⟩) h2.dn2.swap hkm hxl (by rw [HRX.out, List.drop_drop]; rfl)).swap
      have HK := hide key
      clear h1 key d1 d2
      by_cases hck : c = k
      · obtain rfl := hck
        go_quiet (fail)
        go_wp2
        go_ret
        rw [E.out]
        exact ⟨_, rfl, HK.out A _ _ (by omega) (by omega) (fun h => by omega) _ ((Fr.refl _ _).drewN _)⟩
      · go_quiet (fail)
        go_wp2
        go_ret
        rw [E.out]
        exact ⟨_, rfl, HK.out _ _ _ (by omega) rfl (fun _ => rfl) _ ((Fr.refl _ _).drewN _)⟩
end Go.Proofs.YtpaelngpmbeedaaGreatDoor
/- What is encoded is decoded, and the other way round (plain). -/
namespace Go.Proofs.YtpaelngpmbeedaaGreatDoor

/-- what comes back of a field -/
def Fld.norm (f : Fld) : Fld := if f.k = 9 then ⟨9, 0, f.b⟩ else ⟨f.k, f.n % 256 ^ f.k.toNat, []⟩

theorem isKind_cases {k : Int} (h : isKind k = true) : k = 9 ∨ ∃ m : Nat, k = m ∧ 1 ≤ m ∧ m ≤ 8 := by
  unfold isKind at h
  simp only [Bool.or_eq_true, beq_iff_eq] at h
  rcases h with (((h | h) | h) | h) | h
  · exact .inr ⟨1, h, by omega, by omega⟩
  · exact .inr ⟨2, h, by omega, by omega⟩
  · exact .inr ⟨4, h, by omega, by omega⟩
  · exact .inr ⟨8, h, by omega, by omega⟩
  · exact .inl h
/-- one field back -/
theorem Rd.fld_back (f : Fld) (h0 : 0 ≤ f.n) (hk : isKind f.k = true) (hl : tooLong f = false) (rest : List Int) : Rd.fld ⟨fldB f ++ rest, false⟩ f.k = (f.norm, ⟨rest, false⟩) := by
  obtain ⟨k, n, b⟩ := f
  obtain ⟨n, rfl⟩ := Int.eq_ofNat_of_zero_le h0
  simp only at hk
  unfold Rd.fld fldB Fld.norm
  rcases isKind_cases hk with rfl | ⟨m, rfl, h1, h8⟩
  · have hlen : b.length ≤ 1000 := by
      unfold tooLong at hl
      simp at hl
      exact hl
    simp only [if_pos]
    unfold Rd.byt bytB
    rw [List.take_of_length_le hlen, List.append_assoc]
    have h2 := Rd.num_append b.length 2 (by omega) (by omega) (b ++ rest)
    rw [show ((2 : Nat) : Int) = 2 from rfl, show b.length % 256 ^ 2 = b.length from Nat.mod_eq_of_lt (by omega)] at h2
    rw [h2]
    have h3 : Rd.count (b.length : Int) ⟨b ++ rest, false⟩ = b.length := by
      unfold Rd.count
      rw [if_neg (by omega)]
      omega
    rw [h3, Rd.take_append]
  · have hne : ¬ ((m : Nat) : Int) = 9 := by omega
    simp only [if_neg hne]
    have e : numI (n : Int) (m : Int) = numB n m := by
      unfold numI
      rw [if_neg (by omega)]
      simp
    rw [e, Rd.num_append n m h1 h8 rest]
    simp
theorem Rd.flds_back (fs : List Fld) (h0 : ∀ f ∈ fs, 0 ≤ f.n) (hk : allKinds fs = true) (hl : fs.any tooLong = false) (rest : List Int) :
    Rd.flds ⟨fldsB fs ++ rest, false⟩ (fs.map Fld.k) = (fs.map Fld.norm, ⟨rest, false⟩) := by
  induction fs with
  | nil => rfl
  | cons f fs ih =>
    simp only [allKinds, List.all_cons, Bool.and_eq_true] at hk
    simp only [List.any_cons, Bool.or_eq_false_iff] at hl
    have e : fldsB (f :: fs) ++ rest = fldB f ++ (fldsB fs ++ rest) := by simp [fldsB]
    have ih := ih (fun x hx => h0 x (List.mem_cons_of_mem _ hx)) hk.2 hl.2
    simp only [List.map_cons, Rd.flds]
    rw [e, Rd.fld_back f (h0 f List.mem_cons_self) hk.1 hl.1, ih]

/-- a field that was read -/
theorem Rd.fld_good {r : Rd} {k : Int} (hb : Bytes r.xs) (hk : isKind k = true) (h : (r.fld k).2.s = false) :
    r.s = false ∧ r.xs = fldB (r.fld k).1 ++ (r.fld k).2.xs ∧ (r.fld k).1.k = k ∧ tooLong (r.fld k).1 = false ∧ 0 ≤ (r.fld k).1.n := by
  unfold Rd.fld at h ⊢
  rcases isKind_cases hk with rfl | ⟨m, rfl, h1, h8⟩
  · simp only [if_pos] at h ⊢
    unfold Rd.byt at h ⊢
    obtain ⟨g1, g2, g3⟩ := Rd.take_good h
    have h2 := Rd.num_good (m := 2) hb (by omega) (by omega) g1
    rw [show ((2 : Nat) : Int) = 2 from rfl] at h2
    obtain ⟨q1, q2, q3⟩ := h2
    have hn := r.num_2 hb
    generalize (r.num 2).1 = n at *
    generalize (r.num 2).2 = r1 at *
    have hsmall : ¬ 1000 < n := by
      intro hbig
      have e : Rd.count n r1 = r1.xs.length + 1 := by unfold Rd.count; rw [if_pos hbig]
      rw [e] at h
      unfold Rd.take at h
      rw [if_pos (.inr (Nat.lt_succ_self _))] at h
      cases h
    have e : Rd.count n r1 = n.toNat := by unfold Rd.count; rw [if_neg hsmall]
    rw [e] at g2 g3 ⊢
    generalize (r1.take n.toNat).1 = b at *
    generalize (r1.take n.toNat).2.xs = zs at *
    refine ⟨q1, ?_, trivial, ?_, Int.le_refl 0⟩
    · unfold fldB bytB
      rw [if_pos rfl]
      simp only
      rw [List.take_of_length_le (by omega), g3, q2, g2, List.append_assoc, show ((n.toNat : Nat) : Int) = n by omega]
    · unfold tooLong
      simp
      omega
  · have hne : ¬ ((m : Nat) : Int) = 9 := by omega
    simp only [if_neg hne] at h ⊢
    obtain ⟨g1, g2, g3⟩ := Rd.num_good hb h1 h8 h
    refine ⟨g1, ?_, trivial, ?_, g3⟩
    · unfold fldB numI
      simp only
      rw [if_neg hne, if_neg (by omega)]
      simpa using g2
    · unfold tooLong
      simp
theorem Rd.flds_good (ks : List Int) : ∀ (r : Rd), Bytes r.xs → okShape ks = true → (r.flds ks).2.s = false →
    r.s = false ∧ r.xs = fldsB (r.flds ks).1 ++ (r.flds ks).2.xs ∧ (r.flds ks).1.map Fld.k = ks ∧ (r.flds ks).1.any tooLong = false ∧ (∀ f ∈ (r.flds ks).1, 0 ≤ f.n) := by
  induction ks with
  | nil => intro r _ _ h; exact ⟨h, rfl, rfl, rfl, fun f hf => absurd hf (List.not_mem_nil)⟩
  | cons k ks ih =>
    intro r hb hk h
    simp only [okShape, List.all_cons, Bool.and_eq_true] at hk
    simp only [Rd.flds] at h ⊢
    have hb2 : Bytes (r.fld k).2.xs := by
      unfold Rd.fld
      split
      · exact (Rd.take_xs _ _ (Rd.take_xs _ _ hb).2).2
      · exact (Rd.take_xs _ _ hb).2
    obtain ⟨g1, g2, g3, g4, g5⟩ := ih (r.fld k).2 hb2 hk.2 h
    obtain ⟨q1, q2, q3, q4, q5⟩ := Rd.fld_good hb hk.1 g1
    generalize (r.fld k).1 = f at *
    generalize (r.fld k).2 = r1 at *
    refine ⟨q1, ?_, ?_, ?_, ?_⟩
    · rw [q2, g2]; simp [fldsB]
    · rw [List.map_cons, q3, g3]
    · rw [List.any_cons, q4, g4]; rfl
    · intro x hx
      rcases List.mem_cons.1 hx with rfl | hx
      · exact q5
      · exact g5 x hx
theorem allKinds_map (fs : List Fld) : okShape (fs.map Fld.k) = allKinds fs := by
  unfold okShape allKinds
  rw [List.all_map]
  rfl

/-- what is encoded is decoded -/
theorem dec_enc (fs : List Fld) (h0 : ∀ f ∈ fs, 0 ≤ f.n) (h : encE fs = 0) : decE (fs.map Fld.k) (encB fs) = 0 ∧ decL (fs.map Fld.k) (encB fs) = fs.map Fld.norm := by
  have hk : allKinds fs = true := by
    cases hc : allKinds fs with
    | true => rfl
    | false => unfold encE at h; rw [hc] at h; simp at h
  have hl : fs.any tooLong = false := by
    cases hc : fs.any tooLong with
    | false => rfl
    | true => unfold encE at h; rw [hk, hc] at h; simp at h
  have hb : encB fs = fldsB fs := by unfold encB; rw [if_pos h]
  have hf := Rd.flds_back fs h0 hk hl []
  rw [List.append_nil] at hf
  have e : decE (fs.map Fld.k) (fldsB fs) = 0 := by
    unfold decE
    rw [allKinds_map, hk, hf]
    rfl
  rw [hb]
  refine ⟨e, ?_⟩
  unfold decL
  rw [if_pos e, hf]
/-- what is decoded is encoded; with one byte more, and with some less, it is not decoded -/
theorem enc_dec (ks bs : List Int) (hb : Bytes bs) (h : decE ks bs = 0) : encE (decL ks bs) = 0 ∧ encB (decL ks bs) = bs ∧ decE ks (bs ++ [0]) = 11 ∧ ∀ n, n < bs.length → decE ks (bs.take n) = 10 := by
  have hk : okShape ks = true := by
    cases hc : okShape ks with
    | true => rfl
    | false => unfold decE at h; rw [hc] at h; simp at h
  have hL : decL ks bs = (Rd.flds ⟨bs, false⟩ ks).1 := by unfold decL; rw [if_pos h]
  have he : (Rd.flds ⟨bs, false⟩ ks).2.endE = 0 := by unfold decE at h; rw [hk] at h; exact h
  have hs : (Rd.flds ⟨bs, false⟩ ks).2.s = false ∧ (Rd.flds ⟨bs, false⟩ ks).2.xs = [] := by
    unfold Rd.endE at he
    split at he
    · cases he
    · rename_i h1
      split at he
      · cases he
      · rename_i h2
        exact ⟨by simpa using h1, List.eq_nil_of_length_eq_zero (by omega)⟩
  obtain ⟨g1, g2, g3, g4, g5⟩ := Rd.flds_good ks ⟨bs, false⟩ hb hk hs.1
  rw [hs.2, List.append_nil] at g2
  simp only at g2
  rw [hL]
  generalize (Rd.flds ⟨bs, false⟩ ks).1 = fs at *
  have hak : allKinds fs = true := by rw [← allKinds_map, g3]; exact hk
  have e0 : encE fs = 0 := by unfold encE; rw [hak, g4]; rfl
  refine ⟨e0, by unfold encB; rw [if_pos e0]; exact g2.symm, ?_, fun n hn => ?_⟩
  · have := Rd.flds_back fs g5 hak g4 [0]
    rw [g3, ← g2] at this
    unfold decE
    rw [hk, this]
    rfl
  · unfold decE
    rw [hk]
    show (Rd.flds ⟨bs.take n, false⟩ ks).2.endE = 10
    cases hc : (Rd.flds ⟨bs.take n, false⟩ ks).2.s with
    | true => unfold Rd.endE; rw [if_pos hc]
    | false =>
      exfalso
      obtain ⟨q1, q2, q3, q4, q5⟩ := Rd.flds_good ks ⟨bs.take n, false⟩ (hb.take n) hk hc
      simp only at q2
      have hak2 : allKinds (Rd.flds ⟨bs.take n, false⟩ ks).1 = true := by rw [← allKinds_map, q3]; exact hk
      have := Rd.flds_back _ q5 hak2 q4 ((Rd.flds ⟨bs.take n, false⟩ ks).2.xs ++ bs.drop n)
      rw [q3, ← List.append_assoc, ← q2, List.take_append_drop] at this
      have hx := hs.2
      rw [this] at hx
      simp at hx
      omega

end Go.Proofs.YtpaelngpmbeedaaGreatDoor
