/- disk.New: an empty disk, in new memory. -/
import Derived.Test.YthddgnnbgldfmaaDiskK
import Derived.Laws.OwnMore
namespace Go.Proofs.Ythddgnnbgldfmaa
open Go.RowKit

theorem made_rep (K m : Nat) (x : Value) (hK : 0 < K) : (madeCells (Value.agg (List.replicate K x).toArray).cells m).toList = List.replicate m x := by
  show (madeCells (List.replicate K x).toArray m).toList = List.replicate m x
  unfold madeCells
  rw [Array.toList_map, Array.toList_range, List.eq_replicate_iff]
  refine ⟨by simp, fun b hb => ?_⟩
  obtain ⟨i, _, rfl⟩ := List.mem_map.1 hb
  have : i % K < K := Nat.mod_lt _ hK
  simp [this]
theorem made_zero (m : Nat) : (madeCells (Value.agg (List.replicate 64 (.int .u8 0)).toArray).cells m).toList = bv (zeros m) := by
  rw [made_rep 64 m _ (by omega)]
  unfold bv zeros
  rw [List.map_replicate]

theorem seq_makeSlice {P : Program} {l : List Oper} {Q : Exit → Act → World → Prop} {S : World → Prop} {L : Nat} {i : Nat} {r : List Nat} {a : Act} {w w' : World} {o : Oper} {v : Value} (ho : l[i]? = some o) (hg : o.guard = none) (t : TypeId) (x y : Operand) (p u : Value) (hop : o.op = .makeSlice t x y) (hx : a.eval x = p) (hy : a.eval y = u)
    (hrun : (Instr.makeSlice t p u).run P w = .ok v w') (hS : i < L → S w') (h : wpSeq P l.toArray Q S L r (a.put o.dst v) w') : wpSeq P l.toArray Q S L (i :: r) a w :=
  seq_run ho hg (by unfold execOp; simp only [hop, hx, hy, Sem.run_bind, Sem.run_pure, Result.andThen_ok, hrun]) hS h

/-- what make lays -/
theorem make_row (n : Nat) (w : World) (hn : n ≤ 512) : ∃ w', (Instr.makeSlice 76 (.int .i64 n) (.int .i64 n)).run Try.prog w = .ok (.slice (some ⟨w.heap.size, 0, none⟩) n n) w' ∧
    w'.ownsRow 0 81 64 (.slice (some ⟨w.heap.size, 0, none⟩) n n) n (bv (zeros (n * 64))) ∧ Fr Non w w' ∧ w'.heap.size = w.heap.size + 1 := by
  obtain ⟨i0, hi0, hz0, hz1, hz2⟩ := info_parts info_sector
  have hr := run_makeSlice (P := Try.prog) w 76 81 i0 _ Try.underlying76 hi0 hz0 .i64 .i64 n n (by omega) (by omega) (by rw [hz1]; simp; omega) (by rw [hz2]; omega) (by omega)
  simp only [Int.toNat_natCast, hz1] at hr
  refine ⟨_, hr, ?_, (Fr.refl _ _).alloc _, World.size_alloc _ _⟩
  have := World.ownsRow_lit w (madeCells (Value.agg (List.replicate 64 (.int .u8 0)).toArray).cells (n * 64)) n (base := 0) (size := 64) (e := 81) (Nat.zero_le _) (by unfold maxLen; omega) (size_madeCells _ _)
  rwa [made_zero] at this

theorem build_disk3 (w : World) (A0 A1 : Option Addr) (n0 c0 n1 c1 : Nat) :
    (Instr.build 79 #[(0, .slice A0 n0 c0), (1, .slice A1 n1 c1), (3, .int .i64 (-1))]).run Try.prog w = .ok (.agg #[.slice A0 n0 c0, .slice A1 n1 c1, .slice none 0 0, .int .i64 (-1), .bool false]) w := by kernel_rfl

set_option maxHeartbeats 400000 in
theorem new_no (n : Int) (w : World) (hn : n < 1 ∨ 512 < n) :
    Calls Try.prog 32 #[.int .i64 n] w fun e w' => e = .returned (.tuple #[.pointer none, .int .i64 1]) ∧ w = w' := by
  by_cases h1 : n < 1
  · go_enter Try.func32, Try.ntmps32
    go_wp2_with fail
    go_ret2
    exact ⟨rfl, rfl⟩
  · have h2 : 512 < n := by omega
    clear hn
    go_enter Try.func32, Try.ntmps32
    go_wp2_with fail
    go_ret2
    exact ⟨rfl, rfl⟩

set_option maxRecDepth 100000 in
set_option maxHeartbeats 1000000 in
theorem new_yes (n : Nat) (w : World) (h1 : 1 ≤ n) (h2 : n ≤ 512) :
    Calls Try.prog 32 #[.int .i64 n] w fun e w' => ∃ g, e = .returned (.tuple #[.pointer (some ⟨g, 0, none⟩), .int .i64 0]) ∧ w.heap.size ≤ g ∧ DiskAt w' g (DS.new n) (Plus Non w w') ∧ Fr Non w w' := by
  have h1' : ¬ (n : Int) < 1 := by omega
  have h2' : ¬ 512 < (n : Int) := by omega
  go_enter Try.func32, Try.ntmps32
  go_wp2_with fail
  refine region_mixs (fun W => True ∧ True) 8 5 [0, 2] [[1, 3, 4, 5, 6, 7], [3, 1, 4, 5, 6, 7]] (by kernel_rfl) (by kernel_rfl)
    (fun d => by cases d <;> exact fun _ _ _ _ h => h) (fun W3 hW3 => ?_)
  have hF3 : Fr Non w W3 := by rw [hW3]; exact (Fr.refl _ _).drew
  have hz3 : W3.heap.size = w.heap.size := by rw [hW3]; rfl
  clear hW3
  refine ⟨⟨trivial, trivial⟩, ?_⟩
  iterate 2 (refine take_run rfl rfl (fun W hW => by (rcases hW with ⟨_, _⟩; go_simp; try rfl)) ?_; simp only [Act.put, List.setIfInBounds_toArray, List.set_cons_succ, List.set_cons_zero])
  obtain ⟨W4, r4, o4, F4, z4⟩ := make_row n W3 h2
  obtain ⟨W5, r5, o5, F5, z5⟩ := make_row n W4 h2
  intro tl htl
  simp only [List.mem_cons, List.not_mem_nil, or_false] at htl
  rcases htl with rfl | rfl
  · refine seq_makeSlice rfl rfl 76 _ _ (.int .i64 n) (.int .i64 n) rfl rfl rfl r4 (fun _ => ⟨trivial, trivial⟩) ?_
    (simp only [Act.put, List.setIfInBounds_toArray, List.set_cons_succ, List.set_cons_zero])
    refine seq_makeSlice rfl rfl 76 _ _ (.int .i64 n) (.int .i64 n) rfl rfl rfl r5 (fun _ => ⟨trivial, trivial⟩) ?_
    (simp only [Act.put, List.setIfInBounds_toArray, List.set_cons_succ, List.set_cons_zero])
    refine seq_build rfl rfl 79 _ [(0, .slice (some ⟨W3.heap.size, 0, none⟩) n n), (1, .slice (some ⟨W4.heap.size, 0, none⟩) n n), (3, .int .i64 (-1))] rfl rfl (build_disk3 W5 (some ⟨W3.heap.size, 0, none⟩) (some ⟨W4.heap.size, 0, none⟩) n n n n) (fun _ => ⟨trivial, trivial⟩) ?_
    (simp only [Act.put, List.setIfInBounds_toArray, List.set_cons_succ, List.set_cons_zero])
    refine seq_box rfl rfl 79 _ _ rfl rfl (box_disk W5 (some ⟨W3.heap.size, 0, none⟩) (some ⟨W4.heap.size, 0, none⟩) none n n n n 0 0 (-1) false) (fun _ => ⟨trivial, trivial⟩) ?_
    (simp only [Act.put, List.setIfInBounds_toArray, List.set_cons_succ, List.set_cons_zero])
    refine seq_read rfl rfl (v := .pointer (some ⟨W5.heap.size, 0, none⟩)) (by (go_simp; try rfl)) (fun _ => ⟨trivial, trivial⟩) ?_
    (simp only [Act.put, List.setIfInBounds_toArray, List.set_cons_succ, List.set_cons_zero])
    refine seq_read rfl rfl (v := .int .i64 0) (by (go_simp; try rfl)) (fun _ => ⟨trivial, trivial⟩) ?_
    (simp only [Act.put, List.setIfInBounds_toArray, List.set_cons_succ, List.set_cons_zero])
    refine seq_nil ?_
    have hal : Fr Non W5 (W5.alloc (.cells #[.slice (some ⟨W3.heap.size, 0, none⟩) n n, .slice (some ⟨W4.heap.size, 0, none⟩) n n, .slice none 0 0, .int .i64 (-1), .bool false] 79)) := (Fr.refl _ _).alloc _
    have hnew := Blk.new W5 79 #[.slice (some ⟨W3.heap.size, 0, none⟩) n n, .slice (some ⟨W4.heap.size, 0, none⟩) n n, .slice none 0 0, .int .i64 (-1), .bool false]
    have hz := World.size_alloc W5 (.cells #[.slice (some ⟨W3.heap.size, 0, none⟩) n n, .slice (some ⟨W4.heap.size, 0, none⟩) n n, .slice none 0 0, .int .i64 (-1), .bool false] 79)
    generalize W5.alloc (.cells #[.slice (some ⟨W3.heap.size, 0, none⟩) n n, .slice (some ⟨W4.heap.size, 0, none⟩) n n, .slice none 0 0, .int .i64 (-1), .bool false] 79) = W7 at hal hnew hz
    have HZ := hide (And.intro hz (And.intro z4 (And.intro z5 hz3)))
    clear hz z4 z5 hz3
    go_wp2_with fail
    go_ret2
    obtain ⟨hz, z4, z5, hz3⟩ := HZ.out
    refine ⟨W5.heap.size, rfl, by omega, ⟨W3.heap.size, n, W4.heap.size, n, none, 0, ?_⟩, ((hF3.trans F4).trans F5).trans hal⟩
    refine ⟨hnew, own_non (own_non o4 F5) hal, own_non o5 hal, World.ownsRow_nil _ _ _ _, by omega, .inr ⟨by omega, by omega⟩, .inr ⟨by omega, by omega⟩, .inr ⟨by omega, by omega⟩, fun b hb => by simp [Value.ownBlock] at hb, ?_⟩
    rintro b (h | h)
    · exact h.elim
    · exact h.2
  · refine seq_makeSlice rfl rfl 76 _ _ (.int .i64 n) (.int .i64 n) rfl rfl rfl r4 (fun _ => ⟨trivial, trivial⟩) ?_
    (simp only [Act.put, List.setIfInBounds_toArray, List.set_cons_succ, List.set_cons_zero])
    refine seq_makeSlice rfl rfl 76 _ _ (.int .i64 n) (.int .i64 n) rfl rfl rfl r5 (fun _ => ⟨trivial, trivial⟩) ?_
    (simp only [Act.put, List.setIfInBounds_toArray, List.set_cons_succ, List.set_cons_zero])
    refine seq_build rfl rfl 79 _ [(0, .slice (some ⟨W4.heap.size, 0, none⟩) n n), (1, .slice (some ⟨W3.heap.size, 0, none⟩) n n), (3, .int .i64 (-1))] rfl rfl (build_disk3 W5 (some ⟨W4.heap.size, 0, none⟩) (some ⟨W3.heap.size, 0, none⟩) n n n n) (fun _ => ⟨trivial, trivial⟩) ?_
    (simp only [Act.put, List.setIfInBounds_toArray, List.set_cons_succ, List.set_cons_zero])
    refine seq_box rfl rfl 79 _ _ rfl rfl (box_disk W5 (some ⟨W4.heap.size, 0, none⟩) (some ⟨W3.heap.size, 0, none⟩) none n n n n 0 0 (-1) false) (fun _ => ⟨trivial, trivial⟩) ?_
    (simp only [Act.put, List.setIfInBounds_toArray, List.set_cons_succ, List.set_cons_zero])
    refine seq_read rfl rfl (v := .pointer (some ⟨W5.heap.size, 0, none⟩)) (by (go_simp; try rfl)) (fun _ => ⟨trivial, trivial⟩) ?_
    (simp only [Act.put, List.setIfInBounds_toArray, List.set_cons_succ, List.set_cons_zero])
    refine seq_read rfl rfl (v := .int .i64 0) (by (go_simp; try rfl)) (fun _ => ⟨trivial, trivial⟩) ?_
    (simp only [Act.put, List.setIfInBounds_toArray, List.set_cons_succ, List.set_cons_zero])
    refine seq_nil ?_
    have hal : Fr Non W5 (W5.alloc (.cells #[.slice (some ⟨W4.heap.size, 0, none⟩) n n, .slice (some ⟨W3.heap.size, 0, none⟩) n n, .slice none 0 0, .int .i64 (-1), .bool false] 79)) := (Fr.refl _ _).alloc _
    have hnew := Blk.new W5 79 #[.slice (some ⟨W4.heap.size, 0, none⟩) n n, .slice (some ⟨W3.heap.size, 0, none⟩) n n, .slice none 0 0, .int .i64 (-1), .bool false]
    have hz := World.size_alloc W5 (.cells #[.slice (some ⟨W4.heap.size, 0, none⟩) n n, .slice (some ⟨W3.heap.size, 0, none⟩) n n, .slice none 0 0, .int .i64 (-1), .bool false] 79)
    generalize W5.alloc (.cells #[.slice (some ⟨W4.heap.size, 0, none⟩) n n, .slice (some ⟨W3.heap.size, 0, none⟩) n n, .slice none 0 0, .int .i64 (-1), .bool false] 79) = W7 at hal hnew hz
    have HZ := hide (And.intro hz (And.intro z4 (And.intro z5 hz3)))
    clear hz z4 z5 hz3
    go_wp2_with fail
    go_ret2
    obtain ⟨hz, z4, z5, hz3⟩ := HZ.out
    refine ⟨W5.heap.size, rfl, by omega, ⟨W4.heap.size, n, W3.heap.size, n, none, 0, ?_⟩, ((hF3.trans F4).trans F5).trans hal⟩
    refine ⟨hnew, own_non o5 hal, own_non (own_non o4 F5) hal, World.ownsRow_nil _ _ _ _, by omega, .inr ⟨by omega, by omega⟩, .inr ⟨by omega, by omega⟩, .inr ⟨by omega, by omega⟩, fun b hb => by simp [Value.ownBlock] at hb, ?_⟩
    rintro b (h | h)
    · exact h.elim
    · exact h.2

theorem new_any (n : Int) (w : World) (h1 : 1 ≤ n) (h2 : n ≤ 512) :
    Calls Try.prog 32 #[.int .i64 n] w fun e w' => ∃ g, e = .returned (.tuple #[.pointer (some ⟨g, 0, none⟩), .int .i64 0]) ∧ w.heap.size ≤ g ∧ DiskAt w' g (DS.new n.toNat) (Plus Non w w') ∧ Fr Non w w' := by
  obtain ⟨k, rfl⟩ := Int.eq_ofNat_of_zero_le (show 0 ≤ n by omega)
  exact new_yes k w (by omega) (by omega)

end Go.Proofs.Ythddgnnbgldfmaa
