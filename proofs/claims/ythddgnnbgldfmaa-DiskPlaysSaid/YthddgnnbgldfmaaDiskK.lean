/- (*Disk).Copy: another disk that is alike, in new memory. -/
import Derived.Test.YthddgnnbgldfmaaDiskC
namespace Go.Proofs.Ythddgnnbgldfmaa
open Go.RowKit

theorem clone_row {b n c : Nat} {xs : List Value} {w : World} (h : w.ownsRow 0 81 64 (.slice (some ⟨b, 0, none⟩) n c) n xs) (h1 : ∀ u ∈ xs, u.oneCell' = true) (hn : 0 < n) (hn' : n ≤ 512) :
    Calls Try.prog 49 #[.slice (some ⟨b, 0, none⟩) n c] w fun e w' => ∃ g c', e = .returned (.slice (some ⟨g, 0, none⟩) n c') ∧ w'.ownsRow 0 81 64 (.slice (some ⟨g, 0, none⟩) n c') n xs ∧ w.heap.size ≤ g ∧ g < w'.heap.size ∧ Fr Non w w' := by
  refine (clone_sector ⟨b, 0, none⟩ n c xs w h.1 (h.cells (g := b) rfl) h1 (by omega)).mono ?_
  rintro e w5 ⟨v, g5, rfl, hown5, hob, hge, hlt5, hF5⟩
  obtain ⟨A5, c5, rfl⟩ : ∃ A5 c5, v = .slice A5 n c5 := by
    rcases hown5.2 with ⟨rfl, h0⟩ | ⟨b5, cap5, cur5, rfl, _⟩
    · omega
    · exact ⟨_, _, rfl⟩
  obtain ⟨g5', rfl⟩ := own_form hown5 hn
  obtain rfl : g5' = g5 := by simpa [Value.ownBlock] using hob
  exact ⟨_, _, rfl, hown5, hge, hlt5, hF5⟩

theorem clone_pend {A : Option Addr} {n c : Nat} {xs : List Value} {w : World} (h : w.ownsRow 0 83 65 (.slice A n c) n xs) (h1 : ∀ u ∈ xs, u.oneCell' = true) (hn' : n ≤ 1000000) :
    Calls Try.prog 50 #[.slice A n c] w fun e w' => ∃ A' c', e = .returned (.slice A' n c') ∧ w'.ownsRow 0 83 65 (.slice A' n c') n xs ∧ (∀ b, (Value.slice A' n c').ownBlock = some b → w.heap.size ≤ b ∧ b < w'.heap.size) ∧ Fr Non w w' := by
  rcases h.2 with ⟨hv, h0⟩ | ⟨g, cap, cur, hv, _⟩
  · have hA : A = none := by injection hv
    subst hA
    subst h0
    obtain rfl : xs = [] := List.eq_nil_of_length_eq_zero (by have := h.1; omega)
    refine (clone_write_nil 0 c w).mono ?_
    rintro e w' ⟨rfl, rfl⟩
    exact ⟨none, 0, rfl, World.ownsRow_nil _ _ _ _, fun b e => by simp [Value.ownBlock] at e, Fr.refl _ _⟩
  · have hA : A = some ⟨g, 0, none⟩ := by injection hv
    subst hA
    refine (clone_write ⟨g, 0, none⟩ n c xs w h.1 (h.cells (g := g) rfl) h1 (by omega)).mono ?_
    rintro e w5 ⟨v, g5, rfl, hown5, hob, hge, hlt5, hF5⟩
    obtain ⟨A5, c5, rfl⟩ : ∃ A5 c5, v = .slice A5 n c5 := by
      rcases hown5.2 with ⟨rfl, h0⟩ | ⟨b5, cap5, cur5, rfl, _⟩
      · simp [Value.ownBlock] at hob
      · exact ⟨_, _, rfl⟩
    refine ⟨_, _, rfl, hown5, fun b hb => ?_, hF5⟩
    rw [hob] at hb
    injection hb with hb
    omega

theorem pv_cells (l : List (Nat × List Int)) : ∀ u ∈ pv l, u.oneCell' = true := by
  intro u hu
  obtain ⟨p, _, hp⟩ := List.mem_flatMap.1 hu
  exact wv_one p u hp
theorem build_disk (w : World) (A0 A1 A2 : Option Addr) (n0 c0 n1 c1 n2 c2 : Nat) (x : Int) (y : Bool) :
    (Instr.build 79 #[(0, .slice A0 n0 c0), (1, .slice A1 n1 c1), (2, .slice A2 n2 c2), (3, .int .i64 x), (4, .bool y)]).run Try.prog w = .ok (.agg #[.slice A0 n0 c0, .slice A1 n1 c1, .slice A2 n2 c2, .int .i64 x, .bool y]) w := by kernel_rfl
theorem box_disk (w : World) (A0 A1 A2 : Option Addr) (n0 c0 n1 c1 n2 c2 : Nat) (x : Int) (y : Bool) :
    (Instr.box 79 (.agg #[.slice A0 n0 c0, .slice A1 n1 c1, .slice A2 n2 c2, .int .i64 x, .bool y])).run Try.prog w = .ok (.pointer (some ⟨w.heap.size, 0, none⟩)) (w.alloc (.cells #[.slice A0 n0 c0, .slice A1 n1 c1, .slice A2 n2 c2, .int .i64 x, .bool y] 79)) := by kernel_rfl

set_option maxRecDepth 100000 in
set_option maxHeartbeats 1000000 in
theorem copy_any (g : Nat) (D : DS) (F : Nat → Prop) (w : World) (ho : D.ok) (hp : D.pend.length < 1000000) (hb : DiskAt w g D F) :
    Calls Try.prog 31 #[.pointer (some ⟨g, 0, none⟩)] w fun e w' => ∃ g', e = .returned (.pointer (some ⟨g', 0, none⟩)) ∧ w.heap.size ≤ g' ∧ DiskAt w' g' D (Plus Non w w') ∧ Fr Non w w' := by
  have hlt := hide hb.lt
  obtain ⟨b1, c1, b2, c2, A3, c3, hD⟩ := hb
  go_enter Try.func31, Try.ntmps31
  go_wp2_with fail
  refine region_mix (fun W => Fr Non w W ∧ W.cell? ⟨g, 0, none⟩ = some (.slice (some ⟨b1, 0, none⟩) D.n c1) ∧ W.cell? ⟨g, 1, none⟩ = some (.slice (some ⟨b2, 0, none⟩) D.n c2) ∧ W.cell? ⟨g, 2, none⟩ = some (.slice A3 D.pend.length c3) ∧ W.cell? ⟨g, 3, none⟩ = some (.int .i64 D.fuse) ∧ W.cell? ⟨g, 4, none⟩ = some (.bool D.down)) 26
    [0, 1, 2, 3, 5, 6, 7, 8, 10, 11, 12, 13, 15, 16, 17, 18, 19, 20, 21, 22] [4, 9, 14, 23, 24, 25] (by kernel_rfl) (by kernel_rfl)
    (fun d => by cases d <;> exact fun _ _ _ _ h => h) (fun W3 hW3 => ?_)
  have hS (W : World) (hF : Fr Non w W) : Fr Non w W ∧ W.cell? ⟨g, 0, none⟩ = some (.slice (some ⟨b1, 0, none⟩) D.n c1) ∧ W.cell? ⟨g, 1, none⟩ = some (.slice (some ⟨b2, 0, none⟩) D.n c2) ∧ W.cell? ⟨g, 2, none⟩ = some (.slice A3 D.pend.length c3) ∧ W.cell? ⟨g, 3, none⟩ = some (.int .i64 D.fuse) ∧ W.cell? ⟨g, 4, none⟩ = some (.bool D.down) := by
    have hk := hD.blk.fr hF (fun x => x)
    exact ⟨hF, (hk.cell 0).trans rfl, (hk.cell 1).trans rfl, (hk.cell 2).trans rfl, (hk.cell 3).trans rfl, (hk.cell 4).trans rfl⟩
  have hF3 : Fr Non w W3 := by rw [hW3]; exact (Fr.refl _ _).drew
  have HW3 := hide hW3
  clear hW3
  refine ⟨hS W3 hF3, ?_⟩
  iterate 20 (refine take_run rfl rfl (fun W hW => by (rcases hW with ⟨_, _⟩; go_simp; try rfl)) ?_; simp only [Act.put, List.setIfInBounds_toArray, List.set_cons_succ, List.set_cons_zero])
  have hD3 := hD.fr hF3 (fun _ _ x => x)
  refine seq_call (f := 49) (args := #[.slice (some ⟨b1, 0, none⟩) D.n c1]) rfl rfl ?_ ?_
  focus go_simp
  refine (clone_row hD3.seen (bv_one _) ho.n1 ho.n2).mono ?_
  rintro e W4 ⟨g0, k0, rfl, own0, ge0, lt0, F4⟩
  refine ⟨_, rfl, fun _ => hS W4 (hF3.trans F4), ?_⟩
  (simp only [Act.put, List.setIfInBounds_toArray, List.set_cons_succ, List.set_cons_zero])
  have hD4 := hD3.fr F4 (fun _ _ x => x)
  refine seq_call (f := 49) (args := #[.slice (some ⟨b2, 0, none⟩) D.n c2]) rfl rfl ?_ ?_
  focus go_simp
  refine (clone_row hD4.sure (bv_one _) ho.n1 ho.n2).mono ?_
  rintro e W5 ⟨g1, k1, rfl, own1, ge1, lt1, F5⟩
  refine ⟨_, rfl, fun _ => hS W5 ((hF3.trans F4).trans F5), ?_⟩
  (simp only [Act.put, List.setIfInBounds_toArray, List.set_cons_succ, List.set_cons_zero])
  have hD5 := hD4.fr F5 (fun _ _ x => x)
  refine seq_call (f := 50) (args := #[.slice A3 D.pend.length c3]) rfl rfl ?_ ?_
  focus go_simp
  refine (clone_pend hD5.pend (pv_cells _) (by omega)).mono ?_
  rintro e W6 ⟨A6, k6, rfl, own6, nw6, F6⟩
  refine ⟨_, rfl, fun _ => hS W6 (((hF3.trans F4).trans F5).trans F6), ?_⟩
  (simp only [Act.put, List.setIfInBounds_toArray, List.set_cons_succ, List.set_cons_zero])
  refine seq_build rfl rfl 79 _ [(0, .slice (some ⟨g0, 0, none⟩) D.n k0), (1, .slice (some ⟨g1, 0, none⟩) D.n k1), (2, .slice A6 D.pend.length k6), (3, .int .i64 D.fuse), (4, .bool D.down)] rfl rfl (build_disk W6 (some ⟨g0, 0, none⟩) (some ⟨g1, 0, none⟩) A6 D.n k0 D.n k1 D.pend.length k6 D.fuse D.down) (fun _ => hS W6 (((hF3.trans F4).trans F5).trans F6)) ?_
  (simp only [Act.put, List.setIfInBounds_toArray, List.set_cons_succ, List.set_cons_zero])
  refine seq_box rfl rfl 79 _ _ rfl rfl (box_disk W6 (some ⟨g0, 0, none⟩) (some ⟨g1, 0, none⟩) A6 D.n k0 D.n k1 D.pend.length k6 D.fuse D.down) (fun _ => hS _ ((((hF3.trans F4).trans F5).trans F6).alloc _)) ?_
  (simp only [Act.put, List.setIfInBounds_toArray, List.set_cons_succ, List.set_cons_zero])
  refine seq_read rfl rfl (v := .pointer (some ⟨W6.heap.size, 0, none⟩)) (by (go_simp; try rfl)) (fun _ => hS _ ((((hF3.trans F4).trans F5).trans F6).alloc _)) ?_
  (simp only [Act.put, List.setIfInBounds_toArray, List.set_cons_succ, List.set_cons_zero])
  refine seq_nil ?_
  have FF := (((hF3.trans F4).trans F5).trans F6).alloc (.cells #[.slice (some ⟨g0, 0, none⟩) D.n k0, .slice (some ⟨g1, 0, none⟩) D.n k1, .slice A6 D.pend.length k6, .int .i64 D.fuse, .bool D.down] 79)
  have hal : Fr Non W6 (W6.alloc (.cells #[.slice (some ⟨g0, 0, none⟩) D.n k0, .slice (some ⟨g1, 0, none⟩) D.n k1, .slice A6 D.pend.length k6, .int .i64 D.fuse, .bool D.down] 79)) := (Fr.refl _ _).alloc _
  have hnew := Blk.new W6 79 #[.slice (some ⟨g0, 0, none⟩) D.n k0, .slice (some ⟨g1, 0, none⟩) D.n k1, .slice A6 D.pend.length k6, .int .i64 D.fuse, .bool D.down]
  have hz := World.size_alloc W6 (.cells #[.slice (some ⟨g0, 0, none⟩) D.n k0, .slice (some ⟨g1, 0, none⟩) D.n k1, .slice A6 D.pend.length k6, .int .i64 D.fuse, .bool D.down] 79)
  generalize W6.alloc (.cells #[.slice (some ⟨g0, 0, none⟩) D.n k0, .slice (some ⟨g1, 0, none⟩) D.n k1, .slice A6 D.pend.length k6, .int .i64 D.fuse, .bool D.down] 79) = W7 at FF hal hnew hz
  have HZ := hide hz
  clear hz
  go_wp2_with fail
  go_ret
  have hz := HZ.out
  have z3 := hF3.size
  have z4 := F4.size
  have z5 := F5.size
  have z6 := F6.size
  refine ⟨W6.heap.size, rfl, by omega, ⟨g0, k0, g1, k1, A6, k6, ?_⟩, FF⟩
  refine ⟨hnew, own_non (own_non (own_non own0 F5) F6) hal, own_non (own_non own1 F6) hal, own_non own6 hal, by omega, .inr ⟨by omega, by omega⟩, .inr ⟨by omega, by omega⟩, .inr ⟨by omega, by omega⟩, fun b hb => .inr ?_, ?_⟩
  · have := nw6 b hb
    exact ⟨by omega, by omega⟩
  · rintro b (h | h)
    · exact h.elim
    · exact h.2

end Go.Proofs.Ythddgnnbgldfmaa
