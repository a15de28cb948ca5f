/- Which regions are held: (*Holder).Regions. -/
import Derived.Test.YthddgnnbgldfmaaHolderS
import Derived.Test.YthddgnnbgldfmaaWords
namespace Go.Proofs.Ythddgnnbgldfmaa
open Go.RowKit

/-- the regions below k that are held -/
def HS.heldTo (s : HS) : Nat → List Int
  | 0 => []
  | k + 1 => s.heldTo k ++ (if s.m k = 0 then [] else [(k : Int)])
theorem HS.heldTo_length (s : HS) (k : Nat) : (s.heldTo k).length ≤ k := by
  induction k with
  | zero => simp [HS.heldTo]
  | succ k ih => simp only [HS.heldTo, List.length_append]; split <;> simp <;> omega

theorem HS.heldTo_pos {s : HS} {k : Nat} (h : s.m k ≠ 0) : s.heldTo (k + 1) = s.heldTo k ++ [(k : Int)] := by simp [HS.heldTo, h]
theorem HS.heldTo_zero {s : HS} {k : Nat} (h : s.m k = 0) : s.heldTo (k + 1) = s.heldTo k := by simp [HS.heldTo, h]

theorem info_int : (Try.prog.info? 3).map (fun i => (i.zero, i.size, i.bytes)) = some (some (.int .i64 0), 1, 8) := by kernel_rfl

theorem idx0 {P : Program} (w : World) (m0 t0 u0 m1 t1 u1 m2 t2 u2 m3 t3 u3 : Value) (hP : P = Try.prog) :
    (Instr.index 27 (.agg #[m0, t0, u0, m1, t1, u1, m2, t2, u2, m3, t3, u3]) (.int .i64 0)).run P w = .ok (.agg #[m0, t0, u0]) w := by subst hP; kernel_rfl
theorem idx1 {P : Program} (w : World) (m0 t0 u0 m1 t1 u1 m2 t2 u2 m3 t3 u3 : Value) (hP : P = Try.prog) :
    (Instr.index 27 (.agg #[m0, t0, u0, m1, t1, u1, m2, t2, u2, m3, t3, u3]) (.int .i64 1)).run P w = .ok (.agg #[m1, t1, u1]) w := by subst hP; kernel_rfl
theorem idx2 {P : Program} (w : World) (m0 t0 u0 m1 t1 u1 m2 t2 u2 m3 t3 u3 : Value) (hP : P = Try.prog) :
    (Instr.index 27 (.agg #[m0, t0, u0, m1, t1, u1, m2, t2, u2, m3, t3, u3]) (.int .i64 2)).run P w = .ok (.agg #[m2, t2, u2]) w := by subst hP; kernel_rfl
theorem idx3 {P : Program} (w : World) (m0 t0 u0 m1 t1 u1 m2 t2 u2 m3 t3 u3 : Value) (hP : P = Try.prog) :
    (Instr.index 27 (.agg #[m0, t0, u0, m1, t1, u1, m2, t2, u2, m3, t3, u3]) (.int .i64 3)).run P w = .ok (.agg #[m3, t3, u3]) w := by subst hP; kernel_rfl

set_option maxHeartbeats 1000000 in
theorem regions_spec (g : Nat) (s : HS) (w : World) (hs : s.ok) (hb : HolderAt w g s) :
    Calls Try.prog 21 #[.pointer (some ⟨g, 0, none⟩)] w fun e w' => ∃ v, e = .returned v ∧ Nums w' (fun b => w.heap.size ≤ b) .i64 v (s.heldTo 4) ∧ Fr Non w w' := by
  have c0 := (hb.cell 0).trans (hcells_m s (r := 0) (by omega))
  have c1 := (hb.cell 1).trans (hcells_t s (r := 0) (by omega))
  have c2 := (hb.cell 2).trans (hcells_u s (r := 0) (by omega))
  have c3 := (hb.cell 3).trans (hcells_m s (r := 1) (by omega))
  have c4 := (hb.cell 4).trans (hcells_t s (r := 1) (by omega))
  have c5 := (hb.cell 5).trans (hcells_u s (r := 1) (by omega))
  have c6 := (hb.cell 6).trans (hcells_m s (r := 2) (by omega))
  have c7 := (hb.cell 7).trans (hcells_t s (r := 2) (by omega))
  have c8 := (hb.cell 8).trans (hcells_u s (r := 2) (by omega))
  have c9 := (hb.cell 9).trans (hcells_m s (r := 3) (by omega))
  have c10 := (hb.cell 10).trans (hcells_t s (r := 3) (by omega))
  have c11 := (hb.cell 11).trans (hcells_u s (r := 3) (by omega))
  clear hb
  go_enter Try.func21, Try.ntmps21
  go_wp2
  go_loopw [3, 10] (fun v i wr => ∃ k : Nat, k ≤ 4 ∧ i = .int .i64 k ∧ wr.ownsRow w.heap.size 3 1 v (s.heldTo k).length ((s.heldTo k).map (Value.int .i64)) ∧ Fr Non w wr) (fun _ i _ => 4 - (intOf i).toNat)
  case atStart => exact ⟨0, Nat.zero_le _, rfl, World.ownsRow_nil _ _ _ _, Fr.refl _ _⟩
  case round =>
    obtain ⟨k, hk, rfl, hown, hf⟩ := hrel
    have x0 := fun w m0 t0 u0 m1 t1 u1 m2 t2 u2 m3 t3 u3 => idx0 w m0 t0 u0 m1 t1 u1 m2 t2 u2 m3 t3 u3 rfl
    have x1 := fun w m0 t0 u0 m1 t1 u1 m2 t2 u2 m3 t3 u3 => idx1 w m0 t0 u0 m1 t1 u1 m2 t2 u2 m3 t3 u3 rfl
    have x2 := fun w m0 t0 u0 m1 t1 u1 m2 t2 u2 m3 t3 u3 => idx2 w m0 t0 u0 m1 t1 u1 m2 t2 u2 m3 t3 u3 rfl
    have x3 := fun w m0 t0 u0 m1 t1 u1 m2 t2 u2 m3 t3 u3 => idx3 w m0 t0 u0 m1 t1 u1 m2 t2 u2 m3 t3 u3 rfl
    have hsz := hf.size
    by_cases h4 : k = 4
    · subst h4
      go_wp2
      go_ret
      exact ⟨_, rfl, Nums.of_own hown (by have := s.heldTo_length 4; omega), hf⟩
    have hlen := s.heldTo_length k
    have HO := hide hown
    have HF := hide hf
    have hk4 : k = 0 ∨ k = 1 ∨ k = 2 ∨ k = 3 := by omega
    clear hown hf h4 hk
    rcases hk4 with rfl | rfl | rfl | rfl
    · rcases hs 0 (by omega) with ⟨hm, ht, hu⟩ | ⟨hm, ht⟩
      · have HH := hide (HS.heldTo_zero (s := s) (k := 0) hm)
        clear x1 x2 x3 c0 c1 c2 c3 c4 c5 c6 c7 c8 c9 c10 c11
        go_wp2
        go_roundw
        case rel => exact ⟨1, by omega, rfl, HH.out ▸ HO.out.alloc _, HF.out.alloc _⟩
        case measure => simp [intOf]
      · have hmf : (s.m 0 == 0) = false := isF (by omega)
        have HH := hide (HS.heldTo_pos (s := s) (k := 0) (by omega))
        clear hm ht
        clear x1 x2 x3 c0 c1 c2 c3 c4 c5 c6 c7 c8 c9 c10 c11
        go_wp2_with (at_builtin; refine append1 rfl _ _ 44 rfl w.heap.size 3 (.int .i64 0) 8 Try.underlying44 info_int rfl _ _ _ rfl ((HO.out.alloc _).alloc _) (wr.heap.size + 1) (.int .i64 0) rfl (cell_new _ _ _ (by simp)) rfl (by omega) (by omega) (by simp; omega) ?_; intro v1 w1 hown1 hf1)
        go_roundw
        case rel => exact ⟨1, by omega, rfl, own_congr hown1 (by rw [HH.out]; simp) (by rw [HH.out]; simp), ((HF.out.alloc _).alloc _).step hf1 (fun i h1 h2 => by omega)⟩
        case measure => simp [intOf]
    · rcases hs 1 (by omega) with ⟨hm, ht, hu⟩ | ⟨hm, ht⟩
      · have HH := hide (HS.heldTo_zero (s := s) (k := 1) hm)
        clear x0 x2 x3 c0 c1 c2 c3 c4 c5 c6 c7 c8 c9 c10 c11
        go_wp2
        go_roundw
        case rel => exact ⟨2, by omega, rfl, HH.out ▸ HO.out.alloc _, HF.out.alloc _⟩
        case measure => simp [intOf]
      · have hmf : (s.m 1 == 0) = false := isF (by omega)
        have HH := hide (HS.heldTo_pos (s := s) (k := 1) (by omega))
        clear hm ht
        clear x0 x2 x3 c0 c1 c2 c3 c4 c5 c6 c7 c8 c9 c10 c11
        go_wp2_with (at_builtin; refine append1 rfl _ _ 44 rfl w.heap.size 3 (.int .i64 0) 8 Try.underlying44 info_int rfl _ _ _ rfl ((HO.out.alloc _).alloc _) (wr.heap.size + 1) (.int .i64 1) rfl (cell_new _ _ _ (by simp)) rfl (by omega) (by omega) (by simp; omega) ?_; intro v1 w1 hown1 hf1)
        go_roundw
        case rel => exact ⟨2, by omega, rfl, own_congr hown1 (by rw [HH.out]; simp) (by rw [HH.out]; simp), ((HF.out.alloc _).alloc _).step hf1 (fun i h1 h2 => by omega)⟩
        case measure => simp [intOf]
    · rcases hs 2 (by omega) with ⟨hm, ht, hu⟩ | ⟨hm, ht⟩
      · have HH := hide (HS.heldTo_zero (s := s) (k := 2) hm)
        clear x0 x1 x3 c0 c1 c2 c3 c4 c5 c6 c7 c8 c9 c10 c11
        go_wp2
        go_roundw
        case rel => exact ⟨3, by omega, rfl, HH.out ▸ HO.out.alloc _, HF.out.alloc _⟩
        case measure => simp [intOf]
      · have hmf : (s.m 2 == 0) = false := isF (by omega)
        have HH := hide (HS.heldTo_pos (s := s) (k := 2) (by omega))
        clear hm ht
        clear x0 x1 x3 c0 c1 c2 c3 c4 c5 c6 c7 c8 c9 c10 c11
        go_wp2_with (at_builtin; refine append1 rfl _ _ 44 rfl w.heap.size 3 (.int .i64 0) 8 Try.underlying44 info_int rfl _ _ _ rfl ((HO.out.alloc _).alloc _) (wr.heap.size + 1) (.int .i64 2) rfl (cell_new _ _ _ (by simp)) rfl (by omega) (by omega) (by simp; omega) ?_; intro v1 w1 hown1 hf1)
        go_roundw
        case rel => exact ⟨3, by omega, rfl, own_congr hown1 (by rw [HH.out]; simp) (by rw [HH.out]; simp), ((HF.out.alloc _).alloc _).step hf1 (fun i h1 h2 => by omega)⟩
        case measure => simp [intOf]
    · rcases hs 3 (by omega) with ⟨hm, ht, hu⟩ | ⟨hm, ht⟩
      · have HH := hide (HS.heldTo_zero (s := s) (k := 3) hm)
        clear x0 x1 x2 c0 c1 c2 c3 c4 c5 c6 c7 c8 c9 c10 c11
        go_wp2
        go_roundw
        case rel => exact ⟨4, by omega, rfl, HH.out ▸ HO.out.alloc _, HF.out.alloc _⟩
        case measure => simp [intOf]
      · have hmf : (s.m 3 == 0) = false := isF (by omega)
        have HH := hide (HS.heldTo_pos (s := s) (k := 3) (by omega))
        clear hm ht
        clear x0 x1 x2 c0 c1 c2 c3 c4 c5 c6 c7 c8 c9 c10 c11
        go_wp2_with (at_builtin; refine append1 rfl _ _ 44 rfl w.heap.size 3 (.int .i64 0) 8 Try.underlying44 info_int rfl _ _ _ rfl ((HO.out.alloc _).alloc _) (wr.heap.size + 1) (.int .i64 3) rfl (cell_new _ _ _ (by simp)) rfl (by omega) (by omega) (by simp; omega) ?_; intro v1 w1 hown1 hf1)
        go_roundw
        case rel => exact ⟨4, by omega, rfl, own_congr hown1 (by rw [HH.out]; simp) (by rw [HH.out]; simp), ((HF.out.alloc _).alloc _).step hf1 (fun i h1 h2 => by omega)⟩
        case measure => simp [intOf]
end Go.Proofs.Ythddgnnbgldfmaa
