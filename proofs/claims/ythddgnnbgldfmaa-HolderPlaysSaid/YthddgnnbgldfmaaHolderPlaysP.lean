/- HolderPlaysSaid: whatever a client hears, by any clock, the law's function answers true and leaves all that was there alone. No condition. -/
import Derived.Test.YthddgnnbgldfmaaOpen
import Derived.Test.YthddgnnbgldfmaaHolderPlays
namespace Go.Proofs.Ythddgnnbgldfmaa
open Go.ChangeShapes Go.WideShapes Go.ChangeAt Go.RowKit Go.Deep

theorem op26_cells : Try.prog.cellsOf 42 = 5 := by kernel_rfl

theorem add_past (a : Addr) {j : Nat} (h : 0 < j) : a.add j = past a j := by unfold Addr.add past; rw [if_neg (by omega)]

set_option maxRecDepth 100000 in
theorem plays_lifted (os : Os) (started : os.Started) (H : Type) (enc : TypeId × Value → H) :
    ReturnsInHanded {} Try.checked os 4 .any (Rows.holderPlaysSpec.pre6 enc Try.prog Try.f4 Rows.holderPlaysRow.domain false) (Rows.holderPlaysSpec.post enc Try.prog Try.f4 false true false false) := by
  refine law_lift started (by kernel_rfl) Try.func4 (by kernel_rfl) rfl Try.underlying4 rfl ?_
    (ChangeSpec.witness6 (enc := enc) (C := Try.checked) false ⟨#[], #[.slice none 0 0, .int .u64 0], []⟩ 8 (by kernel_rfl) (by kernel_rfl) (by kernel_rfl) (by kernel_rfl)) ?_
  · intro ds h
    match ds, h with
    | [_, _], _ => rfl
  intro W base args ds ps hval hA hlt _
  rw [Try.params4] at hval
  have hA : DataW.TrodAll enc Try.prog W 0 (fun _ => true) true Try.f4.params.toList args.toList ds ps := hA
  rw [Try.params4] at hA
  obtain ⟨v0, vs0, d0, ds0, p0, q0, hargs, rfl, rfl, h0, r0⟩ := trodAll_cons hA
  obtain ⟨v1, vs1, d1, ds1, p1, q1, rfl, rfl, rfl, h1, r1⟩ := trodAll_cons r0
  obtain ⟨rfl, rfl, rfl⟩ := trodAll_nil r1
  obtain rfl : args = #[v0, v1] := by cases args; simp_all
  obtain ⟨a1, rfl, rfl, rfl, w1⟩ := open_int Try.underlying22 (hval 1 22 v1 rfl rfl) h1
  have b1 := u64_bounds w1
  obtain ⟨B, n, c, rfl, hn, hrow⟩ := open_rows Try.underlying36 Try.underlying42 (by kernel_rfl) op26_cells (hval 0 36 v0 rfl rfl) h0
  have hall : ∀ i, ∃ o : Op26, i < n → ∃ ad, B = some ad ∧ (ad.add (i * 5)).block < W.heap.size ∧ o.fits ∧ W.cell? (ad.add (i * 5)) = some (.int .i64 o.d) ∧ W.cell? (past (ad.add (i * 5)) 1) = some (.int .i64 o.r) ∧
      W.cell? (past (ad.add (i * 5)) 2) = some (.int .i64 o.m) ∧ W.cell? (past (ad.add (i * 5)) 3) = some (.int .u64 o.n) ∧ W.cell? (past (ad.add (i * 5)) 4) = some (.int .u64 o.u) := by
    intro i
    by_cases hi : i < n
    · obtain ⟨ad, hB, hf⟩ := hrow i hi
      obtain ⟨u0, y0, m0, k0, t0⟩ := hf 0 _ rfl
      obtain ⟨u1, y1, m1, k1, t1⟩ := hf 1 _ rfl
      obtain ⟨u2, y2, m2, k2, t2⟩ := hf 2 _ rfl
      obtain ⟨u3, y3, m3, k3, t3⟩ := hf 3 _ rfl
      obtain ⟨u4, y4, m4, k4, t4⟩ := hf 4 _ rfl
      obtain ⟨x0, rfl, _⟩ := int_cell Try.underlying3 t0
      obtain ⟨x1, rfl, _⟩ := int_cell Try.underlying3 t1
      obtain ⟨x2, rfl, _⟩ := int_cell Try.underlying3 t2
      obtain ⟨x3, rfl, f3⟩ := int_cell Try.underlying22 t3
      obtain ⟨x4, rfl, f4⟩ := int_cell Try.underlying22 t4
      have g3 := u64_bounds f3
      have g4 := u64_bounds f4
      have k0' : W.cell? (ad.add (i * 5)) = some (.int .i64 x0) := by simpa [Addr.add] using k0
      exact ⟨⟨x0, x1, x2, x3, x4⟩, fun _ => ⟨ad, hB, World.block_lt_of_cell? _ _ k0', ⟨g3.1, g4.2⟩, k0', (by rw [← add_past _ (j := 1) (by omega)]; exact k1), (by rw [← add_past _ (j := 2) (by omega)]; exact k2), (by rw [← add_past _ (j := 3) (by omega)]; exact k3), (by rw [← add_past _ (j := 4) (by omega)]; exact k4)⟩⟩
    · exact ⟨⟨0, 0, 0, 0, 0⟩, fun h => absurd h hi⟩
  have hops : ∃ ops : Nat → Op26, Ops26 W B n ops := ⟨fun i => (hall i).choose, fun i hi => (hall i).choose_spec hi⟩
  obtain ⟨ops, hops⟩ := hops
  exact plays_any B n c ops a1 W b1.1 b1.2 (by unfold maxLen at hn; omega) hops

theorem plays_over : Rows.holderPlaysRow.holds Try.pinned (OpenSpec.ofChange Rows.holderPlaysSpec) :=
  OpenClaim.holds_of_wide 4 Try.f4 rfl rfl rfl rfl rfl rfl rfl ⟨rfl, rfl, rfl, rfl, rfl⟩ rfl rfl rfl rfl rfl (by kernel_rfl) Try.func4 (by kernel_rfl)
    (of_decide_eq_true (by kernel_rfl)) (by unfold Func.isWrapper; first | (rw [if_pos (by decide +kernel)]; kernel_rfl) | (rw [if_neg (by decide +kernel)]; exact ⟨rfl, rfl⟩))
    (fun os started H enc _ => plays_lifted os started H enc)

theorem HolderPlays_holds : Rows.HolderPlaysSaid := plays_over
#print axioms HolderPlays_holds
end Go.Proofs.Ythddgnnbgldfmaa
