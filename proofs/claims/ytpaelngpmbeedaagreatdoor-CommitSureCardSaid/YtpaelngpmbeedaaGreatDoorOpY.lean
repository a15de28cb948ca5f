/- Arguments opened: CommitSure's Ops. -/
import Derived.Test.YtpaelngpmbeedaaGreatDoorOpenZ
namespace Go.Proofs.YtpaelngpmbeedaaGreatDoor
open Go.ChangeShapes Go.WideShapes Go.ChangeAt Go.RowKit Go.Deep

section
variable {H : Type} {enc : TypeId × Value → H} {P : Program} {W : World}
/-- a slice of structs: as rows of R, of elements of which Q holds -/
theorem open_rowsG {α : Type} {t e : TypeId} {r : Reach} {b0 : Nat} {v : Value} {d : DataW H} {ps : List MemPlace} (R : World → List Value → α → Prop) (Q : α → Prop) (x0 : α) (size : Nat) (ht : P.underlying t = some (.slice e)) (hC : P.cellsOf e = size)
    (hv : Value.okWide P W r b0 t v) (h : DataW.Trod enc P W 0 (fun _ => true) true t v d ps)
    (hR : ∀ (cs : List Value) (m : Nat) (y : DataW H × List MemPlace), cs.length = size → DataW.trod enc P W 0 (fun _ => true) true m e cs = some y → ∃ x, Q x ∧ ∀ w', Fr Non W w' → R w' cs x) :
    ∃ xs css, (∀ x ∈ xs, Q x) ∧ ∀ w', Fr Non W w' → RowsC w' size R v css xs := by
  obtain ⟨A, n, c, rfl⟩ := okWide_slice ht hv
  obtain ⟨fuel, hf⟩ := h
  rcases open_slice ht hf with ⟨hcs, _⟩ | ⟨a, len, cap, m, k, D, Pl, hcs, _, hl, hm, hmm, _, hi⟩
  · simp only [Value.cells, List.cons.injEq, Value.slice.injEq, and_true] at hcs
    obtain ⟨rfl, rfl, rfl⟩ := hcs
    exact ⟨[], fun _ => [], fun x hx => absurd hx (List.not_mem_nil), fun w' _ => RowsC.none_ w' _ R _⟩
  · simp only [Value.cells, List.cons.injEq, Value.slice.injEq, and_true] at hcs
    obtain ⟨rfl, rfl, rfl⟩ := hcs
    simp only [if_true] at hmm
    subst hmm
    have hall : ∀ i, ∃ (us : List Value) (x : α), i < n → us.length = size ∧ Q x ∧ (∀ w', Fr Non W w' → R w' us x) ∧ ∀ j u, us[j]? = some u → W.cell? ((a.add (i * size)).add j) = some u := by
      intro i
      by_cases hin : i < n
      · obtain ⟨cs', hc, ht'⟩ := hi i (by omega)
        rw [hC] at hc
        obtain ⟨_, hcl, hat⟩ := World.cells?_some hc
        obtain ⟨x, hq, hx⟩ := hR cs' _ _ hcl ht'
        refine ⟨cs', x, fun _ => ⟨hcl, hq, hx, fun j u hu => ?_⟩⟩
        have hj : j < size := by have := (List.getElem?_eq_some_iff.1 hu).1; omega
        rw [hat j hj]
        exact hu
      · exact ⟨[], x0, fun h => absurd h hin⟩
    let us : Nat → List Value := fun i => (hall i).choose
    let xf : Nat → α := fun i => (hall i).choose_spec.choose
    have hf : ∀ i, i < n → (us i).length = size ∧ Q (xf i) ∧ (∀ w', Fr Non W w' → R w' (us i) (xf i)) ∧ ∀ j u, (us i)[j]? = some u → W.cell? ((a.add (i * size)).add j) = some u := fun i => (hall i).choose_spec.choose_spec
    refine ⟨(List.range n).map xf, us, ?_, fun w' hF => ?_⟩
    · intro x hx
      obtain ⟨i, hi', rfl⟩ := List.mem_map.1 hx
      exact (hf i (List.mem_range.1 hi')).2.1
    · refine ⟨some a, m, by simp, by simpa using hl, hm, fun i x hix => ?_⟩
      have hin : i < n := by have := (List.getElem?_eq_some_iff.1 hix).1; simpa using this
      rw [List.getElem?_map, List.getElem?_range hin] at hix
      obtain rfl : xf i = x := by simpa using hix
      obtain ⟨h1, _, h2, h3⟩ := hf i hin
      exact ⟨a, rfl, h1, fun j u hu => hF.cellSome (h3 j u hu), h2 w' hF⟩
end

structure OpS where
  d : Int
  n : Int
  r : RQ
  p : List Int
def OpSR (w : World) (cs : List Value) (x : OpS) : Prop := ∃ v pv, cs = [.int .i64 x.d, .int .i64 x.n, .int .i64 x.r.op, .int .i64 x.r.region, .int .i64 x.r.index, .int .u64 x.r.token, .int .u32 x.r.seq, v, pv] ∧ Ints w .u8 v x.r.data ∧ Ints w .i64 pv x.p ∧ x.r.ok
def OpSQ (x : OpS) : Prop := Bytes x.r.data ∧ -9223372036854775808 ≤ x.n ∧ x.n ≤ 9223372036854775807
set_option maxRecDepth 100000 in
theorem cells_int1 : Tryz.prog.cellsOf 3 = 1 ∧ Tryz.prog.cellsOf 30 = 1 ∧ Tryz.prog.cellsOf 32 = 1 ∧ Tryz.prog.cellsOf 34 = 1 ∧ Tryz.prog.cellsOf 23 = 1 ∧ Tryz.prog.cellsOf 42 = 6 ∧ Tryz.prog.cellsOf 5 = 1 := ⟨by kernel_rfl, by kernel_rfl, by kernel_rfl, by kernel_rfl, by kernel_rfl, by kernel_rfl, by kernel_rfl⟩
theorem get_some {α : Type} {l : List α} {n i : Nat} (h : l.length = n) (hi : i < n) : ∃ x, l[i]? = some x := ⟨_, List.getElem?_eq_getElem (by omega)⟩
theorem bounds_i64 {n : Int} (h : (Lit.int .i64 n).wf = true) : -9223372036854775808 ≤ n ∧ n ≤ 9223372036854775807 := by
  simp [Lit.wf, IntKind.min, IntKind.max, IntKind.signed, IntKind.bits] at h
  omega
/-- a request's six cells -/
theorem open_req6 {H : Type} {enc : TypeId × Value → H} {W : World} {m : Nat} {y : DataW H × List MemPlace} {c0 c1 c2 c3 c4 c5 : Value} (h : DataW.trod enc Tryz.prog W 0 (fun _ => true) true m 42 [c0, c1, c2, c3, c4, c5] = some y) :
    ∃ r : RQ, Bytes r.data ∧ r.ok ∧ c0 = .int .i64 r.op ∧ c1 = .int .i64 r.region ∧ c2 = .int .i64 r.index ∧ c3 = .int .u64 r.token ∧ c4 = .int .u32 r.seq ∧ ∀ w', Fr Non W w' → Ints w' .u8 c5 r.data := by
  obtain ⟨ys, n', _, _, hlen, hyl, hff⟩ := DataW.trod_struct Tryz.underlying42 h
  have hyl : ys.length = 6 := hyl
  obtain ⟨k1, k2, k3, k4, k5, k6, k8⟩ := cells_int1
  have f0 : DataW.trod enc Tryz.prog W 0 (fun _ => true) true n' 3 ((([c0, c1, c2, c3, c4, c5] : List Value).drop 0).take (Tryz.prog.cellsOf 3)) = ys[0]? := hff 0 _ rfl
  rw [k1] at f0
  have f0 : DataW.trod enc Tryz.prog W 0 (fun _ => true) true n' 3 [c0] = ys[0]? := f0
  have f1 : DataW.trod enc Tryz.prog W 0 (fun _ => true) true n' 3 ((([c0, c1, c2, c3, c4, c5] : List Value).drop 1).take (Tryz.prog.cellsOf 3)) = ys[1]? := hff 1 _ rfl
  rw [k1] at f1
  have f1 : DataW.trod enc Tryz.prog W 0 (fun _ => true) true n' 3 [c1] = ys[1]? := f1
  have f2 : DataW.trod enc Tryz.prog W 0 (fun _ => true) true n' 3 ((([c0, c1, c2, c3, c4, c5] : List Value).drop 2).take (Tryz.prog.cellsOf 3)) = ys[2]? := hff 2 _ rfl
  rw [k1] at f2
  have f2 : DataW.trod enc Tryz.prog W 0 (fun _ => true) true n' 3 [c2] = ys[2]? := f2
  have f3 : DataW.trod enc Tryz.prog W 0 (fun _ => true) true n' 30 ((([c0, c1, c2, c3, c4, c5] : List Value).drop 3).take (Tryz.prog.cellsOf 30)) = ys[3]? := hff 3 _ rfl
  rw [k2] at f3
  have f3 : DataW.trod enc Tryz.prog W 0 (fun _ => true) true n' 30 [c3] = ys[3]? := f3
  have f4 : DataW.trod enc Tryz.prog W 0 (fun _ => true) true n' 32 ((([c0, c1, c2, c3, c4, c5] : List Value).drop 4).take (Tryz.prog.cellsOf 32)) = ys[4]? := hff 4 _ rfl
  rw [k3] at f4
  have f4 : DataW.trod enc Tryz.prog W 0 (fun _ => true) true n' 32 [c4] = ys[4]? := f4
  have f5 : DataW.trod enc Tryz.prog W 0 (fun _ => true) true n' 34 ((([c0, c1, c2, c3, c4, c5] : List Value).drop 5).take (Tryz.prog.cellsOf 34)) = ys[5]? := hff 5 _ rfl
  rw [k4] at f5
  have f5 : DataW.trod enc Tryz.prog W 0 (fun _ => true) true n' 34 [c5] = ys[5]? := f5
  obtain ⟨z0, e0⟩ := get_some hyl (show 0 < 6 by omega)
  obtain ⟨z1, e1⟩ := get_some hyl (show 1 < 6 by omega)
  obtain ⟨z2, e2⟩ := get_some hyl (show 2 < 6 by omega)
  obtain ⟨z3, e3⟩ := get_some hyl (show 3 < 6 by omega)
  obtain ⟨z4, e4⟩ := get_some hyl (show 4 < 6 by omega)
  obtain ⟨z5, e5⟩ := get_some hyl (show 5 < 6 by omega)
  obtain ⟨x0, g0, _⟩ := int_cell Tryz.underlying3 (f0.trans e0)
  obtain ⟨x1, g1, _⟩ := int_cell Tryz.underlying3 (f1.trans e1)
  obtain ⟨x2, g2, _⟩ := int_cell Tryz.underlying3 (f2.trans e2)
  obtain ⟨x3, g3, h3⟩ := int_cell Tryz.underlying30 (f3.trans e3)
  obtain ⟨x4, g4, h4⟩ := int_cell Tryz.underlying32 (f4.trans e4)
  obtain ⟨xs, hwf, hI⟩ := ints_of_cell Tryz.underlying34 Tryz.underlying5 k8 (f5.trans e5)
  have hb := u64_bounds h3
  have hb4 := bounds_u32 h4
  exact ⟨⟨x0, x1, x2, x3, x4, xs⟩, bytes_of_wf hwf, ⟨hb.1, by show x3 < _; omega, by show 0 ≤ x4; omega, by show x4 < _; omega⟩, g0, g1, g2, g3, g4, hI⟩
set_option maxRecDepth 100000 in
theorem op_cells : Tryz.prog.cellsOf 44 = 9 := by kernel_rfl
set_option maxRecDepth 100000 in
set_option maxHeartbeats 4000000 in
theorem open_opS {H : Type} {enc : TypeId × Value → H} {W : World} {r : Reach} {b0 : Nat} {v : Value} {d : DataW H} {ps : List MemPlace} (hv : Value.okWide Tryz.prog W r b0 22 v) (h : DataW.Trod enc Tryz.prog W 0 (fun _ => true) true 22 v d ps) :
    ∃ l css, (∀ x ∈ l, OpSQ x) ∧ ∀ w', Fr Non W w' → RowsC w' 9 OpSR v css l := by
  refine open_rowsG OpSR OpSQ ⟨0, 0, ⟨0, 0, 0, 0, 0, []⟩, []⟩ 9 Tryz.underlying22 op_cells hv h (fun cs m y hl ht => ?_)
  obtain ⟨ys, n', _, _, hlen, hyl, hff⟩ := DataW.trod_struct Tryz.underlying44 ht
  have hyl : ys.length = 4 := hyl
  obtain ⟨k1, k2, k3, k4, k5, k6, k8⟩ := cells_int1
  match cs, hl with
  | [c0, c1, c2, c3, c4, c5, c6, c7, c8], _ =>
    have f0 : DataW.trod enc Tryz.prog W 0 (fun _ => true) true n' 3 ((([c0, c1, c2, c3, c4, c5, c6, c7, c8] : List Value).drop 0).take (Tryz.prog.cellsOf 3)) = ys[0]? := hff 0 _ rfl
    rw [k1] at f0
    have f0 : DataW.trod enc Tryz.prog W 0 (fun _ => true) true n' 3 [c0] = ys[0]? := f0
    have f1 : DataW.trod enc Tryz.prog W 0 (fun _ => true) true n' 3 ((([c0, c1, c2, c3, c4, c5, c6, c7, c8] : List Value).drop 1).take (Tryz.prog.cellsOf 3)) = ys[1]? := hff 1 _ rfl
    rw [k1] at f1
    have f1 : DataW.trod enc Tryz.prog W 0 (fun _ => true) true n' 3 [c1] = ys[1]? := f1
    have f2 : DataW.trod enc Tryz.prog W 0 (fun _ => true) true n' 42 ((([c0, c1, c2, c3, c4, c5, c6, c7, c8] : List Value).drop 2).take (Tryz.prog.cellsOf 42)) = ys[2]? := hff 2 _ rfl
    rw [k6] at f2
    have f2 : DataW.trod enc Tryz.prog W 0 (fun _ => true) true n' 42 [c2, c3, c4, c5, c6, c7] = ys[2]? := f2
    have f4 : DataW.trod enc Tryz.prog W 0 (fun _ => true) true n' 23 ((([c0, c1, c2, c3, c4, c5, c6, c7, c8] : List Value).drop 8).take (Tryz.prog.cellsOf 23)) = ys[3]? := hff 3 _ rfl
    rw [k5] at f4
    have f4 : DataW.trod enc Tryz.prog W 0 (fun _ => true) true n' 23 [c8] = ys[3]? := f4
    obtain ⟨z0, e0⟩ := get_some hyl (show 0 < 4 by omega)
    obtain ⟨z1, e1⟩ := get_some hyl (show 1 < 4 by omega)
    obtain ⟨z2, e2⟩ := get_some hyl (show 2 < 4 by omega)
    obtain ⟨z4, e4⟩ := get_some hyl (show 3 < 4 by omega)
    obtain ⟨x0, g0, _⟩ := int_cell Tryz.underlying3 (f0.trans e0)
    obtain ⟨x1, g1, hn⟩ := int_cell Tryz.underlying3 (f1.trans e1)
    obtain ⟨q, hb, hq, q0, q1, q2, q3, q4, q5⟩ := open_req6 (f2.trans e2)
    obtain ⟨ps, _, hI⟩ := ints_of_cell Tryz.underlying23 Tryz.underlying3 k1 (f4.trans e4)
    refine ⟨⟨x0, x1, q, ps⟩, ⟨hb, bounds_i64 hn⟩, fun w' hF => ⟨c7, c8, ?_, q5 w' hF, hI w' hF, hq⟩⟩
    rw [g0, g1, q0, q1, q2, q3, q4]
theorem St.opS {M0 : Imm} {w : World} {L : List Res} {A : Option Addr} {n c : Nat} {l : List OpS} (h : St M0 w L) (i : Nat) (hi : L[i]? = some (rowsR 9 OpSR (.slice A n c) l)) {k : Nat} {x : OpS} (hk : l[k]? = some x) :
    ∃ ad B d pA pc, A = some ad ∧ x.r.ok ∧ St M0 w (persR (fun w' => (∀ j u, [Value.int .i64 x.d, .int .i64 x.n, .int .i64 x.r.op, .int .i64 x.r.region, .int .i64 x.r.index, .int .u64 x.r.token, .int .u32 x.r.seq, .slice B x.r.data.length d, .slice pA x.p.length pc][j]? = some u → w'.cell? ((ad.add (k * 9)).add j) = some u) ∧ Ints w' .u8 (.slice B x.r.data.length d) x.r.data ∧ Ints w' .i64 (.slice pA x.p.length pc) x.p) :: L) := by
  obtain ⟨ad, cs, rfl, _, _, ⟨v, pv, rfl, hv, hp, hx⟩, h⟩ := h.elem i hi hk
  obtain ⟨B, d, rfl, _, _, _⟩ := hv
  obtain ⟨pA, pc, rfl, _, _, _⟩ := hp
  refine ⟨ad, B, d, pA, pc, rfl, hx, h.pers1 (fun w' hr => ⟨hr.1, ?_⟩)⟩
  obtain ⟨v', pv', e, h1, h2, _⟩ := hr.2
  simp only [List.cons.injEq, true_and, and_true] at e
  obtain ⟨rfl, rfl⟩ := e
  exact ⟨h1, h2⟩
theorem cells9 {w : World} {p : Addr} {a b c d e f g i j0 : Value} (h : ∀ j u, [a, b, c, d, e, f, g, i, j0][j]? = some u → w.cell? (p.add j) = some u) :
    w.cell? p = some a ∧ w.cell? ⟨p.block, p.off + 1, none⟩ = some b ∧ w.cell? ⟨p.block, p.off + 2, none⟩ = some c ∧ w.cell? ⟨p.block, p.off + 3, none⟩ = some d ∧ w.cell? ⟨p.block, p.off + 4, none⟩ = some e ∧ w.cell? ⟨p.block, p.off + 5, none⟩ = some f ∧ w.cell? ⟨p.block, p.off + 6, none⟩ = some g ∧ w.cell? ⟨p.block, p.off + 7, none⟩ = some i ∧ w.cell? ⟨p.block, p.off + 8, none⟩ = some j0 :=
  ⟨by simpa [Addr.add] using h 0 a rfl, by simpa [Addr.add] using h 1 b rfl, by simpa [Addr.add] using h 2 c rfl, by simpa [Addr.add] using h 3 d rfl, by simpa [Addr.add] using h 4 e rfl, by simpa [Addr.add] using h 5 f rfl, by simpa [Addr.add] using h 6 g rfl, by simpa [Addr.add] using h 7 i rfl, by simpa [Addr.add] using h 8 j0 rfl⟩
end Go.Proofs.YtpaelngpmbeedaaGreatDoor
