/- A law's row out of its walk: whoever shows that the call answers true and changes nothing that was there has the row. -/
import Derived.Test.YtpaelngpmbeedaaGreatDoorBaseZ
import Derived.Test.YtpaelngpmbeedaaGreatDoorRows
import Derived.ProofKit
import Derived.OpenShut
import Derived.SizedLaws
import Derived.Handed
import Derived.LaidLaws
import Derived.Lay
import Derived.LaidMore
import Derived.LaidOnce
import Derived.Deep.Slices
import Derived.Deep.Fields
import Derived.Test.YtpaelngpmbeedaaGreatDoorStZ
import Derived.Test.YtpaelngpmbeedaaGreatDoorImgPZ
namespace Go.Proofs.YtpaelngpmbeedaaGreatDoor
open Go.ChangeShapes Go.WideShapes Go.ChangeAt Go.RowKit

theorem own_knob : ownKnob Tryz.prog.godebug = none := by kernel_rfl
theorem laid_out : laidOutB Tryz.prog = true := by kernel_rfl

theorem trodAll_below {H : Type} {enc : TypeId × Value → H} {P : Program} (hl : laidOutB P = true) {W W' : World} (hb : Below W.heap.size W W') :
    ∀ (ts : List TypeId) (vs : List Value) (ds : List (DataW H)) (ps : List MemPlace), ts.all (fun t => P.readableRec t && decide (t < P.types.size)) = true →
      DataW.TrodAll enc P W 0 (fun _ => true) true ts vs ds ps → (∀ x ∈ ps, x.block < W.heap.size) → DataW.TrodAll enc P W' 0 (fun b => decide (b < W.heap.size)) true ts vs ds ps
  | [], [], [], _, _, h, _ => h
  | t :: ts, v :: vs, d :: ds, ps, hr, h, hlt => by
    obtain ⟨p, q, h1, h2, rfl⟩ := h
    simp only [List.all_cons, Bool.and_eq_true, decide_eq_true_eq] at hr
    exact ⟨p, q, Below.trod hl hr.1.1 hr.1.2 h1 hb (fun x hx => hlt x (List.mem_append_left _ hx)),
      trodAll_below hl hb ts vs ds q (by simpa using hr.2) h2 (fun x hx => hlt x (List.mem_append_right _ hx)), rfl⟩
  | [], [], _ :: _, _, _, h, _ => h.elim
  | [], _ :: _, _, _, _, h, _ => h.elim
  | _ :: _, [], _, _, _, h, _ => h.elim
  | _ :: _, _ :: _, [], _, _, h, _ => h.elim

theorem trodAll_length {H : Type} {enc : TypeId × Value → H} {P : Program} {W : World} {b : Nat} {sp : Nat → Bool} {hd : Bool} :
    ∀ (ts : List TypeId) (vs : List Value) (ds : List (DataW H)) (ps : List MemPlace), DataW.TrodAll enc P W b sp hd ts vs ds ps → ds.length = ts.length ∧ vs.length = ts.length
  | [], [], [], _, _ => ⟨rfl, rfl⟩
  | _ :: ts, _ :: vs, _ :: ds, _, h => by
    obtain ⟨p, q, _, h2, rfl⟩ := h
    have := trodAll_length ts vs ds q h2
    simp [this]
  | [], [], _ :: _, _, h => h.elim
  | [], _ :: _, _, _, h => h.elim
  | _ :: _, [], _, _, h => h.elim
  | _ :: _, _ :: _, [], _, h => h.elim

set_option maxRecDepth 100000 in
theorem law_lift {H : Type} {enc : TypeId × Value → H} {os : Os} {k : FuncId} {fn : Func} {s : ChangeSpec} {tb : TypeId}
    (started : os.Started) (noInit : Tryz.checked.prog.inits.idxOf? k = none) (hfn : Tryz.checked.prog.funcs[k]? = some fn)
    (hps : fn.params.toList.all (fun t => Tryz.checked.prog.readableRec t && decide (t < Tryz.checked.prog.types.size)) = true)
    (hres : fn.resultTypes = #[tb]) (hb : Tryz.checked.prog.underlying tb = some .bool)
    (hv : s.vars = []) (hs : ∀ ds : List (DataW H), ds.length = fn.params.size → s.fn H ds = { results := [.lit (.bool true)], args := ds })
    (witness : ∃ (w : World) (tape : Tape) (i : Input), w.os = os ∧ (w.forCall tape i).Shaped Tryz.checked.prog ∧ i.vars = [] ∧ Input.okWide Tryz.checked.prog (w.forCall tape i) .any w.heap.size k i ∧
      s.pre6 enc Tryz.checked.prog fn [] false (w.forCall tape i).memory i.args ∧ (({} : Assume)).holds Tryz.checked.prog (lone (Frame.enter Tryz.checked.prog k i.args .normal) [] (w.forCall tape i)))
    (walk : ∀ (W : World) (base : Nat) (args : Array Value) (ds : List (DataW H)) (ps : List MemPlace),
      (∀ (j : Nat) t v, fn.params[j]? = some t → args[j]? = some v → Value.okWide Tryz.checked.prog W .any base t v) →
      DataW.TrodAll enc Tryz.checked.prog W 0 (fun _ => true) true fn.params.toList args.toList ds ps → (∀ x ∈ ps, x.block < W.heap.size) →
      (DataW.weightsEach Tryz.checked.prog fn.params.toList ds).all (· ≤ reachBytes) = true →
      Calls Tryz.checked.prog k args W fun e W' => e = .returned (.bool true) ∧ Fr Non W W') :
    ReturnsInHanded {} Tryz.checked os k .any (s.pre6 enc Tryz.checked.prog fn [] false) (s.post enc Tryz.checked.prog fn false true false false) := by
  refine returnsInHanded_of_change_sized (C := Tryz.checked) own_knob started noInit hfn witness ?_
  intro W base args ds gs before hval hW _ hsz _
  have hW' := hW
  have hlt : ∀ x ∈ before, x.block < W.heap.size := fun p hp => hW.lt p hp
  obtain ⟨p, q, hA, hV, rfl, hfz, hnd⟩ := hW
  have hgq : gs = [] ∧ q = [] := by
    rw [hv] at hV
    cases gs with
    | nil => exact ⟨rfl, hV⟩
    | cons _ _ => exact hV.elim
  obtain ⟨rfl, rfl⟩ := hgq
  simp only [List.append_nil] at hlt hW' hsz
  have hvt : s.plain.varTypes Tryz.checked.prog = [] := by simp [DataSpec.varTypes, ChangeSpec.plain, hv]
  rw [hvt] at hsz
  simp only [List.append_nil] at hsz
  refine (walk W base args ds p hval hA hlt hsz).mono fun e W' ⟨he, hf⟩ => ⟨_, he, ?_⟩
  have hlen := (trodAll_length _ _ _ _ hA).1
  have hfn' := hs ds (by simpa using hlen)
  have hbl := hf.below
  refine ⟨ds, [], p, [], p, [], hW', ?_, ?_, ?_, hbl.frame _, fun h => by cases h⟩
  · simp only [List.append_nil, hfn', hres]
    exact trodAll_cons_mk (shut_bool hb true) trodAll_mk0
  · simp only [List.append_nil, hfn']
    exact trodAll_below laid_out hbl _ _ _ _ hps hA hlt
  · rw [hv]; simp only [List.append_nil, hfn']; rfl

end Go.Proofs.YtpaelngpmbeedaaGreatDoor
/- A tied row out of its walk: as Lift, with what the row lists laid. -/
namespace Go.Proofs.YtpaelngpmbeedaaGreatDoor
open Go.ChangeShapes Go.WideShapes Go.ChangeAt Go.RowKit

set_option maxRecDepth 100000 in
theorem law_liftT {H : Type} {enc : TypeId × Value → H} {os : Os} {k : FuncId} {fn : Func} {s : ChangeSpec} {conds : List PathCond} {laid : List (String × DataW Unit)} {tb : TypeId}
    (started : os.Started) (noInit : Tryz.checked.prog.inits.idxOf? k = none) (hfn : Tryz.checked.prog.funcs[k]? = some fn)
    (hps : fn.params.toList.all (fun t => Tryz.checked.prog.readableRec t && decide (t < Tryz.checked.prog.types.size)) = true)
    (hres : fn.resultTypes = #[tb]) (hb : Tryz.checked.prog.underlying tb = some .bool)
    (hv : s.vars = []) (hs : ∀ ds : List (DataW H), ds.length = fn.params.size → s.fn H ds = { results := [.lit (.bool true)], args := ds })
    (witness : ∃ (w : World) (tape : Tape) (i : Input), w.os = os ∧ (w.forCall tape i).Shaped Tryz.checked.prog ∧ i.vars = [] ∧ Input.okWide Tryz.checked.prog (w.forCall tape i) .any w.heap.size k i ∧
      ((s.pre enc Tryz.checked.prog fn conds false (w.forCall tape i).memory i.args ∧ laidMet Tryz.checked.prog laid (w.forCall tape i).memory) ∧ sizedMet enc Tryz.checked.prog fn (OpenSpec.ofChange s) false (w.forCall tape i).memory i.args) ∧ (({} : Assume)).holds Tryz.checked.prog (lone (Frame.enter Tryz.checked.prog k i.args .normal) [] (w.forCall tape i)))
    (walk : ∀ (W : World) (base : Nat) (args : Array Value) (ds : List (DataW H)) (ps : List MemPlace),
      (∀ (j : Nat) t v, fn.params[j]? = some t → args[j]? = some v → Value.okWide Tryz.checked.prog W .any base t v) →
      DataW.TrodAll enc Tryz.checked.prog W 0 (fun _ => true) true fn.params.toList args.toList ds ps → (∀ x ∈ ps, x.block < W.heap.size) →
      (DataW.weightsEach Tryz.checked.prog fn.params.toList ds).all (· ≤ reachBytes) = true → laidMet Tryz.checked.prog laid W →
      Calls Tryz.checked.prog k args W fun e W' => e = .returned (.bool true) ∧ Fr Non W W') :
    ReturnsInHanded {} Tryz.checked os k .any (fun w args => (s.pre enc Tryz.checked.prog fn conds false w args ∧ laidMet Tryz.checked.prog laid w) ∧ sizedMet enc Tryz.checked.prog fn (OpenSpec.ofChange s) false w args) (s.post enc Tryz.checked.prog fn false true false false) := by
  refine returnsInHanded_of_change_and (C := Tryz.checked) (X := fun w _ => laidMet Tryz.checked.prog laid w) (fun _ _ _ hh h => h.of_heap hh) own_knob started noInit hfn witness ?_
  intro W base args ds gs before hval hW _ hsz hX _
  have hW' := hW
  have hlt : ∀ x ∈ before, x.block < W.heap.size := fun p hp => hW.lt p hp
  obtain ⟨p, q, hA, hV, rfl, hfz, hnd⟩ := hW
  have hgq : gs = [] ∧ q = [] := by
    rw [hv] at hV
    cases gs with
    | nil => exact ⟨rfl, hV⟩
    | cons _ _ => exact hV.elim
  obtain ⟨rfl, rfl⟩ := hgq
  simp only [List.append_nil] at hlt hW' hsz
  have hvt : s.plain.varTypes Tryz.checked.prog = [] := by simp [DataSpec.varTypes, ChangeSpec.plain, hv]
  rw [hvt] at hsz
  simp only [List.append_nil] at hsz
  refine (walk W base args ds p hval hA hlt hsz hX).mono fun e W' ⟨he, hf⟩ => ⟨_, he, ?_⟩
  have hlen := (trodAll_length _ _ _ _ hA).1
  have hfn' := hs ds (by simpa using hlen)
  have hbl := hf.below
  refine ⟨ds, [], p, [], p, [], hW', ?_, ?_, ?_, hbl.frame _, fun h => by cases h⟩
  · simp only [List.append_nil, hfn', hres]
    exact trodAll_cons_mk (shut_bool hb true) trodAll_mk0
  · simp only [List.append_nil, hfn']
    exact trodAll_below laid_out hbl _ _ _ _ hps hA hlt
  · rw [hv]; simp only [List.append_nil, hfn']; rfl

end Go.Proofs.YtpaelngpmbeedaaGreatDoor
/- Arguments opened: integers, slices of integers, slices of structs whose fields are one cell each. -/
namespace Go.Proofs.YtpaelngpmbeedaaGreatDoor
open Go.ChangeShapes Go.WideShapes Go.ChangeAt Go.RowKit Go.Deep

theorem u64_bounds {n : Int} (h : (Lit.int .u64 n).wf = true) : 0 ≤ n ∧ n ≤ 18446744073709551615 := by
  have := bounds_u64 h
  omega

section
variable {H : Type} {enc : TypeId × Value → H} {P : Program} {W : World}

/-- a slice of structs: the cells of each field of each element, and how they read -/
theorem open_rows {t e : TypeId} {fs : Array Field} {r : Reach} {b0 : Nat} {v : Value} {d : DataW H} {ps : List MemPlace} (ht : P.underlying t = some (.slice e)) (he : P.underlying e = some (.struct fs))
    (hone : oneCellFields P fs = true) (hC : P.cellsOf e = fs.size) (hv : Value.okWide P W r b0 t v) (h : DataW.Trod enc P W 0 (fun _ => true) true t v d ps) :
    ∃ A n c, v = .slice A n c ∧ n ≤ maxLen ∧ ∀ i, i < n → ∃ ad, A = some ad ∧ ∀ (j : Nat) (f : Field), fs[j]? = some f →
      ∃ u y m, W.cell? ((ad.add (i * fs.size)).add j) = some u ∧ DataW.trod enc P W 0 (fun _ => true) true m f.type [u] = some y := by
  obtain ⟨A, n, c, rfl⟩ := okWide_slice ht hv
  obtain ⟨fuel, hf⟩ := h
  rcases open_slice ht hf with ⟨hcs, _⟩ | ⟨a, len, cap, m, k, D, Pl, hcs, _, hl, hm, hmm, _, hi⟩
  · simp only [Value.cells, List.cons.injEq, Value.slice.injEq, and_true] at hcs
    obtain ⟨rfl, rfl, rfl⟩ := hcs
    exact ⟨_, _, _, rfl, Nat.zero_le _, fun i hi => absurd hi (by omega)⟩
  · simp only [Value.cells, List.cons.injEq, Value.slice.injEq, and_true] at hcs
    obtain ⟨rfl, rfl, rfl⟩ := hcs
    refine ⟨_, _, _, rfl, Nat.le_trans hl hm, fun i hin => ⟨a, rfl, fun j f hj => ?_⟩⟩
    obtain ⟨cs', hc, ht'⟩ := hi i (by simp at hmm; omega)
    rw [hC] at hc
    obtain ⟨ys, n', _, _, hlen, hyl, hff⟩ := DataW.trod_struct he ht'
    obtain ⟨_, hcl, hat⟩ := World.cells?_some hc
    obtain ⟨ho, hk⟩ := hone_of hone j f hj
    have hjl : j < fs.size := (Array.getElem?_eq_some_iff.1 hj).1
    have hcell := hat j hjl
    have hvj : cs'[j]? = some (cs'[j]'(by omega)) := List.getElem?_eq_getElem (by omega)
    have h1 := hff j f hj
    rw [ho, hk, List.drop_eq_getElem_cons (show j < cs'.length by omega), List.take_succ_cons, List.take_zero] at h1
    have hys : ys[j]? = some (ys[j]'(by omega)) := List.getElem?_eq_getElem (by omega)
    exact ⟨_, _, _, hcell.trans hvj, h1.trans hys⟩

/-- an integer's cell -/
theorem int_cell {t : TypeId} {k : IntKind} {m : Nat} {u : Value} {y : DataW H × List MemPlace} (ht : P.underlying t = some (.int k)) (h : DataW.trod enc P W 0 (fun _ => true) true m t [u] = some y) :
    ∃ x, u = .int k x ∧ (Lit.int k x).wf = true := by
  obtain ⟨x, hx, _, hw⟩ := DataW.trod_int ht h
  simp only [List.cons.injEq, and_true] at hx
  exact ⟨x, hx, hw⟩
end

end Go.Proofs.YtpaelngpmbeedaaGreatDoor
/- Arguments opened: a slice of numbers, also as a field of a struct of a slice. -/
namespace Go.Proofs.YtpaelngpmbeedaaGreatDoor
open Go.ChangeShapes Go.WideShapes Go.ChangeAt Go.RowKit Go.Deep

section
variable {H : Type} {enc : TypeId × Value → H} {P : Program} {W : World}

theorem open_nums_cell {t e : TypeId} {k : IntKind} {m : Nat} {u : Value} {y : DataW H × List MemPlace} (ht : P.underlying t = some (.slice e)) (he : P.underlying e = some (.int k)) (hc : P.cellsOf e = 1)
    (h : DataW.trod enc P W 0 (fun _ => true) true m t [u] = some y) :
    ∃ (A : Option Addr) (c : Nat) (xs : List Int), u = .slice A xs.length c ∧ xs.length ≤ c ∧ c ≤ maxLen ∧ (∀ x ∈ xs, (Lit.int k x).wf = true) ∧ Sl W (fun b => b < W.heap.size) 1 A xs.length (xs.map (Value.int k)) := by
  rcases open_slice1 ht hc h with ⟨hu, _⟩ | ⟨a, len, cap, m, n, V, D, Pl, hu, _, hl, hm, hmm, _, hi⟩
  · simp only [List.cons.injEq, and_true] at hu
    exact ⟨none, 0, [], hu, Nat.le_refl _, Nat.zero_le _, fun x hx => absurd hx (List.not_mem_nil), Sl.nil_ _ _ _ _⟩
  · simp only [List.cons.injEq, and_true] at hu
    simp only [if_true] at hmm
    subst hmm
    have hV : ∀ i, ∃ x : Int, i < len → V i = .int k x ∧ (Lit.int k x).wf = true := by
      intro i
      by_cases hil : i < len
      · obtain ⟨x, hx, hw⟩ := int_cell he (hi i (by omega)).2
        exact ⟨x, fun _ => ⟨hx, hw⟩⟩
      · exact ⟨0, fun h => absurd h hil⟩
    let f : Nat → Int := fun i => (hV i).choose
    have hf : ∀ i, i < len → V i = .int k (f i) ∧ (Lit.int k (f i)).wf = true := fun i hil => (hV i).choose_spec hil
    have hlen : ((List.range len).map f).length = len := by simp
    refine ⟨some a, m, (List.range len).map f, by rw [hu, hlen], by rw [hlen]; exact hl, hm, ?_, ?_⟩
    · intro x hx
      obtain ⟨i, hi', rfl⟩ := List.mem_map.1 hx
      exact (hf i (List.mem_range.1 hi')).2
    · refine ⟨by simp, fun hp => ⟨a, rfl, ?_, ?_, fun j u hu' => ?_⟩⟩
      · have := World.block_lt_of_cell? _ _ (hi 0 (by omega)).1
        simpa [addr_block] using this
      · have := World.block_lt_of_cell? _ _ (hi 0 (by omega)).1
        simpa [addr_block] using this
      · simp only [List.map_map, List.getElem?_map] at hu'
        have hj : j < len := by
          rcases Nat.lt_or_ge j len with h | h
          · exact h
          · rw [List.getElem?_eq_none (by simpa using h)] at hu'; cases hu'
        rw [List.getElem?_range hj] at hu'
        simp only [Option.map_some, Function.comp, Option.some.injEq] at hu'
        rw [(hi j (by omega)).1, (hf j hj).1, hu']

theorem open_nums {t e : TypeId} {k : IntKind} {r : Reach} {b0 : Nat} {v : Value} {d : DataW H} {ps : List MemPlace} (ht : P.underlying t = some (.slice e)) (he : P.underlying e = some (.int k)) (hc : P.cellsOf e = 1)
    (hv : Value.okWide P W r b0 t v) (h : DataW.Trod enc P W 0 (fun _ => true) true t v d ps) :
    ∃ (A : Option Addr) (c : Nat) (xs : List Int), v = .slice A xs.length c ∧ xs.length ≤ c ∧ c ≤ maxLen ∧ (∀ x ∈ xs, (Lit.int k x).wf = true) ∧ Sl W (fun b => b < W.heap.size) 1 A xs.length (xs.map (Value.int k)) := by
  obtain ⟨A, n, c, rfl⟩ := okWide_slice ht hv
  obtain ⟨fuel, hf⟩ := h
  exact open_nums_cell ht he hc hf
end

end Go.Proofs.YtpaelngpmbeedaaGreatDoor
/- Arguments opened: slices of structs, as rows that stay. -/
namespace Go.Proofs.YtpaelngpmbeedaaGreatDoor
open Go.ChangeShapes Go.WideShapes Go.ChangeAt Go.RowKit Go.Deep

section
variable {H : Type} {enc : TypeId × Value → H} {P : Program} {W : World}

theorem Fr.cellSome {w w' : World} (h : Fr Non w w') {p : Addr} {u : Value} (hc : w.cell? p = some u) : w'.cell? p = some u :=
  (h.cell (p := p) (World.block_lt_of_cell? _ _ hc) (fun x => x)).trans hc

/-- a slice of structs of cells: as rows of R, of elements of which Q holds -/
theorem open_rowsC {α : Type} {t e : TypeId} {fs : Array Field} {r : Reach} {b0 : Nat} {v : Value} {d : DataW H} {ps : List MemPlace} (R : World → List Value → α → Prop) (Q : α → Prop) (x0 : α) (ht : P.underlying t = some (.slice e)) (he : P.underlying e = some (.struct fs))
    (hone : oneCellFields P fs = true) (hC : P.cellsOf e = fs.size) (hv : Value.okWide P W r b0 t v) (h : DataW.Trod enc P W 0 (fun _ => true) true t v d ps)
    (hR : ∀ us : Nat → Value, (∀ (j : Nat) (f : Field), fs[j]? = some f → ∃ y m, DataW.trod enc P W 0 (fun _ => true) true m f.type [us j] = some y) → ∃ x, Q x ∧ ∀ w', Fr Non W w' → R w' ((List.range fs.size).map us) x) :
    ∃ xs css, (∀ x ∈ xs, Q x) ∧ ∀ w', Fr Non W w' → RowsC w' fs.size R v css xs := by
  obtain ⟨A, n, c, rfl⟩ := okWide_slice ht hv
  obtain ⟨fuel, hf⟩ := h
  rcases open_slice ht hf with ⟨hcs, _⟩ | ⟨a, len, cap, m, k, D, Pl, hcs, _, hl, hm, hmm, _, hi⟩
  · simp only [Value.cells, List.cons.injEq, Value.slice.injEq, and_true] at hcs
    obtain ⟨rfl, rfl, rfl⟩ := hcs
    exact ⟨[], fun _ => [], fun x hx => absurd hx (List.not_mem_nil), fun w' _ => RowsC.none_ w' _ R _⟩
  · simp only [Value.cells, List.cons.injEq, Value.slice.injEq, and_true] at hcs
    obtain ⟨rfl, rfl, rfl⟩ := hcs
    simp only [if_true] at hmm
    subst hmm
    have hall : ∀ i, ∃ (us : Nat → Value) (x : α), i < n → Q x ∧ (∀ w', Fr Non W w' → R w' ((List.range fs.size).map us) x) ∧ ∀ j, j < fs.size → W.cell? ((a.add (i * fs.size)).add j) = some (us j) := by
      intro i
      by_cases hin : i < n
      · obtain ⟨cs', hc, ht'⟩ := hi i (by omega)
        rw [hC] at hc
        obtain ⟨ys, n', _, _, hlen, hyl, hff⟩ := DataW.trod_struct he ht'
        obtain ⟨_, hcl, hat⟩ := World.cells?_some hc
        have hcell : ∀ j, j < fs.size → W.cell? ((a.add (i * fs.size)).add j) = some (cs'.getD j default) := by
          intro j hj
          have h1 := hat j hj
          rw [h1, List.getElem?_eq_getElem (by omega), List.getD_eq_getElem?_getD, List.getElem?_eq_getElem (by omega)]
          rfl
        obtain ⟨x, hq, hx⟩ := hR (fun j => cs'.getD j default) (fun j f hj => by
          obtain ⟨ho, hk⟩ := hone_of hone j f hj
          have hjl : j < fs.size := (Array.getElem?_eq_some_iff.1 hj).1
          have h1 := hff j f hj
          rw [ho, hk, List.drop_eq_getElem_cons (show j < cs'.length by omega), List.take_succ_cons, List.take_zero] at h1
          have hys : ys[j]? = some (ys[j]'(by omega)) := List.getElem?_eq_getElem (by omega)
          have hgd : cs'.getD j default = cs'[j]'(by omega) := by rw [List.getD_eq_getElem?_getD, List.getElem?_eq_getElem (show j < cs'.length by omega), Option.getD_some]
          show ∃ y m, DataW.trod enc P W 0 (fun _ => true) true m f.type [cs'.getD j default] = some y
          rw [hgd]
          exact ⟨_, _, h1.trans hys⟩)
        exact ⟨fun j => cs'.getD j default, x, fun _ => ⟨hq, hx, hcell⟩⟩
      · exact ⟨fun _ => default, x0, fun h => absurd h hin⟩
    let us : Nat → Nat → Value := fun i => (hall i).choose
    let xf : Nat → α := fun i => (hall i).choose_spec.choose
    have hf : ∀ i, i < n → Q (xf i) ∧ (∀ w', Fr Non W w' → R w' ((List.range fs.size).map (us i)) (xf i)) ∧ ∀ j, j < fs.size → W.cell? ((a.add (i * fs.size)).add j) = some (us i j) := fun i => (hall i).choose_spec.choose_spec
    refine ⟨(List.range n).map xf, fun i => (List.range fs.size).map (us i), ?_, fun w' hF => ?_⟩
    · intro x hx
      obtain ⟨i, hi', rfl⟩ := List.mem_map.1 hx
      exact (hf i (List.mem_range.1 hi')).1
    · refine ⟨some a, m, by simp, by simpa using hl, hm, fun i x hix => ?_⟩
      have hin : i < n := by have := (List.getElem?_eq_some_iff.1 hix).1; simpa using this
      rw [List.getElem?_map, List.getElem?_range hin] at hix
      obtain rfl : xf i = x := by simpa using hix
      obtain ⟨_, h2, h3⟩ := hf i hin
      refine ⟨a, rfl, by simp, fun j u hu => ?_, h2 w' hF⟩
      have hj : j < fs.size := by have := (List.getElem?_eq_some_iff.1 hu).1; simpa using this
      rw [List.getElem?_map, List.getElem?_range hj] at hu
      obtain rfl : us i j = u := by simpa using hu
      exact hF.cellSome (h3 j hj)

/-- a slice of numbers, as a thing that stays -/
theorem ints_of_cell {t e : TypeId} {k : IntKind} {m : Nat} {u : Value} {y : DataW H × List MemPlace} (ht : P.underlying t = some (.slice e)) (he : P.underlying e = some (.int k)) (hc : P.cellsOf e = 1)
    (h : DataW.trod enc P W 0 (fun _ => true) true m t [u] = some y) : ∃ xs : List Int, (∀ x ∈ xs, (Lit.int k x).wf = true) ∧ ∀ w', Fr Non W w' → Ints w' k u xs := by
  obtain ⟨A, c, xs, rfl, h1, h2, h3, h4⟩ := open_nums_cell ht he hc h
  exact ⟨xs, h3, fun w' hF => ⟨A, c, rfl, h1, h2, (h4.mono (fun _ _ _ => trivial)).non hF⟩⟩
theorem ints_of {t e : TypeId} {k : IntKind} {r : Reach} {b0 : Nat} {v : Value} {d : DataW H} {ps : List MemPlace} (ht : P.underlying t = some (.slice e)) (he : P.underlying e = some (.int k)) (hc : P.cellsOf e = 1)
    (hv : Value.okWide P W r b0 t v) (h : DataW.Trod enc P W 0 (fun _ => true) true t v d ps) : ∃ xs : List Int, (∀ x ∈ xs, (Lit.int k x).wf = true) ∧ ∀ w', Fr Non W w' → Ints w' k v xs := by
  obtain ⟨A, n, c, rfl⟩ := okWide_slice ht hv
  obtain ⟨fuel, hf⟩ := h
  exact ints_of_cell ht he hc hf
theorem bytes_of_wf {xs : List Int} (h : ∀ x ∈ xs, (Lit.int .u8 x).wf = true) : Bytes xs := by
  intro x hx
  have := bounds_u8 (h x hx)
  unfold isByte
  omega
end

end Go.Proofs.YtpaelngpmbeedaaGreatDoor
/- Arguments opened: a slice of requests; one request; bytes. -/
namespace Go.Proofs.YtpaelngpmbeedaaGreatDoor
open Go.ChangeShapes Go.WideShapes Go.ChangeAt Go.RowKit Go.Deep

theorem u8_cells1 : Tryz.prog.cellsOf 5 = 1 := by kernel_rfl
theorem req_cells : Tryz.prog.cellsOf 42 = 6 := by kernel_rfl
section
variable {H : Type} {enc : TypeId × Value → H} {P : Program} {W : World}
/-- a struct by value, of fields of one cell each -/
theorem open_struct {r : Reach} {b0 : Nat} {t : TypeId} {fs : Array Field} {v : Value} {d : DataW H} {ps : List MemPlace} (hs : P.underlying t = some (.struct fs)) (hone : oneCellFields P fs = true) (hC : P.cellsOf t = fs.size)
    (hv : Value.okWide P W r b0 t v) (h : DataW.Trod enc P W 0 (fun _ => true) true t v d ps) :
    ∃ us : Nat → Value, v = .agg ((List.range fs.size).map us).toArray ∧ ∀ (j : Nat) (f : Field), fs[j]? = some f → ∃ y m, DataW.trod enc P W 0 (fun _ => true) true m f.type [us j] = some y := by
  obtain ⟨cs, rfl, hsz⟩ := okWide_struct hs hv
  obtain ⟨fuel, hf⟩ := h
  obtain ⟨ys, n', _, _, hlen, hyl, hff⟩ := DataW.trod_struct hs hf
  have hl : cs.toList.length = fs.size := by rw [Array.length_toList, hsz, hC]
  refine ⟨fun j => cs.toList.getD j default, ?_, fun j f hj => ?_⟩
  · congr 1
    apply Array.toList_inj.1
    apply List.ext_getElem?
    intro i
    by_cases hi : i < fs.size
    · rw [List.getElem?_map, List.getElem?_range hi, List.getElem?_eq_getElem (by omega), Option.map_some, List.getD_eq_getElem?_getD, List.getElem?_eq_getElem (by omega)]
      rfl
    · rw [List.getElem?_eq_none (by omega), List.getElem?_eq_none (by simp; omega)]
  · obtain ⟨ho, hk⟩ := hone_of hone j f hj
    have hjl : j < fs.size := (Array.getElem?_eq_some_iff.1 hj).1
    have h1 := hff j f hj
    simp only [Value.cells] at h1
    rw [ho, hk, List.drop_eq_getElem_cons (show j < cs.toList.length by omega), List.take_succ_cons, List.take_zero] at h1
    have hys : ys[j]? = some (ys[j]'(by omega)) := List.getElem?_eq_getElem (by omega)
    show ∃ y m, DataW.trod enc P W 0 (fun _ => true) true m f.type [cs.toList.getD j default] = some y
    rw [List.getD_eq_getElem?_getD, List.getElem?_eq_getElem (show j < cs.toList.length by omega), Option.getD_some]
    exact ⟨_, _, h1.trans hys⟩
end
set_option maxRecDepth 100000 in
theorem open_req {H : Type} {enc : TypeId × Value → H} {W : World} {r : Reach} {b0 : Nat} {v : Value} {d : DataW H} {ps : List MemPlace} (hv : Value.okWide Tryz.prog W r b0 42 v) (h : DataW.Trod enc Tryz.prog W 0 (fun _ => true) true 42 v d ps) :
    ∃ (x : RQ) (B : Option Addr) (n c : Nat), v = reqV x (.slice B n c) ∧ x.ok ∧ Bytes x.data ∧ ∀ w', Fr Non W w' → Ints w' .u8 (.slice B n c) x.data := by
  obtain ⟨us, rfl, hu⟩ := open_struct Tryz.underlying42 (by kernel_rfl) req_cells hv h
  obtain ⟨y0, m0, t0⟩ := hu 0 _ rfl
  obtain ⟨y1, m1, t1⟩ := hu 1 _ rfl
  obtain ⟨y2, m2, t2⟩ := hu 2 _ rfl
  obtain ⟨y3, m3, t3⟩ := hu 3 _ rfl
  obtain ⟨y4, m4, t4⟩ := hu 4 _ rfl
  obtain ⟨y5, m5, t5⟩ := hu 5 _ rfl
  obtain ⟨x0, e0, _⟩ := int_cell Tryz.underlying3 t0
  obtain ⟨x1, e1, _⟩ := int_cell Tryz.underlying3 t1
  obtain ⟨x2, e2, _⟩ := int_cell Tryz.underlying3 t2
  obtain ⟨x3, e3, h3⟩ := int_cell Tryz.underlying30 t3
  obtain ⟨x4, e4, h4⟩ := int_cell Tryz.underlying32 t4
  obtain ⟨xs, hwf, hI⟩ := ints_of_cell Tryz.underlying34 Tryz.underlying5 u8_cells1 t5
  obtain ⟨B, c, e5, _, _, _⟩ := hI W (Fr.refl _ _)
  have hb := u64_bounds h3
  have hb4 := bounds_u32 h4
  refine ⟨⟨x0, x1, x2, x3, x4, xs⟩, B, xs.length, c, ?_, ⟨hb.1, by show x3 < _; omega, by show 0 ≤ x4; omega, by show x4 < _; omega⟩, bytes_of_wf hwf, fun w' hF => by rw [← e5]; exact hI w' hF⟩
  show Value.agg #[us 0, us 1, us 2, us 3, us 4, us 5] = _
  rw [e0, e1, e2, e3, e4, e5]

end Go.Proofs.YtpaelngpmbeedaaGreatDoor
/- Arguments opened: a slice of bools. -/
namespace Go.Proofs.YtpaelngpmbeedaaGreatDoor
open Go.ChangeShapes Go.WideShapes Go.ChangeAt Go.RowKit Go.Deep

set_option maxRecDepth 100000 in
theorem bool_cells1 : Tryz.prog.cellsOf 4 = 1 := by kernel_rfl
end Go.Proofs.YtpaelngpmbeedaaGreatDoor
