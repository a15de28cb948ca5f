/- A range over a function whose rounds all go on, by resources. -/
import Derived.RangeFuncNested
import Derived.RangeFuncBound
import Derived.RangeFuncCalls
import Derived.RangeFuncLeaves
import Derived.Shelf.Abstract
import Derived.Shelf.RegionOpen
import Derived.OwnWalkIn
import Derived.TacticsInMore
import Derived.LoopNIn
import Derived.LoopIn
import Derived.Test.YtbnjeekhoaapiaaStRows
namespace Go.Proofs.Ytbnjeekhoaapiaa
open Go.RowKit

/-- an object that is no cells -/
def objR (b : Nat) (o : Obj) : Res where
  holds _ w F := (∀ x, F x ↔ x = b) ∧ w.heap[b]? = some o
  lt h hb := by rw [(h.1 _).1 hb]; exact (Array.getElem?_eq_some_iff.1 h.2).1
  loc h _ _ hb := ⟨h.1, (hb _ ((h.1 _).2 rfl)).trans h.2⟩
section
variable {M0 : Imm} {w : World} {L : List Res} {b : Nat} {o : Obj}
theorem St.obj (h : St M0 w L) (i : Nat) (hi : L[i]? = some (objR b o)) : w.heap[b]? = some o := by
  obtain ⟨M, F, hx, ha⟩ := h.fact i hi
  exact hx.2
theorem St.allocO (h : St M0 w L) (o : Obj) : St M0 (w.alloc o) (objR w.heap.size o :: L) :=
  h.add (F' := (· = w.heap.size)) ((Fr.refl _ _).alloc _) (fun _ _ => ⟨fun _ => Iff.rfl, heap_alloc_new w _⟩) (fun _ hb => Nat.le_of_eq hb.symm)
theorem St.putO (h : St M0 w (objR b o :: L)) (o' : Obj) : St M0 (w.putObj b o') (objR b o' :: L) := by
  have hlt : b < w.heap.size := (Array.getElem?_eq_some_iff.1 (h.obj 0 rfl)).1
  obtain ⟨M, F, _, _, hx, _, hk⟩ := h.head
  refine hk _ _ F ⟨rfl, rfl, rfl, by simp, fun k _ hs => World.putObj_heap_other (fun e => hs ((hx.1 k).2 e))⟩ (fun _ => ⟨hx.1, World.putObj_heap_same hlt⟩) (fun _ hb => .inl hb)
end

/-- the loop's record -/
abbrev recL (fn : FuncId) (tmps : Array Value) (ps : Array Tmp) (assign body : Code) (D : Nat) (st : LoopState) : Loop := { state := st, pending := none, fn := fn, tmps := tmps, params := ps, assign := assign, body := body, defers := D }

theorem rangeFunc_st {P : Program} {g : Operand} {ps : Array Tmp} {assign body : Code} {Q : Exit → Act → World → Prop} {a : Act} {w : World} {M0 : Imm} {L : List Res} {gf : Nat} {lb : Array Value} {n : Nat}
    (hg : a.eval g = .func (.func gf) #[] lb) (eg : ∀ args w, (callFunc gf args).run P w = .ok (.enter gf args) w) (h : St M0 w L)
    (hit : ∀ (fn : FuncId) (lr D : Nat) (W1 : World), St M0 W1 (objR lr (.loop (recL fn a.tmps ps assign body D .ready)) :: objR D (.deferred (some [])) :: L) →
      CallsIn Fence.wide (n - 1) P gf (#[.func (.yield lr) #[] #[]] ++ lb) W1 fun e W2 => (∃ v, e = .returned v) ∧ ∃ L', St M0 W2 (objR lr (.loop (recL fn a.tmps ps assign body D .ready)) :: objR D (.deferred (some [])) :: L') ∧
        (∀ W3, St M0 W3 (objR D (.deferred (some [])) :: L') → Q .normal { a with defers := { target := .collected D, args := #[] } :: a.defers } W3)) :
    (Code.rangeFunc g ps assign body).wpIn Fence.wide n P Q a w := by
  refine wpIn_rangeFunc ?_
  intro fn _
  have h1 := (h.allocO (.deferred (some []))).allocO (.loop (recL fn a.tmps ps assign body w.heap.size .ready))
  rw [World.size_alloc] at h1
  refine ⟨w.heap.size + 1, [{ target := .collected w.heap.size, args := #[] }], (w.alloc (.deferred (some []))).alloc (.loop (recL fn a.tmps ps assign body w.heap.size .ready)), { target := .fn (.func gf) lb, args := #[.func (.yield (w.heap.size + 1)) #[] #[]] }, (w.alloc (.deferred (some []))).alloc (.loop (recL fn a.tmps ps assign body w.heap.size .ready)), gf,
    #[.func (.yield (w.heap.size + 1)) #[] #[]] ++ lb, (w.alloc (.deferred (some []))).alloc (.loop (recL fn a.tmps ps assign body w.heap.size .ready)), ?_, ?_, ?_, ?_, fun hd => ?_, ?_⟩
  · exact run_enterLoop_outer _ _ _ _ _
  · simp only [resolve, hg]
    simp [go_sem]
  · intro f' _
    trivial
  · simp [invoke, go_sem, eg]
  · simp [Fence.wide] at hd
  · refine (hit fn (w.heap.size + 1) w.heap.size _ h1).mono ?_
    rintro e W2 ⟨⟨v, rfl⟩, L', h2, hq⟩
    have hl := h2.obj 0 rfl
    exact ⟨none, _, run_endLoop hl (by simp), hq _ (h2.putO _).tail⟩

/-- a round that goes on -/
theorem yield_st {P : Program} {lr D : Nat} {fn : FuncId} {tmps args : Array Value} {ps : Array Tmp} {assign body : Code} {M0 : Imm} {W : World} {L : List Res} {n : Nat} (L' : List Res) (a₁ : Act)
    (h : St M0 W (objR lr (.loop (recL fn tmps ps assign body D .ready)) :: L)) (hs : args.size = ps.size)
    (hassign : ∀ (W1 : World) (K : Act → World → Prop), K a₁ W1 → assign.wpIn (Fence.wide.inRound lr) n P (Exit.then K (fun _ _ _ => False)) { tmps := (ps.zip args).foldl (fun t (p, v) => t.setIfInBounds p v) tmps, defers := [] } W1)
    (hbody : ∀ W1, St M0 W1 (objR lr (.loop (recL fn tmps ps assign body D .busy)) :: L) → body.wpIn (Fence.wide.inRound lr) n P (fun e _ W2 => e = .normal ∧ St M0 W2 (objR lr (.loop (recL fn tmps ps assign body D .busy)) :: L')) a₁ W1) :
    YieldAt Fence.wide n P lr args W fun e W2 => e = .returned (.bool true) ∧ St M0 W2 (objR lr (.loop (recL fn tmps ps assign body D .ready)) :: L') := by
  have hl := h.obj 0 rfl
  refine ⟨fn, _, assign, body, run_yield hl hs, roundIn_of_wpIn trivial (hassign W _ ⟨_, run_beginRound hl rfl, ?_⟩)⟩
  refine wpIn_mono (hbody _ (h.putO _)) ?_
  rintro e a3 W3 ⟨rfl, h3⟩
  have hl3 := h3.obj 0 rfl
  exact ⟨_, _, run_endRound none hl3, rfl, h3.putO _⟩

end Go.Proofs.Ytbnjeekhoaapiaa
