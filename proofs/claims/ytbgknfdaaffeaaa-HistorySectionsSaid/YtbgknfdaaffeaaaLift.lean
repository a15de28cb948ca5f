/- A law's row out of its walk: whoever shows that the call answers true and changes nothing that was there has the row. -/
import Derived.Test.YtbgknfdaaffeaaaBase
import Derived.Test.YtbgknfdaaffeaaaRows
import Derived.ProofKit
import Derived.OpenShut
import Derived.SizedLaws
namespace Go.Proofs.Ytbgknfdaaffeaaa
open Go.ChangeShapes Go.WideShapes Go.ChangeAt Go.RowKit

theorem own_knob : ownKnob Try.prog.godebug = none := by kernel_rfl
theorem laid_out : laidOutB Try.prog = true := by kernel_rfl

theorem trodAll_below {H : Type} {enc : TypeId × Value → H} {P : Program} (hl : laidOutB P = true) {W W' : World} (hb : Below W.heap.size W W') :
    ∀ (ts : List TypeId) (vs : List Value) (ds : List (DataW H)) (ps : List MemPlace), ts.all (fun t => P.readableRec t && decide (t < P.types.size)) = true →
      DataW.TrodAll enc P W 0 (fun _ => true) true ts vs ds ps → (∀ x ∈ ps, x.block < W.heap.size) → DataW.TrodAll enc P W' 0 (fun b => decide (b < W.heap.size)) true ts vs ds ps
  | [], [], [], _, _, h, _ => h
  | t :: ts, v :: vs, d :: ds, ps, hr, h, hlt => by
    obtain ⟨p, q, h1, h2, rfl⟩ := h
    simp only [List.all_cons, Bool.and_eq_true, decide_eq_true_eq] at hr
    exact ⟨p, q, Below.trod hl hr.1.1 hr.1.2 h1 hb (fun x hx => hlt x (List.mem_append_left _ hx)),
      trodAll_below hl hb ts vs ds q (by simpa using hr.2) h2 (fun x hx => hlt x (List.mem_append_right _ hx)), rfl⟩
  | [], [], _ :: _, _, _, h, _ => h.elim
  | [], _ :: _, _, _, _, h, _ => h.elim
  | _ :: _, [], _, _, _, h, _ => h.elim
  | _ :: _, _ :: _, [], _, _, h, _ => h.elim

theorem trodAll_length {H : Type} {enc : TypeId × Value → H} {P : Program} {W : World} {b : Nat} {sp : Nat → Bool} {hd : Bool} :
    ∀ (ts : List TypeId) (vs : List Value) (ds : List (DataW H)) (ps : List MemPlace), DataW.TrodAll enc P W b sp hd ts vs ds ps → ds.length = ts.length ∧ vs.length = ts.length
  | [], [], [], _, _ => ⟨rfl, rfl⟩
  | _ :: ts, _ :: vs, _ :: ds, _, h => by
    obtain ⟨p, q, _, h2, rfl⟩ := h
    have := trodAll_length ts vs ds q h2
    simp [this]
  | [], [], _ :: _, _, h => h.elim
  | [], _ :: _, _, _, h => h.elim
  | _ :: _, [], _, _, h => h.elim
  | _ :: _, _ :: _, [], _, h => h.elim

set_option maxRecDepth 100000 in
theorem law_lift {H : Type} {enc : TypeId × Value → H} {os : Os} {k : FuncId} {fn : Func} {s : ChangeSpec} {tb : TypeId}
    (started : os.Started) (noInit : Try.checked.prog.inits.idxOf? k = none) (hfn : Try.checked.prog.funcs[k]? = some fn)
    (hps : fn.params.toList.all (fun t => Try.checked.prog.readableRec t && decide (t < Try.checked.prog.types.size)) = true)
    (hres : fn.resultTypes = #[tb]) (hb : Try.checked.prog.underlying tb = some .bool)
    (hv : s.vars = []) (hs : ∀ ds : List (DataW H), ds.length = fn.params.size → s.fn H ds = { results := [.lit (.bool true)], args := ds })
    (witness : ∃ (w : World) (tape : Tape) (i : Input), w.os = os ∧ (w.forCall tape i).Shaped Try.checked.prog ∧ i.vars = [] ∧ Input.okWide Try.checked.prog (w.forCall tape i) .any w.heap.size k i ∧
      s.pre6 enc Try.checked.prog fn [] false (w.forCall tape i).memory i.args ∧ (({} : Assume)).holds Try.checked.prog (lone (Frame.enter Try.checked.prog k i.args .normal) [] (w.forCall tape i)))
    (walk : ∀ (W : World) (base : Nat) (args : Array Value) (ds : List (DataW H)) (ps : List MemPlace),
      (∀ (j : Nat) t v, fn.params[j]? = some t → args[j]? = some v → Value.okWide Try.checked.prog W .any base t v) →
      DataW.TrodAll enc Try.checked.prog W 0 (fun _ => true) true fn.params.toList args.toList ds ps → (∀ x ∈ ps, x.block < W.heap.size) →
      (DataW.weightsEach Try.checked.prog fn.params.toList ds).all (· ≤ reachBytes) = true →
      Calls Try.checked.prog k args W fun e W' => e = .returned (.bool true) ∧ Fr Non W W') :
    ReturnsInHanded {} Try.checked os k .any (s.pre6 enc Try.checked.prog fn [] false) (s.post enc Try.checked.prog fn false true false false) := by
  refine returnsInHanded_of_change_sized (C := Try.checked) own_knob started noInit hfn witness ?_
  intro W base args ds gs before hval hW _ hsz _
  have hW' := hW
  have hlt : ∀ x ∈ before, x.block < W.heap.size := fun p hp => hW.lt p hp
  obtain ⟨p, q, hA, hV, rfl, hfz, hnd⟩ := hW
  have hgq : gs = [] ∧ q = [] := by
    rw [hv] at hV
    cases gs with
    | nil => exact ⟨rfl, hV⟩
    | cons _ _ => exact hV.elim
  obtain ⟨rfl, rfl⟩ := hgq
  simp only [List.append_nil] at hlt hW' hsz
  have hvt : s.plain.varTypes Try.checked.prog = [] := by simp [DataSpec.varTypes, ChangeSpec.plain, hv]
  rw [hvt] at hsz
  simp only [List.append_nil] at hsz
  refine (walk W base args ds p hval hA hlt hsz).mono fun e W' ⟨he, hf⟩ => ⟨_, he, ?_⟩
  have hlen := (trodAll_length _ _ _ _ hA).1
  have hfn' := hs ds (by simpa using hlen)
  have hbl := hf.below
  refine ⟨ds, [], p, [], p, [], hW', ?_, ?_, ?_, hbl.frame _, fun h => by cases h⟩
  · simp only [List.append_nil, hfn', hres]
    exact trodAll_cons_mk (shut_bool hb true) trodAll_mk0
  · simp only [List.append_nil, hfn']
    exact trodAll_below laid_out hbl _ _ _ _ hps hA hlt
  · rw [hv]; simp only [List.append_nil, hfn']; rfl

end Go.Proofs.Ytbgknfdaaffeaaa
