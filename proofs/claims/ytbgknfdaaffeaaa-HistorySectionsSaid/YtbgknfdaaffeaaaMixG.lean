/- Regions that draw: operations that have a guard and are wanted. -/
import Derived.Test.YtbgknfdaaffeaaaMix
namespace Go.Proofs.Ytbgknfdaaffeaaa
open Go.RowKit
section
variable {P : Program} {l : List Oper} {Q : Exit → Act → World → Prop} {S : World → Prop} {L : Nat}
theorem take_on {K : Act → Prop} {i : Nat} {r : List Nat} {a : Act} {o : Oper} {v : Value} (ho : l[i]? = some o) (hw : Region.wanted o (yielded l.toArray a.tmps) = true)
    (hrun : ∀ W, S W → (execOp a.eval o).run P W = .ok (.value v) W) (h : wpTake P l.toArray S K r (a.put o.dst v)) : wpTake P l.toArray S K (i :: r) a :=
  ⟨o, v, by simpa using ho, .inl ⟨hw, hrun⟩, h⟩
theorem seq_on {i : Nat} {r : List Nat} {a : Act} {w : World} {o : Oper} (ho : l[i]? = some o) (hw : Region.wanted o (yielded l.toArray a.tmps) = true)
    (h : o.wp P a w (fun a' w' => (i < L → S w') ∧ wpSeq P l.toArray Q S L r a' w') Q) : wpSeq P l.toArray Q S L (i :: r) a w :=
  ⟨o, by simpa using ho, by rw [if_pos hw]; exact h⟩
theorem seq_call_on {i : Nat} {r : List Nat} {a : Act} {w : World} {o : Oper} {f : FuncId} {args : Array Value} (ho : l[i]? = some o) (hw : Region.wanted o (yielded l.toArray a.tmps) = true)
    (hrun : (execOp a.eval o).run P w = .ok (.enter f args) w)
    (h : Calls P f args w fun e w' => ∃ v, e = .returned v ∧ (i < L → S w') ∧ wpSeq P l.toArray Q S L r (a.put o.dst v) w') : wpSeq P l.toArray Q S L (i :: r) a w :=
  seq_on ho hw (by
    unfold Oper.wp
    rw [hrun, Oper.upon_enter]
    refine h.mono fun e w' ⟨v, he, hS, h⟩ => ?_
    subst he
    exact ⟨hS, h⟩)
theorem seq_read_on {i : Nat} {r : List Nat} {a : Act} {w : World} {o : Oper} {v : Value} (ho : l[i]? = some o) (hw : Region.wanted o (yielded l.toArray a.tmps) = true)
    (hrun : (execOp a.eval o).run P w = .ok (.value v) w) (hS : i < L → S w) (h : wpSeq P l.toArray Q S L r (a.put o.dst v) w) : wpSeq P l.toArray Q S L (i :: r) a w :=
  seq_on ho hw (by
    unfold Oper.wp
    rw [hrun, Oper.upon_value]
    exact ⟨hS, h⟩)
end

end Go.Proofs.Ytbgknfdaaffeaaa
