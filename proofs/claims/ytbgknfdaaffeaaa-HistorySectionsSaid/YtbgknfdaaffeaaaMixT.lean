/- A region that draws its order: behind the operations that may be taken first, whatever comes up next. -/
import Derived.Test.YtbgknfdaaffeaaaMixG
import Derived.Test.YtbgknfdaaffeaaaStApp
namespace Go.Proofs.Ytbgknfdaaffeaaa
open Go.RowKit

section
variable {P : Program} {ops : Array Oper} {Q : Exit → Act → World → Prop} {S : World → Prop} {L : Nat}
theorem wpT_takeK (hsel : ∀ (j : Nat) (o : Oper) cs b, ops[j]? = some o → o.op ≠ .select cs b) (hlast : lastB ops L = true) (hQ : ∀ d v c a w, Q (.panic c) (a.put d v) w → Q (.panic c) a w)
    (n : Nat) {w : World} (hS : S w) : ∀ (hd : List Nat) (listed l : Array Bool) (a : Act), takeB ops L hd listed = some l →
      wpTake P ops S (fun a' => wpT P ops Q S L n l a' w) hd a → wpT P ops Q S L (hd.length + n) listed a w
  | [], listed, l, a, h, ht => by
    simp only [takeB, Option.some.injEq] at h
    subst h
    rw [List.length_nil, Nat.zero_add]
    exact ht
  | i :: r, listed, l, a, h, ht => by
    unfold takeB at h
    split at h
    · rename_i hc
      simp only [Bool.and_eq_true, decide_eq_true_eq] at hc
      obtain ⟨⟨hf, hr⟩, hiL⟩ := hc
      obtain ⟨o, v, ho, hy, ht⟩ := ht
      have := wpT_takeK hsel hlast hQ n hS r _ l _ h ht
      rw [List.length_cons, show r.length + 1 + n = (r.length + n) + 1 by omega]
      exact wpT_first ho hsel hlast hiL (hQ _ _) _ listed a w (Region.free_spec ho hf) (by simpa using hr) hy hS this
    · cases h
def mixTB (ops : Array Oper) (L n : Nat) (hd : List Nat) (l : Array Bool) : Bool :=
  Region.noSelect ops && lastB ops L && (hd.length + n == ops.size) && takeB ops L hd (Array.replicate ops.size false) == some l
/-- the node of one operation that may come up -/
def wpNode (P : Program) (ops : Array Oper) (Q : Exit → Act → World → Prop) (S : World → Prop) (L k : Nat) (listed : Array Bool) (i : Nat) (a : Act) (w : World) : Prop :=
  wpOp P ops Q i (fun a' w' => (i < L → S w') ∧ wpT P ops Q S L k (listed.setIfInBounds i true) a' w') a w
theorem wpT_nodes {k : Nat} {listed : Array Bool} {a : Act} {w : World} (rs : List Nat) (h : Region.ready .any ops listed = rs) (hne : rs ≠ []) (H : ∀ i ∈ rs, wpNode P ops Q S L k listed i a w) : wpT P ops Q S L (k + 1) listed a w :=
  ⟨fun h0 => absurd (h.symm.trans h0) hne, fun i hi => H i (h ▸ hi)⟩
end

section
variable {P : Program} {l : List Oper} {Q : Exit → Act → World → Prop} {S : World → Prop} {L : Nat}
theorem region_mixT {id : Nat} {a : Act} {w : World} {l : List Oper} (S : World → Prop) (L n : Nat) (hd : List Nat) (listed : Array Bool) (hm : P.follows .mixedOrders = true) (hB : mixTB l.toArray L n hd listed = true)
    (hQ : ∀ d v c a w, Q (.panic c) (a.put d v) w → Q (.panic c) a w)
    (h : ∀ W : World, W = w.drew → S W ∧ wpTake P l.toArray S (fun a' => wpT P l.toArray Q S L n listed a' W) hd a) : (Code.region id l.toArray true).wp P Q a w := by
  obtain ⟨hS, ht⟩ := h _ rfl
  simp only [mixTB, Bool.and_eq_true, beq_iff_eq] at hB
  obtain ⟨⟨⟨hsel, hlast⟩, hlen⟩, hB⟩ := hB
  refine wp_region_any hm (wpAny_of_wpT (S := S) (L := L) _ _ _ _ ?_)
  rw [← hlen]
  exact wpT_takeK (Region.noSelect_spec hsel) hlast hQ n hS hd _ listed a (by rw [hlen]; exact hB) ht
theorem node_run {k : Nat} {listed : Array Bool} {i : Nat} {a : Act} {w w' : World} {o : Oper} {v : Value} (ho : l[i]? = some o) (hg : o.guard = none)
    (hrun : (execOp a.eval o).run P w = .ok (.value v) w') (hS : i < L → S w') (h : wpT P l.toArray Q S L k (listed.setIfInBounds i true) (a.put o.dst v) w') : wpNode P l.toArray Q S L k listed i a w := by
  unfold wpNode wpOp
  have ho' : l.toArray[i]? = some o := by simpa using ho
  simp only [ho']
  rw [if_pos (by simp [Region.wanted, hg])]
  refine .inl ?_
  unfold Oper.wp
  rw [hrun]
  exact ⟨hS, h⟩
theorem node_buildSlice0 {k : Nat} {listed : Array Bool} {i : Nat} {a : Act} {w w' : World} {o : Oper} {v : Value} (ho : l[i]? = some o) (hg : o.guard = none) (t : TypeId) (len : Nat) (hop : o.op = .buildSlice t len #[])
    (hrun : (Instr.buildSlice t len #[]).run P w = .ok v w') (hS : i < L → S w') (h : wpT P l.toArray Q S L k (listed.setIfInBounds i true) (a.put o.dst v) w') : wpNode P l.toArray Q S L k listed i a w :=
  node_run ho hg (by unfold execOp; simp only [hop, List.map_toArray, List.map_nil, Sem.run_bind, Sem.run_pure, Result.andThen_ok, hrun]) hS h
theorem node_buildSlice1 {k : Nat} {listed : Array Bool} {i : Nat} {a : Act} {w w' : World} {o : Oper} {v : Value} (ho : l[i]? = some o) (hg : o.guard = none) (t : TypeId) (len q : Nat) (x : Operand) (u : Value) (hop : o.op = .buildSlice t len #[(q, x)]) (hx : a.eval x = u)
    (hrun : (Instr.buildSlice t len #[(q, u)]).run P w = .ok v w') (hS : i < L → S w') (h : wpT P l.toArray Q S L k (listed.setIfInBounds i true) (a.put o.dst v) w') : wpNode P l.toArray Q S L k listed i a w :=
  node_run ho hg (by unfold execOp; simp only [hop, hx, List.map_toArray, List.map_cons, List.map_nil, Sem.run_bind, Sem.run_pure, Result.andThen_ok, hrun]) hS h
theorem node_app {k : Nat} {listed : Array Bool} {M0 : Imm} {Ls : List Res} {t e : TypeId} {z : Value} {size bytes : Nat} {v : Value} {n : Nat} {xs : List Value} {w : World} {i : Nat} {ac : Act} {o : Oper} (hE : ElemOf P t e z size bytes) (h : St M0 w (rowR e size v n xs :: Ls)) (ho : l[i]? = some o) (hg : o.guard = none) (s x : Operand)
    (hop : o.op = .call { callee := .builtin .append, args := #[s, x], argTypes := #[t, t] }) (hs : ac.eval s = v)
    (A : Option Addr) (m c : Nat) (hx : ac.eval x = .slice A m c) (ys : List Value) (hy : Sl w Any size A m ys) (h1 : ∀ u ∈ ys, u.oneCell' = true)
    (hb : (n + m) * bytes ≤ 140737488355328) (hn : n + m ≤ 140737488355328)
    (kk : ∀ A' c' w', St M0 w' (rowR e size (.slice A' (n + m) c') (n + m) (xs ++ ys) :: Ls) → (i < L → S w') ∧ wpT P l.toArray Q S L k (listed.setIfInBounds i true) (ac.put o.dst (.slice A' (n + m) c')) w') : wpNode P l.toArray Q S L k listed i ac w := by
  obtain ⟨v', w', hrun, h2⟩ := St.run_app hE h o.type A m c ys hy h1 hb hn
  obtain ⟨A', c', rfl⟩ := h2.slice
  have hk := kk A' c' w' h2
  exact node_run ho hg (by unfold execOp; simp only [hop, resolve, invoke, builtin, Sem.run_bind, Sem.run_pure, Result.andThen_ok, List.map_toArray, List.map_cons, List.map_nil, hs, hx, hrun]) hk.1 hk.2
end

theorem node_callR {P : Program} {l : List Oper} {Q : Exit → Act → World → Prop} {S : World → Prop} {L : Nat} {k : Nat} {listed : Array Bool} {i : Nat} {a : Act} {w : World} {o : Oper} {f : FuncId} {args : Array Value} (ho : l[i]? = some o) (hg : o.guard = none)
    (hrun : (execOp a.eval o).run P w = .ok (.enter f args) w)
    (h : Calls P f args w fun e w' => ∃ v, e = .returned v ∧ (i < L → S w') ∧ wpT P l.toArray Q S L k (listed.setIfInBounds i true) (a.put o.dst v) w') : wpNode P l.toArray Q S L k listed i a w := by
  unfold wpNode wpOp
  have ho' : l.toArray[i]? = some o := by simpa using ho
  simp only [ho']
  rw [if_pos (by simp [Region.wanted, hg])]
  refine .inl ?_
  unfold Oper.wp
  rw [hrun, Oper.upon_enter]
  refine h.mono fun e w' ⟨v, he, hS, h⟩ => ?_
  subst he
  exact ⟨hS, h⟩
theorem wpT_mid1 {P : Program} {l : List Oper} {Q : Exit → Act → World → Prop} {S : World → Prop} {L : Nat} {n : Nat} {listed : Array Bool} {a : Act} {w : World} (hd : List Nat) (l' : Array Bool) (hsel : Region.noSelect l.toArray = true) (hlast : lastB l.toArray L = true) (hQ : ∀ d v c a w, Q (.panic c) (a.put d v) w → Q (.panic c) a w)
    (hS : S w) (ht : takeB l.toArray L hd listed = some l') (h : wpTake P l.toArray S (fun a' => wpT P l.toArray Q S L n l' a' w) hd a) : wpT P l.toArray Q S L (hd.length + n) listed a w :=
  wpT_takeK (Region.noSelect_spec hsel) hlast hQ n hS hd listed l' a ht h
end Go.Proofs.Ytbgknfdaaffeaaa
