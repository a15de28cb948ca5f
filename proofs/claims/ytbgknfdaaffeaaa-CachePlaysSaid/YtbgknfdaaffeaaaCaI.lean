/- Cache: IndexFunc and ContainsFunc over writes that may grow. -/
import Derived.Test.YtbgknfdaaffeaaaRedoM
import Derived.Test.YtbgknfdaaffeaaaMixT
import Derived.Test.YtbgknfdaaffeaaaCloneSt
import Derived.Deep.LoopGhost
import Derived.Test.YtbgknfdaaffeaaaStFlat
namespace Go.Proofs.Ytbgknfdaaffeaaa
open Go.RowKit

/-- an element of a slice that still grows -/
theorem St.elemG {α : Type} {M0 : Imm} {w : World} {L : List Res} {e : TypeId} {size : Nat} {R : World → List Value → α → Prop} {A : Option Addr} {n c : Nat} {xs : List α} (h : St M0 w (growR e size R (.slice A n c) xs :: L)) (hs : 0 < size) {k : Nat} {x : α} (hk : xs[k]? = some x) :
    ∃ ad cs, A = some ad ∧ cs.length = size ∧ (∀ j u, cs[j]? = some u → w.cell? ((ad.add (k * size)).add j) = some u) ∧ R w cs x ∧ n = xs.length ∧ St M0 w (persR (fun w' => R w' cs x) :: growR e size R (.slice A n c) xs :: L) := by
  obtain ⟨vs, hn, hl, h1⟩ := h.openGrowS
  have hlt := (List.getElem?_eq_some_iff.1 hk).1
  have hle : (k + 1) * size ≤ n * size := Nat.mul_le_mul_right _ (by omega)
  rw [Nat.add_mul, Nat.one_mul] at hle
  have hsl := h1.sl
  have hr := h1.get 1 rfl k x hk
  obtain ⟨ad, hA, _, _, hc⟩ := hsl.2 (by omega)
  refine ⟨ad, (vs.drop (k * size)).take size, hA, by rw [List.length_take, List.length_drop]; omega, fun j u hu => ?_, hr, hn, ?_⟩
  · rw [addr_add]
    refine hc (k * size + j) u ?_
    rw [List.getElem?_take] at hu
    split at hu
    · rwa [List.getElem?_drop] at hu
    · cases hu
  · have h2 := (h1.copy 1 rfl).pers1 (R' := fun w' => R w' ((vs.drop (k * size)).take size) x) (fun w' hr => hr k x hk)
    have h3 := h2.dn2
    subst hn
    exact (St.addEx (f := fun vs => starR (rowR e size (.slice A xs.length c) xs.length vs) (persR (fun w => ∀ (i : Nat) x, xs[i]? = some x → R w ((vs.drop (i * size)).take size) x))) vs h3.addStar).swap
theorem St.growLen {α : Type} {M0 : Imm} {w : World} {L : List Res} {e : TypeId} {size : Nat} {R : World → List Value → α → Prop} {v : Value} {xs : List α} (h : St M0 w (growR e size R v xs :: L)) : ∃ A c, v = .slice A xs.length c ∧ xs.length ≤ c ∧ c ≤ maxLen := by
  obtain ⟨A, c, q, vs, rfl, hq, h1⟩ := h.openGrow
  subst hq
  rcases (h1.row 0 rfl).2 with ⟨h2, h0⟩ | ⟨g, cap, cur, h2, hg, hh, hc, hm, _⟩
  · injection h2 with h2 h3 h4
    exact ⟨A, c, rfl, by omega, by unfold maxLen; omega⟩
  · injection h2 with h2 h3 h4
    exact ⟨A, c, rfl, by omega, by omega⟩

/-- a function that is asked of one after the other, and may keep something: the first of which it is said, and what is kept then -/
def idxS {σ : Type} (f : σ → PU → Bool × σ) : σ → Nat → List PU → Int × σ
  | s, _, [] => (-1, s)
  | s, i, x :: r => if (f s x).1 = true then ((i : Int), (f s x).2) else idxS f (f s x).2 (i + 1) r
/-- those of which it is not said -/
def keepS {σ : Type} (f : σ → PU → Bool × σ) : σ → List PU → List PU
  | _, [] => []
  | s, x :: r => if (f s x).1 = true then keepS f (f s x).2 r else x :: keepS f (f s x).2 r
def lastS {σ : Type} (f : σ → PU → Bool × σ) (s : σ) (l : List PU) : σ := l.foldl (fun s x => (f s x).2) s

set_option maxHeartbeats 1000000 in
set_option maxRecDepth 100000 in
theorem indexG_st {M0 : Imm} {σ : Type} (T : σ → List Res) (f : FuncId) (cap : Value) (p : σ → PU → Bool × σ) (s0 : σ) (l : List PU) (A : Option Addr) (n c : Nat) (w : World)
    (hC : ∀ (args : Array Value) (W : World), Sem.run Try.prog (callFunc f args) W = .ok (.enter f args) W)
    (hF : ∀ (s : σ) (x : PU) (v : Value) (W : World), x ∈ l → St M0 W (growR 153 3 PutR (.slice A n c) l :: T s) → Calls Try.prog f #[putV x v, cap] W fun e W' => e = .returned (.bool (p s x).1) ∧ St M0 W' (growR 153 3 PutR (.slice A n c) l :: T (p s x).2))
    (h : St M0 w (growR 153 3 PutR (.slice A n c) l :: T s0)) :
    Calls Try.prog 133 #[.slice A n c, .func (.func f) #[] #[cap]] w fun e w' => e = .returned (.int .i64 (idxS p s0 0 l).1) ∧ St M0 w' (growR 153 3 PutR (.slice A n c) l :: T (idxS p s0 0 l).2) := by
  obtain ⟨A', c', e, hc, hm⟩ := h.growLen
  injection e with e1 e2 e3
  subst e1; subst e3
  have HN := hide e2
  have hnc : n ≤ c := by omega
  have hcm : (c : Int) ≤ 9223372036854775807 := by unfold maxLen at hm; omega
  have H := hide h
  have HF := hide hF
  have HC := hide hC
  have hI := hide (show idxS p s0 0 l = idxS p s0 0 (l.drop 0) from rfl)
  clear h e2 hF hC hm hc
  go_enter Try.func133, Try.ntmps133
  go_wp2_with fail
  go_loopg [8] n (fun gh i wr => ∃ (k : Nat) (s : σ), gh = n - k ∧ k ≤ n ∧ i = .int .i64 (k : Nat) ∧ idxS p s0 0 l = idxS p s k (l.drop k) ∧ St M0 wr (growR 153 3 PutR (.slice A n c) l :: T s))
  case atStart => exact ⟨0, s0, rfl, by omega, rfl, hI.out, H.out⟩
  case round =>
    clear H hI
    obtain ⟨k, s, hg, hk, rfl, hi, h⟩ := hrel
    have HG := hide hg
    clear hg
    by_cases hlt : k < n
    · have hx := List.getElem?_eq_getElem (l := l) (i := k) (by rw [← HN.out]; exact hlt)
      have hdr := List.drop_eq_getElem_cons (l := l) (i := k) (by rw [← HN.out]; exact hlt)
      generalize l[k]'(by rw [← HN.out]; exact hlt) = x at hx hdr
      have hs : idxS p s k (l.drop k) = if (p s x).1 = true then ((k : Int), (p s x).2) else idxS p (p s x).2 (k + 1) (l.drop (k + 1)) := by rw [hdr]; rfl
      have HM := hide (List.mem_of_getElem? hx)
      obtain ⟨ad, cs, rfl, _, hcs, ⟨v, rfl, hv⟩, -, h1⟩ := h.elemG (by omega) hx
      obtain ⟨B, d, rfl, _, _, _⟩ := id hv
      obtain ⟨e0, e1, e2⟩ := cells3 hcs
      have HI := hide (hi.trans hs)
      have H1 := hide h
      clear hx h h1 hv hcs hdr hs hi
      have i0 : (0 : Int) ≤ (k : Int) := by omega
      have i1 : (k : Int) < (n : Int) := by omega
      go_wp2_with fail
      rw [HC.out, Oper.upon_enter]
      refine (HF.out s x (.slice B x.data.length d) _ HM.out H1.out).mono ?_
      rintro e w2 ⟨rfl, hf⟩
      have H2 := hide hf
      clear H1 hf e0 e1 e2
      cases hp : (p s x).1 with
      | true =>
        have E := hide (HI.out.trans (if_pos hp))
        go_wp2_with fail
        go_ret
        exact ⟨by rw [E.out]; try rfl, by rw [E.out]; exact H2.out⟩
      | false =>
        have E := hide (HI.out.trans (if_neg (by rw [hp]; exact Bool.false_ne_true)))
        go_wp2_with fail
        go_roundg (n - (k + 1))
        case measure => have := HG.out; omega
        case rel => exact ⟨k + 1, (p s x).2, rfl, by omega, by go_num, E.out, H2.out⟩
    · obtain rfl : k = n := by omega
      have E := hide (hi.trans (show idxS p s k (l.drop k) = (-1, s) by rw [List.drop_of_length_le (by rw [← HN.out]; exact Nat.le_refl _)]; rfl))
      have H := hide h
      clear h hi
      go_wp2_with fail
      go_ret
      exact ⟨by rw [E.out]; try rfl, by rw [E.out]; exact H.out⟩
theorem idxS_pure (p : PU → Bool) (l : List PU) : ∀ i, idxS (fun (_ : Unit) x => (p x, ())) () i l = (idxP p i l, ()) := by
  induction l with
  | nil => intro i; rfl
  | cons x r ih =>
    intro i
    show (if p x = true then ((i : Int), ()) else idxS _ () (i + 1) r) = ((if p x = true then (i : Int) else idxP p (i + 1) r), ())
    split
    · rfl
    · exact ih _
/-- where nothing is kept -/
theorem indexG1_st {M0 : Imm} {L : List Res} (f : FuncId) (cap : Value) (p : PU → Bool) (l : List PU) (A : Option Addr) (n c : Nat) (w : World)
    (hC : ∀ (args : Array Value) (W : World), Sem.run Try.prog (callFunc f args) W = .ok (.enter f args) W)
    (hF : ∀ (x : PU) (v : Value) (W : World), x ∈ l → St M0 W (growR 153 3 PutR (.slice A n c) l :: L) → Calls Try.prog f #[putV x v, cap] W fun e W' => e = .returned (.bool (p x)) ∧ St M0 W' (growR 153 3 PutR (.slice A n c) l :: L))
    (h : St M0 w (growR 153 3 PutR (.slice A n c) l :: L)) :
    Calls Try.prog 133 #[.slice A n c, .func (.func f) #[] #[cap]] w fun e w' => e = .returned (.int .i64 (idxP p 0 l)) ∧ St M0 w' (growR 153 3 PutR (.slice A n c) l :: L) := by
  have h1 := indexG_st (fun _ : Unit => L) f cap (fun _ x => (p x, ())) () l A n c w hC (fun _ x v W hx hW => hF x v W hx hW) h
  rw [idxS_pure] at h1
  exact h1
theorem containsG_st {M0 : Imm} {L : List Res} (f : FuncId) (cap : Value) (p : PU → Bool) (l : List PU) (A : Option Addr) (n c : Nat) (w : World)
    (hC : ∀ (args : Array Value) (W : World), Sem.run Try.prog (callFunc f args) W = .ok (.enter f args) W)
    (hF : ∀ (x : PU) (v : Value) (W : World), x ∈ l → St M0 W (growR 153 3 PutR (.slice A n c) l :: L) → Calls Try.prog f #[putV x v, cap] W fun e W' => e = .returned (.bool (p x)) ∧ St M0 W' (growR 153 3 PutR (.slice A n c) l :: L))
    (h : St M0 w (growR 153 3 PutR (.slice A n c) l :: L)) :
    Calls Try.prog 136 #[.slice A n c, .func (.func f) #[] #[cap]] w fun e w' => e = .returned (.bool (l.any p)) ∧ St M0 w' (growR 153 3 PutR (.slice A n c) l :: L) := by
  have HI := hide (indexG1_st f cap p l A n c w hC hF h)
  have HA := hide (idxP_any p l 0)
  clear hC hF h
  generalize idxP p 0 l = z at *
  go_enter Try.func136, Try.ntmps136
  go_wp2_with fail
  refine HI.out.mono ?_
  rintro e w2 ⟨rfl, h⟩
  have H := hide h
  clear h HI
  go_wp2_with fail
  go_ret
  exact ⟨by rw [← HA.out]; try rfl, H.out⟩
end Go.Proofs.Ytbgknfdaaffeaaa
