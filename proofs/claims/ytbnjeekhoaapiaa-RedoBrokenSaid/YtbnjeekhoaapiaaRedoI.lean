/- Redo: IndexFunc and ContainsFunc over writes. -/
import Derived.Test.YtbnjeekhoaapiaaRedoR
namespace Go.Proofs.Ytbnjeekhoaapiaa
open Go.RowKit

/-- the first of which it is said, or none -/
def idxP (p : PU → Bool) : Nat → List PU → Int
  | _, [] => -1
  | i, x :: r => if p x = true then i else idxP p (i + 1) r
set_option maxHeartbeats 1000000 in
set_option maxRecDepth 100000 in
theorem index_st {M0 : Imm} {L : List Res} (f : FuncId) (cap : Value) (p : PU → Bool) (l : List PU) (A : Option Addr) (n c : Nat) (w : World)
    (hC : ∀ (args : Array Value) (W : World), Sem.run Try.prog (callFunc f args) W = .ok (.enter f args) W)
    (hF : ∀ (x : PU) (v : Value) (W : World), St M0 W L → Calls Try.prog f #[putV x v, cap] W fun e W' => e = .returned (.bool (p x)) ∧ Fr Non W W')
    (h : St M0 w (rowsR 3 PutR (.slice A n c) l :: L)) :
    Calls Try.prog 85 #[.slice A n c, .func (.func f) #[] #[cap]] w fun e w' => e = .returned (.int .i64 (idxP p 0 l)) ∧ St M0 w' (rowsR 3 PutR (.slice A n c) l :: L) := by
  obtain ⟨A', c', e, hc, hm⟩ := (h.getRows 0 rfl).slice
  injection e with e1 e2 e3
  subst e1; subst e3
  have HN := hide e2
  have hnc : n ≤ c := by omega
  have H := hide h
  have HF := hide hF
  have HC := hide hC
  have hI := hide (show idxP p 0 l = idxP p 0 (l.drop 0) from rfl)
  clear h e2 hF hC
  go_enter Try.func85, Try.ntmps85
  go_wp2_with fail
  go_loopg [8] n (fun gh i wr => ∃ k : Nat, gh = n - k ∧ k ≤ n ∧ i = .int .i64 (k : Nat) ∧ idxP p 0 l = idxP p k (l.drop k) ∧ St M0 wr (rowsR 3 PutR (.slice A n c) l :: L))
  case atStart => exact ⟨0, rfl, by omega, rfl, hI.out, H.out⟩
  case round =>
    clear H hI
    obtain ⟨k, hg, hk, rfl, hi, h⟩ := hrel
    have HG := hide hg
    clear hg
    by_cases hlt : k < n
    · have hx := List.getElem?_eq_getElem (l := l) (i := k) (by rw [← HN.out]; exact hlt)
      have hdr := List.drop_eq_getElem_cons (l := l) (i := k) (by rw [← HN.out]; exact hlt)
      generalize l[k]'(by rw [← HN.out]; exact hlt) = x at hx hdr
      have hs : idxP p k (l.drop k) = if p x = true then (k : Int) else idxP p (k + 1) (l.drop (k + 1)) := by rw [hdr]; rfl
      obtain ⟨ad, cs, rfl, _, hcs, ⟨v, rfl, hv⟩, h1⟩ := h.elem 0 rfl hx
      obtain ⟨B, d, rfl, _, _, _⟩ := id hv
      obtain ⟨e0, e1, e2⟩ := cells3 hcs
      have HI := hide (hi.trans hs)
      have H1 := hide h
      clear hx h h1 hv hcs hdr hs hi
      have i0 : (0 : Int) ≤ (k : Int) := by omega
      have i1 : (k : Int) < (n : Int) := by omega
      go_wp2_with fail
      rw [HC.out, Oper.upon_enter]
      refine (HF.out x (.slice B x.data.length d) _ H1.out.tail).mono ?_
      rintro e w2 ⟨rfl, hf⟩
      have H2 := hide (H1.out.grow hf)
      clear H1 hf e0 e1 e2
      cases hp : p x with
      | true =>
        have E := hide (HI.out.trans (if_pos hp))
        go_wp2_with fail
        go_ret
        exact ⟨by rw [E.out]; try rfl, H2.out⟩
      | false =>
        have E := hide (HI.out.trans (if_neg (by rw [hp]; exact Bool.false_ne_true)))
        go_wp2_with fail
        go_roundg (n - (k + 1))
        case measure => have := HG.out; omega
        case rel => exact ⟨k + 1, rfl, by omega, by go_num, E.out, H2.out⟩
    · obtain rfl : k = n := by omega
      have E := hide (hi.trans (show idxP p k (l.drop k) = -1 by rw [List.drop_of_length_le (by rw [← HN.out]; exact Nat.le_refl _)]; rfl))
      have H := hide h
      clear h hi
      go_wp2_with fail
      go_ret
      exact ⟨by rw [E.out]; try rfl, H.out⟩
theorem idxP_any (p : PU → Bool) (l : List PU) : ∀ i, decide (0 ≤ idxP p i l) = l.any p := by
  induction l with
  | nil => intro i; rfl
  | cons x r ih =>
    intro i
    show decide (0 ≤ (if p x = true then (i : Int) else idxP p (i + 1) r)) = (p x || r.any p)
    cases hp : p x with
    | true => rw [if_pos rfl, Bool.true_or]; exact decide_eq_true (by omega)
    | false => rw [if_neg Bool.false_ne_true, Bool.false_or]; exact ih _
theorem contains_st {M0 : Imm} {L : List Res} (f : FuncId) (cap : Value) (p : PU → Bool) (l : List PU) (A : Option Addr) (n c : Nat) (w : World)
    (hC : ∀ (args : Array Value) (W : World), Sem.run Try.prog (callFunc f args) W = .ok (.enter f args) W)
    (hF : ∀ (x : PU) (v : Value) (W : World), St M0 W L → Calls Try.prog f #[putV x v, cap] W fun e W' => e = .returned (.bool (p x)) ∧ Fr Non W W')
    (h : St M0 w (rowsR 3 PutR (.slice A n c) l :: L)) :
    Calls Try.prog 61 #[.slice A n c, .func (.func f) #[] #[cap]] w fun e w' => e = .returned (.bool (l.any p)) ∧ St M0 w' (rowsR 3 PutR (.slice A n c) l :: L) := by
  have HI := hide (index_st f cap p l A n c w hC hF h)
  have HA := hide (idxP_any p l 0)
  clear hC hF h
  generalize idxP p 0 l = z at *
  go_enter Try.func61, Try.ntmps61
  go_wp2_with fail
  refine HI.out.mono ?_
  rintro e w2 ⟨rfl, h⟩
  have H := hide h
  clear h HI
  go_wp2_with fail
  go_ret
  exact ⟨by rw [← HA.out]; try rfl, H.out⟩
end Go.Proofs.Ytbnjeekhoaapiaa
