/- History: sections that still grow, as things in memory. -/
import Derived.Test.YtbgknfdaaffeaaaSrC0
import Derived.Test.YtbgknfdaaffeaaaSeM
import Derived.Test.YtbgknfdaaffeaaaHiB
import Derived.Test.YtbgknfdaaffeaaaIdxL
import Derived.Test.YtbgknfdaaffeaaaFlowS
namespace Go.Proofs.Ytbgknfdaaffeaaa
open Go.RowKit Go.Shelf

abbrev PairS := SecV × SecH
def secR1 (z : PairS) : Res := starR (growR 122 2 PutHR (.slice z.1.p.a z.1.p.n z.1.p.c) z.2.p) (growR 124 3 LookHR (.slice z.1.k.a z.1.k.n z.1.k.c) z.2.k)
def bigS : List PairS → Res
  | [] => persR fun _ => True
  | z :: r => starR (secR1 z) (bigS r)
section
variable {M0 : Imm} {w : World} {L : List Res}
theorem St.bigNil (h : St M0 w L) : St M0 w (bigS [] :: L) := h.pers0 (fun _ _ => trivial)
theorem St.bigCons {z : PairS} {zs : List PairS} (h : St M0 w (secR1 z :: bigS zs :: L)) : St M0 w (bigS (z :: zs) :: L) := h.addStar
theorem St.bigOpen {z : PairS} {zs : List PairS} (h : St M0 w (bigS (z :: zs) :: L)) : St M0 w (secR1 z :: bigS zs :: L) := h.star
theorem St.bigPerm {zs ys : List PairS} (hp : zs.Perm ys) : ∀ {L : List Res}, St M0 w (bigS zs :: L) → St M0 w (bigS ys :: L) := by
  induction hp with
  | nil => exact fun h => h
  | cons z _ ih => exact fun h => (ih h.bigOpen.swap).swap.bigCons
  | swap a b l =>
    intro L h
    have h1 := h.bigOpen
    have h2 := (h1.swap.bigOpen)
    have h3 : St M0 w (secR1 b :: bigS l :: secR1 a :: L) := h2.sub (by (repeat (first | with_reducible exact Sub.refl _ | (with_reducible apply Sub.take; focus (repeat (first | with_reducible exact At.here | with_reducible apply At.there))) | with_reducible apply Sub.drop)))
    have h4 := h3.bigCons
    exact (h4.swap).bigCons
  | trans _ _ ih1 ih2 => exact fun h => ih2 (ih1 h)
theorem perm_at {α : Type} {l : List α} {k : Nat} {z : α} (h : l[k]? = some z) : l.Perm (z :: l.eraseIdx k) := by
  obtain ⟨hk, e⟩ := List.getElem?_eq_some_iff.1 h
  have : l = l.take k ++ z :: l.drop (k + 1) := by rw [← drop_consS h, List.take_append_drop]
  conv => lhs; rw [this]
  rw [List.eraseIdx_eq_take_drop_succ]
  exact List.perm_middle
theorem perm_put {α : Type} {l : List α} {k : Nat} (z : α) (h : k < l.length) : (z :: l.eraseIdx k).Perm (l.set k z) := by
  have h1 : (l.set k z)[k]? = some z := List.getElem?_set_self h
  have := perm_at h1
  rw [List.eraseIdx_set_eq] at this
  exact this.symm
end
theorem perm_lift {α β : Type} {f : α → β} {ys xs : List β} (hp : ys.Perm xs) : ∀ zs : List α, zs.map f = xs → ∃ zs' : List α, zs'.map f = ys ∧ zs'.Perm zs := by
  induction hp with
  | nil => exact fun zs h => ⟨zs, h, List.Perm.refl _⟩
  | @cons x l1 l2 _ ih =>
    intro zs h
    cases zs with
    | nil => cases h
    | cons z zs =>
      rw [List.map_cons] at h
      injection h with h1 h2
      obtain ⟨zs', h3, h4⟩ := ih zs h2
      exact ⟨z :: zs', by rw [List.map_cons, h1, h3], h4.cons z⟩
  | swap x y l =>
    intro zs h
    match zs, h with
    | a :: b :: zs, h =>
      rw [List.map_cons, List.map_cons] at h
      injection h with h1 h2
      injection h2 with h2 h3
      exact ⟨b :: a :: zs, by rw [List.map_cons, List.map_cons, h1, h2, h3], List.Perm.swap a b zs⟩
  | trans _ _ ih1 ih2 =>
    intro zs h
    obtain ⟨z1, a1, b1⟩ := ih2 zs h
    obtain ⟨z2, a2, b2⟩ := ih1 z1 a1
    exact ⟨z2, a2, b2.trans b1⟩
/-- what stays of a section -/
def secP (z : PairS) (w : World) : Prop := Rows w 2 PutHR (.slice z.1.p.a z.1.p.n z.1.p.c) z.2.p ∧ Rows w 3 LookHR (.slice z.1.k.a z.1.k.n z.1.k.c) z.2.k
theorem St.bigKeep {M0 : Imm} {w : World} : ∀ {zs : List PairS} {L : List Res}, St M0 w (bigS zs :: L) → St M0 w (persR (fun w' => ∀ z ∈ zs, secP z w') :: L)
  | [], L, h => St.pers1 (R := fun _ => True) h (fun _ _ z hz => absurd hz List.not_mem_nil)
  | z :: zs, L, h => by
    have h1 := h.bigOpen.star
    have h2 := h1.rowsGrow
    obtain ⟨c1, h2⟩ := h2.ex
    have h3 := (h2.swap.rowsGrow)
    obtain ⟨c2, h3⟩ := h3.ex
    have h4 := (h3.pers2 (Q := fun w' => secP z w') (fun w' a b => ⟨⟨c1, b⟩, ⟨c2, a⟩⟩)).swap
    have h5 := h4.bigKeep
    exact h5.pers2 (fun w' a b y hy => by
      rcases List.mem_cons.1 hy with rfl | hy
      · exact b
      · exact a y hy)
set_option maxHeartbeats 400000 in
/-- has a section an Event's token? -/
theorem tokClo_st {M0 : Imm} {L R : List Res} (x : SecV) (y : Nat) (ev : Array Value) (t : Int) (w : World) (he : ev[4]? = some (.int .u64 t)) (hat : At (blkR y 120 ev) L R) (h : St M0 w L) :
    Calls Try.prog 111 (#[.agg (secC x).toArray] ++ #[.pointer (some ⟨y, 0, none⟩)]) w fun e w' => e = .returned (.bool (x.t == t)) ∧ St M0 w' L := by
  have h1 := h.alloc 37 #[.int .u64 x.t, .slice x.p.a x.p.n x.p.c, .int .i64 x.s, .slice x.k.a x.k.n x.k.c]
  have x0 := (h1.blk 0 rfl).cell 0
  have c0 := ((h1.blkA (At.there hat)).cell 4).trans he
  have H := hide h1.tail
  clear h h1
  go_enter Try.func111, Try.ntmps111
  go_wp2_with fail
  go_ret
  exact ⟨rfl, H.out⟩
set_option maxHeartbeats 1000000 in
set_option maxRecDepth 100000 in
theorem idxSec2_st {M0 : Imm} {L : List Res} (f : FuncId) (caps : Array Value) (p : SecV → Bool) (l : List SecV) (A : Option Addr) (n c : Nat) (w : World)
    (hC : ∀ (args : Array Value) (W : World), Sem.run Try.prog (callFunc f args) W = .ok (.enter f args) W)
    (hV : ∀ W, St M0 W L → FlatP secC 4 W (.slice A n c) l)
    (hF : ∀ (x : SecV) (W : World), x ∈ l → St M0 W L → Calls Try.prog f (#[.agg (secC x).toArray] ++ caps) W fun e W' => e = .returned (.bool (p x)) ∧ St M0 W' L)
    (h : St M0 w L) :
    Calls Try.prog 110 #[.slice A n c, .func (.func f) #[] caps] w fun e w' => e = .returned (.int .i64 (idxL p 0 l)) ∧ St M0 w' L := by
  obtain ⟨e2, hnc, hcm, _⟩ := (hV w h).sl
  have HN := hide e2
  have HV := hide hV
  have H := hide h
  have HF := hide hF
  have HC := hide hC
  have hI := hide (show idxL p 0 l = idxL p 0 (l.drop 0) from rfl)
  clear h e2 hF hC hV
  go_enter Try.func110, Try.ntmps110
  go_wp2_with fail
  go_loopg [8] n (fun gh i wr => ∃ (k : Nat), gh = n - k ∧ k ≤ n ∧ i = .int .i64 (k : Nat) ∧ idxL p 0 l = idxL p k (l.drop k) ∧ St M0 wr L)
  case atStart => exact ⟨0, rfl, by omega, rfl, hI.out, H.out⟩
  case round =>
    clear H hI
    obtain ⟨k, hg, hk, rfl, hi, h⟩ := hrel
    have HG := hide hg
    clear hg
    by_cases hlt : k < n
    · have hx := List.getElem?_eq_getElem (l := l) (i := k) (by rw [← HN.out]; exact hlt)
      have hdr := List.drop_eq_getElem_cons (l := l) (i := k) (by rw [← HN.out]; exact hlt)
      generalize l[k]'(by rw [← HN.out]; exact hlt) = x at hx hdr
      have hs : idxL p k (l.drop k) = if p x = true then (k : Int) else idxL p (k + 1) (l.drop (k + 1)) := by rw [hdr]; rfl
      have HM := hide (List.mem_of_getElem? hx)
      obtain ⟨ad, rfl, hcs⟩ := (HV.out _ h).at_ secC_len hx
      obtain ⟨e0, e1, e2, e3⟩ := cells4F hcs
      have HI := hide (hi.trans hs)
      have H1 := hide h
      clear hx h hcs hdr hs hi
      have i0 : (0 : Int) ≤ (k : Int) := by omega
      have i1 : (k : Int) < (n : Int) := by omega
      go_wp2_with fail
      rw [HC.out, Oper.upon_enter]
      refine (HF.out x _ HM.out H1.out).mono ?_
      rintro e w2 ⟨rfl, hf⟩
      have H2 := hide hf
      clear H1 hf e0 e1 e2 e3
      cases hp : p x with
      | true =>
        have E := hide (HI.out.trans (if_pos hp))
        go_wp2_with fail
        go_ret
        exact ⟨by rw [E.out]; try rfl, H2.out⟩
      | false =>
        have E := hide (HI.out.trans (if_neg (by rw [hp]; exact Bool.false_ne_true)))
        go_wp2_with fail
        go_roundg (n - (k + 1))
        case measure => have := HG.out; omega
        case rel => exact ⟨k + 1, rfl, by omega, by go_num, E.out, H2.out⟩
    · obtain rfl : k = n := by omega
      have E := hide (hi.trans (show idxL p k (l.drop k) = -1 by rw [List.drop_of_length_le (by rw [← HN.out]; exact Nat.le_refl _)]; rfl))
      have H := hide h
      clear h hi
      go_wp2_with fail
      go_ret
      exact ⟨by rw [E.out]; try rfl, H.out⟩
end Go.Proofs.Ytbgknfdaaffeaaa
