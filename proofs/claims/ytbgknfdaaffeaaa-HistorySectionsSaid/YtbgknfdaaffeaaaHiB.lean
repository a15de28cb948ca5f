/- History: ContainsFunc over looks, over sections. Printed by gen_hib.py. -/
import Derived.Test.YtbgknfdaaffeaaaHiF
import Derived.Test.YtbgknfdaaffeaaaIdxL
import Derived.Shelf.Abstract
namespace Go.Proofs.Ytbgknfdaaffeaaa
open Go.RowKit Go.Shelf

/-- a section, and where its puts and its looks lie -/
structure SecX where
  s : SecH
  pA : Option Addr
  pc : Nat
  pcs : Nat → List Value
  kA : Option Addr
  kc : Nat
  kcs : Nat → List Value
def SecXR (w : World) (cs : List Value) (x : SecX) : Prop :=
  cs = [.int .u64 x.s.t, .slice x.pA x.s.p.length x.pc, .int .i64 x.s.s, .slice x.kA x.s.k.length x.kc] ∧ RowsC w 2 PutHR (.slice x.pA x.s.p.length x.pc) x.pcs x.s.p ∧ RowsC w 3 LookHR (.slice x.kA x.s.k.length x.kc) x.kcs x.s.k
theorem cells4 {w : World} {p : Addr} {a b c d : Value} (h : ∀ j u, [a, b, c, d][j]? = some u → w.cell? (p.add j) = some u) : w.cell? p = some a ∧ w.cell? ⟨p.block, p.off + 1, none⟩ = some b ∧ w.cell? ⟨p.block, p.off + 2, none⟩ = some c ∧ w.cell? ⟨p.block, p.off + 3, none⟩ = some d :=
  ⟨by simpa [Addr.add] using h 0 a rfl, by simpa [Addr.add] using h 1 b rfl, by simpa [Addr.add] using h 2 c rfl, by simpa [Addr.add] using h 3 d rfl⟩
theorem St.rowsCopy {α : Type} {M0 : Imm} {w : World} {L R : List Res} {size : Nat} {Q : World → List Value → α → Prop} {v : Value} {xs : List α} (h : St M0 w L) (hi : At (rowsR size Q v xs) L R) : St M0 w (rowsR size Q v xs :: L) := by
  obtain ⟨m, hm⟩ := hi.idx
  obtain ⟨M, Fs, h0, ha, hs⟩ := h
  obtain ⟨css, hx⟩ := hs.at_ m _ hm
  exact ⟨M, _, h0, ha, hs.cons (F := fun _ => False) ⟨css, fun _ x => x, hx.2⟩ (fun _ _ _ _ x => x) (fun _ x => x.elim)⟩
theorem St.fourCopy {M0 : Imm} {w : World} {L R : List Res} {s : Nat → SV} {b : Nat → List Int} (h : St M0 w L) (hi : At (fourR s b) L R) : St M0 w (fourR s b :: L) := h.copyA hi
set_option maxHeartbeats 1000000 in
set_option maxRecDepth 100000 in
theorem idxLook_st {M0 : Imm} {L R : List Res} (f : FuncId) (caps : Array Value) (p : LookH → Bool) (l : List LookH) (A : Option Addr) (n c : Nat) (w : World)
    (hC : ∀ (args : Array Value) (W : World), Sem.run Try.prog (callFunc f args) W = .ok (.enter f args) W)
    (hat : At (rowsR 3 LookHR (.slice A n c) l) L R)
    (hF : ∀ (x : LookH) (B : Option Addr) (d : Nat) (W : World), x ∈ l → St M0 W (intsR .u8 (.slice B x.d.length d) x.d :: L) → Calls Try.prog f (#[.agg #[.int .i64 x.a, .int .i64 x.i, .slice B x.d.length d]] ++ caps) W fun e W' => e = .returned (.bool (p x)) ∧ St M0 W' L)
    (h : St M0 w L) :
    Calls Try.prog 166 #[.slice A n c, .func (.func f) #[] caps] w fun e w' => e = .returned (.int .i64 (idxL p 0 l)) ∧ St M0 w' L := by
  obtain ⟨q, hq⟩ := hat.idx
  obtain ⟨A', c', e, hc, hm⟩ := (h.getRows q hq).slice
  injection e with e1 e2 e3
  subst e1; subst e3
  have HN := hide e2
  have hnc : n ≤ c := by omega
  have H := hide h
  have HF := hide hF
  have HC := hide hC
  have hI := hide (show idxL p 0 l = idxL p 0 (l.drop 0) from rfl)
  clear h e2 hF hC hc
  go_enter Try.func166, Try.ntmps166
  go_wp2_with fail
  go_loopg [8] n (fun gh i wr => ∃ (k : Nat), gh = n - k ∧ k ≤ n ∧ i = .int .i64 (k : Nat) ∧ idxL p 0 l = idxL p k (l.drop k) ∧ St M0 wr L)
  case atStart => exact ⟨0, rfl, by omega, rfl, hI.out, H.out⟩
  case round =>
    clear H hI
    obtain ⟨k, hg, hk, rfl, hi, h⟩ := hrel
    have HG := hide hg
    clear hg
    by_cases hlt : k < n
    · have hx := List.getElem?_eq_getElem (l := l) (i := k) (by rw [← HN.out]; exact hlt)
      have hdr := List.drop_eq_getElem_cons (l := l) (i := k) (by rw [← HN.out]; exact hlt)
      generalize l[k]'(by rw [← HN.out]; exact hlt) = x at hx hdr
      have hs : idxL p k (l.drop k) = if p x = true then (k : Int) else idxL p (k + 1) (l.drop (k + 1)) := by rw [hdr]; rfl
      have HM := hide (List.mem_of_getElem? hx)
      obtain ⟨ad, cs, rfl, _, hcs, ⟨v, rfl, hv⟩, h1⟩ := h.elem q hq hx
      obtain ⟨B, d, rfl, _, _, _⟩ := id hv
      obtain ⟨e0, e1, e2⟩ := cells3 hcs
      have HI := hide (hi.trans hs)
      have H1 := hide (h1.pers1 (R' := fun w' => Ints w' .u8 (.slice B x.d.length d) x.d) (fun w' hw => by
        obtain ⟨v, hv, hi⟩ := hw.2
        simp only [List.cons.injEq, and_true, true_and] at hv
        rw [hv]
        exact hi))
      clear hx h h1 hcs hdr hs hi
      have i0 : (0 : Int) ≤ (k : Int) := by omega
      have i1 : (k : Int) < (n : Int) := by omega
      go_wp2_with fail
      rw [HC.out, Oper.upon_enter]
      refine (HF.out x B d _ HM.out H1.out).mono ?_
      rintro e w2 ⟨rfl, hf⟩
      have H2 := hide hf
      clear H1 hf e0 e1 e2
      cases hp : p x with
      | true =>
        have E := hide (HI.out.trans (if_pos hp))
        go_wp2_with fail
        go_ret
        exact ⟨by rw [E.out]; try rfl, H2.out⟩
      | false =>
        have E := hide (HI.out.trans (if_neg (by rw [hp]; exact Bool.false_ne_true)))
        go_wp2_with fail
        go_roundg (n - (k + 1))
        case measure => have := HG.out; omega
        case rel => exact ⟨k + 1, rfl, by omega, by go_num, E.out, H2.out⟩
    · obtain rfl : k = n := by omega
      have E := hide (hi.trans (show idxL p k (l.drop k) = -1 by rw [List.drop_of_length_le (by rw [← HN.out]; exact Nat.le_refl _)]; rfl))
      have H := hide h
      clear h hi
      go_wp2_with fail
      go_ret
      exact ⟨by rw [E.out]; try rfl, H.out⟩
theorem conLook_st {M0 : Imm} {L R : List Res} (f : FuncId) (caps : Array Value) (p : LookH → Bool) (l : List LookH) (A : Option Addr) (n c : Nat) (w : World)
    (hC : ∀ (args : Array Value) (W : World), Sem.run Try.prog (callFunc f args) W = .ok (.enter f args) W)
    (hat : At (rowsR 3 LookHR (.slice A n c) l) L R)
    (hF : ∀ (x : LookH) (B : Option Addr) (d : Nat) (W : World), x ∈ l → St M0 W (intsR .u8 (.slice B x.d.length d) x.d :: L) → Calls Try.prog f (#[.agg #[.int .i64 x.a, .int .i64 x.i, .slice B x.d.length d]] ++ caps) W fun e W' => e = .returned (.bool (p x)) ∧ St M0 W' L)
    (h : St M0 w L) :
    Calls Try.prog 154 #[.slice A n c, .func (.func f) #[] caps] w fun e w' => e = .returned (.bool (l.any p)) ∧ St M0 w' L := by
  have HI := hide (idxLook_st f caps p l A n c w hC hat hF h)
  have HA := hide (idxL_any p l)
  clear hC hF h hat
  generalize idxL p 0 l = z at *
  go_enter Try.func154, Try.ntmps154
  go_wp2_with fail
  refine HI.out.mono ?_
  rintro e w2 ⟨rfl, h⟩
  have H := hide h
  clear h HI
  go_wp2_with fail
  go_ret
  exact ⟨by rw [← HA.out]; try rfl, H.out⟩
set_option maxHeartbeats 1000000 in
set_option maxRecDepth 100000 in
theorem idxSec_st {M0 : Imm} {L R : List Res} (f : FuncId) (caps : Array Value) (p : SecX → Bool) (l : List SecX) (A : Option Addr) (n c : Nat) (w : World)
    (hC : ∀ (args : Array Value) (W : World), Sem.run Try.prog (callFunc f args) W = .ok (.enter f args) W)
    (hat : At (rowsR 4 SecXR (.slice A n c) l) L R)
    (hF : ∀ (x : SecX) (W : World), x ∈ l → St M0 W (L) → Calls Try.prog f (#[.agg #[.int .u64 x.s.t, .slice x.pA x.s.p.length x.pc, .int .i64 x.s.s, .slice x.kA x.s.k.length x.kc]] ++ caps) W fun e W' => e = .returned (.bool (p x)) ∧ St M0 W' L)
    (h : St M0 w L) :
    Calls Try.prog 110 #[.slice A n c, .func (.func f) #[] caps] w fun e w' => e = .returned (.int .i64 (idxL p 0 l)) ∧ St M0 w' L := by
  obtain ⟨q, hq⟩ := hat.idx
  obtain ⟨A', c', e, hc, hm⟩ := (h.getRows q hq).slice
  injection e with e1 e2 e3
  subst e1; subst e3
  have HN := hide e2
  have hnc : n ≤ c := by omega
  have H := hide h
  have HF := hide hF
  have HC := hide hC
  have hI := hide (show idxL p 0 l = idxL p 0 (l.drop 0) from rfl)
  clear h e2 hF hC hc
  go_enter Try.func110, Try.ntmps110
  go_wp2_with fail
  go_loopg [8] n (fun gh i wr => ∃ (k : Nat), gh = n - k ∧ k ≤ n ∧ i = .int .i64 (k : Nat) ∧ idxL p 0 l = idxL p k (l.drop k) ∧ St M0 wr L)
  case atStart => exact ⟨0, rfl, by omega, rfl, hI.out, H.out⟩
  case round =>
    clear H hI
    obtain ⟨k, hg, hk, rfl, hi, h⟩ := hrel
    have HG := hide hg
    clear hg
    by_cases hlt : k < n
    · have hx := List.getElem?_eq_getElem (l := l) (i := k) (by rw [← HN.out]; exact hlt)
      have hdr := List.drop_eq_getElem_cons (l := l) (i := k) (by rw [← HN.out]; exact hlt)
      generalize l[k]'(by rw [← HN.out]; exact hlt) = x at hx hdr
      have hs : idxL p k (l.drop k) = if p x = true then (k : Int) else idxL p (k + 1) (l.drop (k + 1)) := by rw [hdr]; rfl
      have HM := hide (List.mem_of_getElem? hx)
      obtain ⟨ad, cs, rfl, _, hcs, ⟨rfl, hp, hk2⟩, h1⟩ := h.elem q hq hx
      obtain ⟨e0, e1, e2, e3⟩ := cells4 hcs
      have HI := hide (hi.trans hs)
      have H1 := hide (h1.tail)
      clear hx h h1 hcs hp hk2 hdr hs hi
      have i0 : (0 : Int) ≤ (k : Int) := by omega
      have i1 : (k : Int) < (n : Int) := by omega
      go_wp2_with fail
      rw [HC.out, Oper.upon_enter]
      refine (HF.out x _ HM.out H1.out).mono ?_
      rintro e w2 ⟨rfl, hf⟩
      have H2 := hide hf
      clear H1 hf e0 e1 e2 e3
      cases hp : p x with
      | true =>
        have E := hide (HI.out.trans (if_pos hp))
        go_wp2_with fail
        go_ret
        exact ⟨by rw [E.out]; try rfl, H2.out⟩
      | false =>
        have E := hide (HI.out.trans (if_neg (by rw [hp]; exact Bool.false_ne_true)))
        go_wp2_with fail
        go_roundg (n - (k + 1))
        case measure => have := HG.out; omega
        case rel => exact ⟨k + 1, rfl, by omega, by go_num, E.out, H2.out⟩
    · obtain rfl : k = n := by omega
      have E := hide (hi.trans (show idxL p k (l.drop k) = -1 by rw [List.drop_of_length_le (by rw [← HN.out]; exact Nat.le_refl _)]; rfl))
      have H := hide h
      clear h hi
      go_wp2_with fail
      go_ret
      exact ⟨by rw [E.out]; try rfl, H.out⟩
theorem conSec_st {M0 : Imm} {L R : List Res} (f : FuncId) (caps : Array Value) (p : SecX → Bool) (l : List SecX) (A : Option Addr) (n c : Nat) (w : World)
    (hC : ∀ (args : Array Value) (W : World), Sem.run Try.prog (callFunc f args) W = .ok (.enter f args) W)
    (hat : At (rowsR 4 SecXR (.slice A n c) l) L R)
    (hF : ∀ (x : SecX) (W : World), x ∈ l → St M0 W (L) → Calls Try.prog f (#[.agg #[.int .u64 x.s.t, .slice x.pA x.s.p.length x.pc, .int .i64 x.s.s, .slice x.kA x.s.k.length x.kc]] ++ caps) W fun e W' => e = .returned (.bool (p x)) ∧ St M0 W' L)
    (h : St M0 w L) :
    Calls Try.prog 70 #[.slice A n c, .func (.func f) #[] caps] w fun e w' => e = .returned (.bool (l.any p)) ∧ St M0 w' L := by
  have HI := hide (idxSec_st f caps p l A n c w hC hat hF h)
  have HA := hide (idxL_any p l)
  clear hC hF h hat
  generalize idxL p 0 l = z at *
  go_enter Try.func70, Try.ntmps70
  go_wp2_with fail
  refine HI.out.mono ?_
  rintro e w2 ⟨rfl, h⟩
  have H := hide h
  clear h HI
  go_wp2_with fail
  go_ret
  exact ⟨by rw [← HA.out]; try rfl, H.out⟩
end Go.Proofs.Ytbgknfdaaffeaaa
