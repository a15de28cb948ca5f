/- Redo: does, requests done to the document's image. -/
import Derived.Test.YtbnjeekhoaapiaaRimD2
import Derived.Test.YtbnjeekhoaapiaaRedoSa
namespace Go.Proofs.Ytbnjeekhoaapiaa
open Go.RowKit

theorem runs_ok : ∀ (l : List RQ) (m : Nat → Rg), (∀ x ∈ l, x.ok) → (∀ k, (m k).ok) → ∀ k, (l.foldl doM m k).ok
  | [], _, _, hm => hm
  | x :: l, _, hl, hm => runs_ok l _ (fun y hy => hl y (List.mem_cons_of_mem _ hy)) (doM_ok hm (hl x List.mem_cons_self))

set_option maxHeartbeats 2000000 in
set_option maxRecDepth 100000 in
/-- the first d of them, all of which are OK -/
theorem does_st {M0 : Imm} {L : List Res} (g : Nat) (m : Nat → Rg) (l : List RQ) (A : Option Addr) (n c : Nat) (d : Nat) (w : World) (hl : ∀ x ∈ l, x.ok) (hm : ∀ k, (m k).ok) (hd : d ≤ 9223372036854775807)
    (hok : ∀ k r, k < d → l[k]? = some r → (checkI ((l.take k).foldl doM m) r).2 = 0)
    (h : St M0 w (rimR g m :: rowsR 6 ReqP (.slice A n c) l :: L)) :
    Calls Try.prog 37 #[.pointer (some ⟨g, 0, none⟩), .slice A n c, .int .i64 d] w fun e w' => e = .returned (.bool true) ∧ St M0 w' (rimR g ((l.take d).foldl doM m) :: rowsR 6 ReqP (.slice A n c) l :: L) := by
  obtain ⟨A', c', e, hc, hmc⟩ := (h.getRows 1 rfl).slice
  injection e with e1 e2 e3
  subst e1; subst e3
  have HN := hide e2
  have hn9 : n ≤ 9223372036854775807 := by omega
  have H := hide h
  have HL := hide hl
  have HM := hide hm
  have HOK := hide hok
  clear h e2 hl hm hok
  go_enter Try.func37, Try.ntmps37
  go_wp2_with fail
  go_loopg [7] (n + d) (fun gh i wr => ∃ k : Nat, gh = n + d - k ∧ k ≤ n ∧ k ≤ d ∧ i = .int .i64 (k : Nat) ∧ St M0 wr (rimR g ((l.take k).foldl doM m) :: rowsR 6 ReqP (.slice A n c) l :: L))
  case atStart => exact ⟨0, rfl, by omega, by omega, rfl, H.out⟩
  case round =>
    clear H
    obtain ⟨k, hg, hk, hkd, rfl, h⟩ := hrel
    have HG := hide hg
    clear hg
    by_cases hd1 : k < d
    · have d1 : decide ((k : Int) < (d : Int)) = true := decide_eq_true (by omega)
      by_cases hlt : k < n
      · have hx := List.getElem?_eq_getElem (l := l) (i := k) (by rw [← HN.out]; exact hlt)
        generalize l[k]'(by rw [← HN.out]; exact hlt) = x at hx
        have hox := HOK.out k x hd1 hx
        have hxk := HL.out x (List.mem_of_getElem? hx)
        have hrk := runs_ok (l.take k) m (fun y hy => HL.out y (List.mem_of_mem_take hy)) HM.out
        have hstep : (l.take (k + 1)).foldl doM m = doM ((l.take k).foldl doM m) x := by
          rw [List.take_add_one, hx, List.foldl_append]; rfl
        generalize (l.take k).foldl doM m = mk at *
        obtain ⟨ad, cs, rfl, _, hcs, ⟨v, rfl, hv⟩, h1⟩ := h.elem 1 rfl hx
        obtain ⟨X, xc, rfl, _, _, _⟩ := id hv
        obtain ⟨e0, e1, e2, e3, e4, e5⟩ := cells6 hcs
        have H1 := hide ((h1.pers1 (R' := fun w' => Ints w' .u8 (.slice X x.data.length xc) x.data) (fun w' hr => by obtain ⟨v', e, hv'⟩ := hr.2; injection e with _ e; injection e with _ e; injection e with _ e; injection e with _ e; injection e with _ e; injection e with e; subst e; exact hv')).junk (.cells #[.int .i64 x.op, .int .i64 x.region, .int .i64 x.index, .int .u64 x.token, .int .u32 x.seq, .slice X x.data.length xc] 89))
        have HST := hide hstep
        have HXK := hide hxk
        have HRK := hide hrk
        have HOX := hide hox
        clear hx hox hxk hrk hstep h h1 hcs hv
        have i0 : (0 : Int) ≤ (k : Int) := by omega
        have i1 : (k : Int) < (n : Int) := by omega
        have d2 : decide ((k : Int) < (n : Int)) = true := decide_eq_true (by omega)
        go_wp2_with fail
        refine (rdo_st g mk x X x.data.length xc _ HXK.out HRK.out H1.out).mono ?_
        rintro e w3 ⟨V, rfl, h⟩
        rw [HOX.out]
        have H3 := hide (h.tail)
        clear h H1 e0 e1 e2 e3 e4 e5
        go_wp2_with fail
        go_roundg (n + d - (k + 1))
        case measure => have := HG.out; omega
        case rel => exact ⟨k + 1, rfl, by omega, by omega, by go_num, by rw [HST.out]; exact H3.out⟩
      · obtain rfl : k = n := by omega
        have htk : l.take k = l.take d := by rw [List.take_of_length_le (by rw [← HN.out]; exact Nat.le_refl _), List.take_of_length_le (by rw [← HN.out]; omega)]
        rw [htk] at h
        have H := hide h
        clear h htk hlt
        go_wp2_with fail
        all_goals
          go_ret
          exact ⟨rfl, H.out⟩
    · obtain rfl : k = d := by omega
      have H := hide h
      clear h hd1
      go_wp2_with fail
      all_goals
        go_ret
        exact ⟨rfl, H.out⟩
end Go.Proofs.Ytbnjeekhoaapiaa
