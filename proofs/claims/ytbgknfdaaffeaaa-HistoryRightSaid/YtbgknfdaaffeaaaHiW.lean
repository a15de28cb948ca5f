/- History: the document's Ways. -/
import Derived.Test.YtbgknfdaaffeaaaHiE
namespace Go.Proofs.Ytbgknfdaaffeaaa
open Go.RowKit Go.Shelf

/-- in how many ways puts may be kept, up to a number -/
def waysI (most : Int) : List SecH → Int → Int
  | [], n => n
  | s :: r, n => if badH s = true then 0 else if n * ((s.p.length : Int) - s.s + 1) > most then most + 1 else waysI most r (n * ((s.p.length : Int) - s.s + 1))
theorem decI {a b : Int} (h : ¬ a < b) : decide (a < b) = false := decide_eq_false h
set_option maxHeartbeats 2000000 in
set_option maxRecDepth 100000 in
theorem ways_st {M0 : Imm} {L R : List Res} (A : Option Addr) (n c : Nat) (l : List SecX) (most : Int) (w : World) (h0 : 1 ≤ most) (hm : most ≤ 2000000000000) (hb : ∀ x ∈ l, most * ((x.s.p.length : Int) + 1) ≤ 4000000000000000000) (hat : At (rowsR 4 SecXR (.slice A n c) l) L R) (h : St M0 w L) :
    Calls Try.prog 20 #[.slice A n c, .int .i64 most] w fun e w' => e = .returned (.int .i64 (waysI most (l.map SecX.s) 1)) ∧ St M0 w' L := by
  obtain ⟨q, hq⟩ := hat.idx
  obtain ⟨A', c', e, hc, hmx⟩ := (h.getRows q hq).slice
  injection e with e1 e2 e3
  subst e1; subst e3
  have hnc : n ≤ c := by omega
  have HN := hide e2
  have HB := hide hb
  have H := hide h
  have HW := hide (show waysI most (l.map SecX.s) 1 = waysI most ((l.drop 0).map SecX.s) 1 from rfl)
  clear h e2 hc hb
  go_enter Try.func20, Try.ntmps20
  go_wp2_with fail
  go_loopg [5, 6] n (fun gh nv iv wr => ∃ (i : Nat) (k : Int), gh = n - i ∧ i ≤ n ∧ nv = .int .i64 k ∧ iv = .int .i64 (i : Nat) ∧ 0 ≤ k ∧ k ≤ most ∧ waysI most (l.map SecX.s) 1 = waysI most ((l.drop i).map SecX.s) k ∧ St M0 wr L)
  case atStart => exact ⟨0, 1, rfl, by omega, rfl, rfl, by omega, h0, HW.out, H.out⟩
  case round =>
    clear H HW
    obtain ⟨i, k, hg, hi, rfl, rfl, hk0, hk1, hw, h⟩ := hrel
    have HG := hide hg
    clear hg
    by_cases hlt : i < n
    · have hx := List.getElem?_eq_getElem (l := l) (i := i) (by rw [← HN.out]; exact hlt)
      have hdr := List.drop_eq_getElem_cons (l := l) (i := i) (by rw [← HN.out]; exact hlt)
      generalize l[i]'(by rw [← HN.out]; exact hlt) = x at hx hdr
      have hbx := HB.out x (List.mem_of_getElem? hx)
      obtain ⟨ad, cs, rfl, _, hcs, ⟨rfl, hp, hk⟩, _⟩ := h.elem q hq hx
      rw [hdr, List.map_cons] at hw
      obtain ⟨⟨st, sp, ss, sk⟩, pA, pc, pcs, kA, kc, kcs⟩ := x
      obtain ⟨e0, e1, e2, e3⟩ := cells4 hcs
      have hw : waysI most (l.map SecX.s) 1 = if badH ⟨st, sp, ss, sk⟩ = true then 0 else if k * ((sp.length : Int) - ss + 1) > most then most + 1 else waysI most ((l.drop (i + 1)).map SecX.s) (k * ((sp.length : Int) - ss + 1)) := hw
      have hbx : most * ((sp.length : Int) + 1) ≤ 4000000000000000000 := hbx
      have i0 : (0 : Int) ≤ (i : Int) := by omega
      have i1 : (i : Int) < (n : Int) := by omega
      have HH := hide h
      clear hx hdr hcs hp hk h
      by_cases hs0 : ss < 0
      · have d1 : decide (ss < 0) = true := decide_eq_true hs0
        have E := hide (hw.trans (if_pos (by unfold badH; rw [d1]; rfl)))
        clear hw hbx hk0 hk1
        go_wp2_with fail
        go_quiet (fail)
        go_wp2_with fail
        go_ret
        exact ⟨by rw [E.out]; try rfl, HH.out.drewN _⟩
      · have d1 : decide (ss < 0) = false := decide_eq_false hs0
        by_cases hs1 : (sp.length : Int) < ss
        · have d2 : decide ((sp.length : Int) < ss) = true := decide_eq_true hs1
          have d3 : decide (ss > (sp.length : Int)) = true := d2
          have E := hide (hw.trans (if_pos (by unfold badH; rw [d1, d2]; rfl)))
          clear hw hbx hk0 hk1
          go_wp2_with fail
          go_quiet (fail)
          go_wp2_with fail
          go_ret
          exact ⟨by rw [E.out]; try rfl, HH.out.drewN _⟩
        · have d2 : decide ((sp.length : Int) < ss) = false := decide_eq_false hs1
          have d3 : decide (ss > (sp.length : Int)) = false := d2
          have hle : k * ((sp.length : Int) - ss + 1) ≤ 4000000000000000000 := Int.le_trans (Int.le_trans (Int.mul_le_mul_of_nonneg_right hk1 (by omega)) (Int.mul_le_mul_of_nonneg_left (by omega : (sp.length : Int) - ss + 1 ≤ (sp.length : Int) + 1) (by omega))) hbx
          have hge : 0 ≤ k * ((sp.length : Int) - ss + 1) := Int.mul_nonneg hk0 (by omega)
          have E := hide (hw.trans (if_neg (by unfold badH; rw [d1, d2]; exact Bool.false_ne_true)))
          have hspl : (sp.length : Int) + 1 ≤ 4000000000000000000 := Int.le_trans (by have := Int.mul_le_mul_of_nonneg_right h0 (by omega : 0 ≤ (sp.length : Int) + 1); omega) hbx
          have w1 : IntKind.i64.wrap ((sp.length : Int) - ss) = (sp.length : Int) - ss := IntWalk.i64_in _ (by omega)
          have w2 : IntKind.i64.wrap ((sp.length : Int) - ss + 1) = (sp.length : Int) - ss + 1 := IntWalk.i64_in _ (by omega)
          have w3 : wrap64 (k * ((sp.length : Int) - ss + 1)) = k * ((sp.length : Int) - ss + 1) := by rw [← IntWalk.i64_left]; exact IntWalk.i64_in _ (by omega)
          clear hw hbx hspl
          obtain ⟨k', hk'⟩ : ∃ k', k' = k * ((sp.length : Int) - ss + 1) := ⟨_, rfl⟩
          rw [← hk'] at hle hge E
          rw [show k * ((sp.length : Int) - ss + 1) = k' from hk'.symm] at w3
          have w3' : wrap64 (k * ((sp.length : Int) - ss + 1)) = k' := by rw [← hk']; exact w3
          clear hk' w3
          by_cases hbig : k' > most
          · have d4 : decide (k' > most) = true := decide_eq_true hbig
            have d5 : decide (most < k') = true := d4
            have w4 : IntKind.i64.wrap (most + 1) = most + 1 := IntWalk.i64_in _ (by omega)
            have E2 := hide (E.out.trans (if_pos hbig))
            clear hbig E
            go_wp2_with fail
            go_quiet (fail)
            go_wp2_with fail
            go_quiet (fail)
            rw [w3']
            go_wp2_with fail
            go_ret
            exact ⟨by rw [E2.out]; try rfl, HH.out.drewN _⟩
          · have d4 : decide (k' > most) = false := decide_eq_false hbig
            have d5 : decide (most < k') = false := d4
            have E2 := hide (E.out.trans (if_neg hbig))
            clear E
            go_wp2_with fail
            go_quiet (fail)
            go_wp2_with fail
            go_quiet (fail)
            rw [w3']
            go_wp2_with fail
            go_roundg (n - (i + 1))
            case measure => have := HG.out; omega
            case rel => exact ⟨i + 1, k', rfl, by omega, rfl, by go_num, hge, by omega, E2.out, HH.out.drewN _⟩
    · obtain rfl : i = n := by omega
      have E := hide (hw.trans (show waysI most ((l.drop i).map SecX.s) k = k by rw [List.drop_of_length_le (by rw [← HN.out]; exact Nat.le_refl _)]; rfl))
      have H := hide h
      clear h hw
      go_wp2_with fail
      go_ret
      exact ⟨by rw [E.out]; try rfl, H.out⟩
end Go.Proofs.Ytbgknfdaaffeaaa
