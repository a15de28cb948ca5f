/- The comparison of two lists of numbers: numbers_any. -/
import Derived.Test.YtbgknfdaaffeaaaWords
import Derived.Test.YtbgknfdaaffeaaaRows
namespace Go.Proofs.Ytbgknfdaaffeaaa
open Go.RowKit

set_option maxHeartbeats 400000 in
theorem numbers_any (v u : Value) (xs ys : List Int) (w : World) (Q Q' : Nat → Prop) (hx : Nums w Q .i64 v xs) (hy : Nums w Q' .i64 u ys) :
    Calls Try.prog 19 #[v, u] w fun e w' => e = .returned (.bool (decide (xs = ys))) ∧ Fr Non w w' := by
  obtain ⟨A, c, rfl, hl, hsx⟩ := hx
  obtain ⟨B, d, rfl, hl', hsy⟩ := hy
  have HX := hide hsx
  have HY := hide hsy
  clear hsx hsy
  by_cases hnm : xs.length = ys.length
  · have HN := hide hnm
    rw [← hnm]
    generalize hn : xs.length = n at hl
    have HN2 := hide hn
    clear hn hnm hl'
    go_enter Try.func19, Try.ntmps19
    go_wp2
    go_loopw [5] (fun i wr => ∃ k : Nat, k ≤ n ∧ i = .int .i64 k ∧ xs.take k = ys.take k ∧ ∃ q, wr = w.drewN q) (fun i _ => n - (intOf i).toNat)
    case atStart => exact ⟨0, Nat.zero_le _, rfl, rfl, 0, rfl⟩
    case round =>
      obtain ⟨k, hk, rfl, he, q, rfl⟩ := hrel
      have HE := hide he
      clear he
      by_cases hlt : k < n
      · have hkx : k < xs.length := by rw [HN2.out]; exact hlt
        have hky : k < ys.length := by rw [← HN.out]; exact hkx
        obtain ⟨ad, x, rfl, _, _, ex, hcx⟩ := Sl.at_ HX.out hkx
        obtain ⟨bd, y, rfl, _, _, ey, hcy⟩ := Sl.at_ HY.out hky
        rw [List.getElem?_map, List.getElem?_eq_getElem hkx] at ex
        rw [List.getElem?_map, List.getElem?_eq_getElem hky] at ey
        obtain rfl : .int .i64 xs[k] = x := by injection ex
        obtain rfl : .int .i64 ys[k] = y := by injection ey
        generalize hX : xs[k] = X at hcx
        generalize hY : ys[k] = Y at hcy
        have H1 := hide hX
        have H2 := hide hY
        clear hX hY ex ey
        by_cases hXY : X = Y
        · subst hXY
          go_wp2
          go_quiet (fail)
          go_wp2
          go_roundw
          case rel => exact ⟨k + 1, by omega, by go_num, take_succ_eq hkx hky HE.out (H1.out.trans H2.out.symm), _, rfl⟩
          case measure => simp [intOf]; omega
        · have hb := isN hXY
          go_wp2
          go_quiet (fail)
          go_wp2
          go_ret
          refine ⟨?_, by repeat (first | exact Fr.refl _ _ | refine Fr.drewN ?_ _)⟩
          rw [decide_eq_false (by rintro rfl; exact hXY (H1.out.symm.trans H2.out))]
          rfl
      · go_wp2
        go_ret
        refine ⟨?_, by repeat (first | exact Fr.refl _ _ | refine Fr.drewN ?_ _)⟩
        have e1 : xs = ys := by
          have h := HE.out
          rwa [List.take_of_length_le (by rw [HN2.out]; omega), List.take_of_length_le (by rw [← HN.out, HN2.out]; omega)] at h
        rw [decide_eq_true e1]
        rfl
  · have hb : ((xs.length : Int) != (ys.length : Int)) = true := by rw [bne_iff_ne]; omega
    have HN := hide hnm
    clear hnm HX HY
    go_enter Try.func19, Try.ntmps19
    go_wp2
    go_ret
    refine ⟨?_, Fr.refl _ _⟩
    rw [decide_eq_false (by rintro rfl; exact HN.out rfl)]
    rfl

end Go.Proofs.Ytbgknfdaaffeaaa
