/- The comparison of two lists of bytes that stay. -/
import Derived.Test.YtbgknfdaaffeaaaStRows
import Derived.Test.YtbgknfdaaffeaaaRows
namespace Go.Proofs.Ytbgknfdaaffeaaa
open Go.RowKit

set_option maxHeartbeats 400000 in
theorem same_q (v u : Value) (xs ys : List Int) (w : World) (hx : Ints w .u8 v xs) (hy : Ints w .u8 u ys) :
    Calls Try.prog 25 #[v, u] w fun e w' => e = .returned (.bool (decide (xs = ys))) ∧ ∃ n, w' = w.drewN n := by
  obtain ⟨A, c, rfl, _, hm, hsx⟩ := hx
  obtain ⟨B, d, rfl, _, hm', hsy⟩ := hy
  unfold maxLen at hm hm'
  have HX := hide hsx
  have HY := hide hsy
  clear hsx hsy
  by_cases hnm : xs.length = ys.length
  · have HN := hide hnm
    rw [← hnm]
    generalize hn : xs.length = n at *
    have HN2 := hide hn
    clear hn hnm
    go_enter Try.func25, Try.ntmps25
    go_wp2
    go_loopw [5] (fun i wr => ∃ k : Nat, k ≤ n ∧ i = .int .i64 k ∧ xs.take k = ys.take k ∧ ∃ q, wr = w.drewN q) (fun i _ => n - (intOf i).toNat)
    case atStart => exact ⟨0, Nat.zero_le _, rfl, rfl, 0, rfl⟩
    case round =>
      obtain ⟨k, hk, rfl, he, q, rfl⟩ := hrel
      have HE := hide he
      clear he
      by_cases hlt : k < n
      · have hkx : k < xs.length := by rw [HN2.out]; exact hlt
        have hky : k < ys.length := by rw [← HN.out]; exact hlt
        obtain ⟨ad, x, rfl, _, _, ex, hcx⟩ := Sl.at_ HX.out hlt
        obtain ⟨bd, y, rfl, _, _, ey, hcy⟩ := Sl.at_ HY.out hky
        rw [List.getElem?_map, List.getElem?_eq_getElem hkx] at ex
        rw [List.getElem?_map, List.getElem?_eq_getElem hky] at ey
        obtain rfl : .int .u8 xs[k] = x := by injection ex
        obtain rfl : .int .u8 ys[k] = y := by injection ey
        generalize hX : xs[k] = X at hcx
        generalize hY : ys[k] = Y at hcy
        have H1 := hide hX
        have H2 := hide hY
        clear hX hY ex ey
        by_cases hXY : X = Y
        · subst hXY
          go_wp2
          go_quiet (fail)
          go_wp2
          go_roundw
          case rel => exact ⟨k + 1, by omega, by go_num, take_succ_eq hkx hky HE.out (H1.out.trans H2.out.symm), _, rfl⟩
          case measure => simp [intOf]; omega
        · have hb := isN hXY
          go_wp2
          go_quiet (fail)
          go_wp2
          go_ret
          refine ⟨?_, _, World.drewN_drewN _ _ _⟩
          rw [decide_eq_false (by rintro rfl; exact hXY (H1.out.symm.trans H2.out))]
          rfl
      · go_wp2
        go_ret
        refine ⟨?_, q, rfl⟩
        have e1 : xs = ys := by
          have h := HE.out
          rwa [List.take_of_length_le (by rw [HN2.out]; omega), List.take_of_length_le (by rw [← HN.out]; omega)] at h
        rw [decide_eq_true e1]
        rfl
  · have hb : ((xs.length : Int) != (ys.length : Int)) = true := by rw [bne_iff_ne]; omega
    have HN := hide hnm
    clear hnm HX HY
    go_enter Try.func25, Try.ntmps25
    go_wp2
    go_ret
    refine ⟨?_, 0, rfl⟩
    rw [decide_eq_false (by rintro rfl; exact HN.out rfl)]
    rfl

theorem same_eq (v u : Value) (xs : List Int) (w : World) (hx : Ints w .u8 v xs) (hy : Ints w .u8 u xs) :
    Calls Try.prog 25 #[v, u] w fun e w' => e = .returned (.bool true) ∧ ∃ n, w' = w.drewN n := by
  refine (same_q v u xs xs w hx hy).mono ?_
  rintro e w' ⟨rfl, h⟩
  exact ⟨by simp, h⟩
theorem same_st {M0 : Imm} {L : List Res} (v u : Value) (xs ys : List Int) (w : World) (hx : Ints w .u8 v xs) (hy : Ints w .u8 u ys) (h : St M0 w L) :
    Calls Try.prog 25 #[v, u] w fun e w' => e = .returned (.bool (decide (xs = ys))) ∧ St M0 w' L := by
  refine (same_q v u xs ys w hx hy).mono ?_
  rintro e w' ⟨he, n, rfl⟩
  exact ⟨he, h.drewN n⟩
theorem same_true {M0 : Imm} {L : List Res} (v u : Value) (xs : List Int) (w : World) (hx : Ints w .u8 v xs) (hy : Ints w .u8 u xs) (h : St M0 w L) :
    Calls Try.prog 25 #[v, u] w fun e w' => e = .returned (.bool true) ∧ St M0 w' L := by
  refine (same_eq v u xs w hx hy).mono ?_
  rintro e w' ⟨he, n, rfl⟩
  exact ⟨he, h.drewN n⟩

end Go.Proofs.Ytbgknfdaaffeaaa
