/- The document's Number. -/
import Derived.Test.YtbgknfdaaffeaaaPackN
import Derived.Test.YtbgknfdaaffeaaaCloneSt
namespace Go.Proofs.Ytbgknfdaaffeaaa
open Go.RowKit

theorem numB_step (n : Int) (j : Nat) : n / 256 ^ (j + 1) = n / 256 ^ j / 256 := by
  rw [Int.pow_succ, Int.ediv_ediv_of_nonneg (Int.le_of_lt (Int.pow_pos (by omega)))]
theorem div_in (n : Int) (j : Nat) (h0 : 0 ≤ n) (h1 : n < 18446744073709551616) : 0 ≤ n / 256 ^ j ∧ n / 256 ^ j < 18446744073709551616 := by
  have hp : (0 : Int) < 256 ^ j := Int.pow_pos (by omega)
  exact ⟨Int.ediv_nonneg h0 (Int.le_of_lt hp), Int.lt_of_le_of_lt (Int.ediv_le_self _ h0) h1⟩

set_option maxHeartbeats 400000 in
theorem rnum_st {M0 : Imm} {L : List Res} (n size : Int) (w : World) (h0 : 0 ≤ n) (hn : n < 18446744073709551616) (h : St M0 w L) :
    Calls Try.prog 54 #[.int .u64 n, .int .i64 size] w fun e w' => ∃ v, e = .returned v ∧ St M0 w' (rowR 5 1 v (numI n size).length (bv (numI n size)) :: L) := by
  by_cases h8 : 8 < size
  · have e : numI n size = [] := by unfold numI; rw [if_pos (.inr h8)]
    rw [e]
    go_enter Try.func54, Try.ntmps54
    go_wp2
    go_ret
    exact ⟨_, rfl, h.nilRow _ _⟩
  · have hk : ∃ k : Nat, k ≤ 8 ∧ numI n size = numB n k ∧ (∀ j : Nat, j ≤ k → j < k → (j : Int) < size) ∧ (∀ j : Nat, j ≤ k → ¬ j < k → ¬ (j : Int) < size) := by
      by_cases h1 : size < 1
      · exact ⟨0, by omega, by unfold numI; rw [if_pos (.inl h1)]; rfl, fun j _ _ => by omega, fun j _ _ => by omega⟩
      · exact ⟨size.toNat, by omega, by unfold numI; rw [if_neg (by omega)], fun j _ _ => by omega, fun j _ _ => by omega⟩
    obtain ⟨k, hk8, hN, hlt1, hlt2⟩ := hk
    have HNum := hide hN
    have H1 := hide hlt1
    have H2 := hide hlt2
    have H := hide h
    have HB := hide (fun j => div_in n j h0 hn)
    clear hN hlt1 hlt2 h
    go_enter Try.func54, Try.ntmps54
    go_wp2
    go_loopg [0, 5, 6] k (fun gh x v i wr => ∃ (j : Nat) (A : Option Addr) (c : Nat), gh = k - j ∧ j ≤ k ∧ i = .int .i64 j ∧ x = .int .u64 (n / 256 ^ j) ∧ v = .slice A j c ∧ St M0 wr (rowR 5 1 (.slice A j c) j (bv (numB n j)) :: L))
    case atStart => exact ⟨0, none, 0, rfl, Nat.zero_le _, rfl, by simp, rfl, by rw [numB_zero]; exact H.out.nilRow _ _⟩
    case round =>
      clear H
      obtain ⟨j, A, c, hg, hj, rfl, rfl, rfl, h⟩ := hrel
      have HG := hide hg
      have hx := HB.out j
      have HS := hide (numB_succ n j)
      have HD := hide (numB_step n j)
      generalize n / 256 ^ j = x at *
      obtain ⟨hx0, hx1⟩ := hx
      have H := hide h
      clear hg h
      by_cases hlt : j < k
      · have hls := H1.out j hj hlt
        go_wp2_with (at_builtin; refine St.app_step u8_row (H.out.junk _) rfl _ _ rfl rfl (some ⟨wr.heap.size, 0, none⟩) 1 1 rfl [_] (sl_new1 _ _ _) (bv_one [_]) (by omega) (by omega) ?_; intro A' c' w1 h1)
        go_roundg (k - (j + 1))
        case measure => have := HG.out; omega
        case rel => exact ⟨j + 1, A', c', rfl, hlt, by go_num, by rw [HD.out], rfl, by rw [HS.out, bv_snoc]; exact h1⟩
      · have hls := H2.out j hj hlt
        go_wp2
        go_ret
        obtain rfl : j = k := by omega
        rw [HNum.out, numB_length]
        exact ⟨_, rfl, H.out⟩
end Go.Proofs.Ytbgknfdaaffeaaa
