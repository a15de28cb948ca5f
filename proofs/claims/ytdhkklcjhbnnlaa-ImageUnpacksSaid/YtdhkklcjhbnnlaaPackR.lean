/- The document's answer: Number, Bytes, Kind. -/
import Derived.Test.YtdhkklcjhbnnlaaPackE
namespace Go.Proofs.Ytdhkklcjhbnnlaa
open Go.RowKit

theorem rkind_any (k : Int) (w : World) : Calls Try.prog 60 #[.int .i64 k] w fun e w' => e = .returned (.bool (isKind k)) ∧ w = w' := by
  unfold isKind
  by_cases h1 : k = 1
  · subst h1; go_enter Try.func60, Try.ntmps60; go_wp2; go_ret; exact ⟨rfl, rfl⟩
  by_cases h2 : k = 2
  · subst h2; go_enter Try.func60, Try.ntmps60; go_wp2; go_ret; exact ⟨rfl, rfl⟩
  by_cases h4 : k = 4
  · subst h4; go_enter Try.func60, Try.ntmps60; go_wp2; go_ret; exact ⟨rfl, rfl⟩
  by_cases h8 : k = 8
  · subst h8; go_enter Try.func60, Try.ntmps60; go_wp2; go_ret; exact ⟨rfl, rfl⟩
  have e1 := isF h1
  have e2 := isF h2
  have e4 := isF h4
  have e8 := isF h8
  rw [e1, e2, e4, e8]
  go_enter Try.func60, Try.ntmps60
  go_wp2
  go_ret
  exact ⟨by simp, rfl⟩

theorem numB_step (n : Int) (j : Nat) : n / 256 ^ (j + 1) = n / 256 ^ j / 256 := by
  rw [Int.pow_succ, Int.ediv_ediv_of_nonneg (Int.le_of_lt (Int.pow_pos (by omega)))]
theorem div_in (n : Int) (j : Nat) (h0 : 0 ≤ n) (h1 : n < 18446744073709551616) : 0 ≤ n / 256 ^ j ∧ n / 256 ^ j < 18446744073709551616 := by
  have hp : (0 : Int) < 256 ^ j := Int.pow_pos (by omega)
  exact ⟨Int.ediv_nonneg h0 (Int.le_of_lt hp), Int.lt_of_le_of_lt (Int.ediv_le_self _ h0) h1⟩

set_option maxHeartbeats 400000 in
theorem rnum_st {M0 : Imm} {L : List Res} (n size : Int) (w : World) (h0 : 0 ≤ n) (hn : n < 18446744073709551616) (h : St M0 w L) :
    Calls Try.prog 27 #[.int .u64 n, .int .i64 size] w fun e w' => ∃ v, e = .returned v ∧ St M0 w' (rowR 5 1 v (numI n size).length (bv (numI n size)) :: L) := by
  by_cases h8 : 8 < size
  · have e : numI n size = [] := by unfold numI; rw [if_pos (.inr h8)]
    rw [e]
    go_enter Try.func27, Try.ntmps27
    go_wp2
    go_ret
    exact ⟨_, rfl, h.nilRow _ _⟩
  · have hk : ∃ k : Nat, k ≤ 8 ∧ numI n size = numB n k ∧ (∀ j : Nat, j ≤ k → j < k → (j : Int) < size) ∧ (∀ j : Nat, j ≤ k → ¬ j < k → ¬ (j : Int) < size) := by
      by_cases h1 : size < 1
      · exact ⟨0, by omega, by unfold numI; rw [if_pos (.inl h1)]; rfl, fun j _ _ => by omega, fun j _ _ => by omega⟩
      · exact ⟨size.toNat, by omega, by unfold numI; rw [if_neg (by omega)], fun j _ _ => by omega, fun j _ _ => by omega⟩
    obtain ⟨k, hk8, hN, hlt1, hlt2⟩ := hk
    have HNum := hide hN
    have H1 := hide hlt1
    have H2 := hide hlt2
    have H := hide h
    have HB := hide (fun j => div_in n j h0 hn)
    clear hN hlt1 hlt2 h
    go_enter Try.func27, Try.ntmps27
    go_wp2
    go_loopg [0, 5, 6] k (fun gh x v i wr => ∃ (j : Nat) (A : Option Addr) (c : Nat), gh = k - j ∧ j ≤ k ∧ i = .int .i64 j ∧ x = .int .u64 (n / 256 ^ j) ∧ v = .slice A j c ∧ St M0 wr (rowR 5 1 (.slice A j c) j (bv (numB n j)) :: L))
    case atStart => exact ⟨0, none, 0, rfl, Nat.zero_le _, rfl, by simp, rfl, by rw [numB_zero]; exact H.out.nilRow _ _⟩
    case round =>
      clear H
      obtain ⟨j, A, c, hg, hj, rfl, rfl, rfl, h⟩ := hrel
      have HG := hide hg
      have hx := HB.out j
      have HS := hide (numB_succ n j)
      have HD := hide (numB_step n j)
      generalize n / 256 ^ j = x at *
      obtain ⟨hx0, hx1⟩ := hx
      have H := hide h
      clear hg h
      by_cases hlt : j < k
      · have hls := H1.out j hj hlt
        go_wp2_with (at_builtin; refine St.app_step u8_row (H.out.junk _) rfl _ _ rfl rfl (some ⟨wr.heap.size, 0, none⟩) 1 1 rfl [_] (sl_new1 _ _ _) (bv_one [_]) (by omega) (by omega) ?_; intro A' c' w1 h1)
        go_roundg (k - (j + 1))
        case measure => have := HG.out; omega
        case rel => exact ⟨j + 1, A', c', rfl, hlt, by go_num, by rw [HD.out], rfl, by rw [HS.out, bv_snoc]; exact h1⟩
      · have hls := H2.out j hj hlt
        go_wp2
        go_ret
        obtain rfl : j = k := by omega
        rw [HNum.out, numB_length]
        exact ⟨_, rfl, H.out⟩

set_option maxHeartbeats 400000 in
theorem rbyt_st {M0 : Imm} {L : List Res} (v : Value) (bs : List Int) (w : World) (h : St M0 w (intsR .u8 v bs :: L)) :
    Calls Try.prog 25 #[v] w fun e w' => ∃ u, e = .returned u ∧ St M0 w' (rowR 5 1 u (bytB bs).length (bv (bytB bs)) :: intsR .u8 v bs :: L) := by
  obtain ⟨A, c, rfl, hbl, hcm, _⟩ := h.get 0 rfl
  unfold maxLen at hcm
  have HB := hide (bytB_eq bs)
  have HL := hide (List.length_take (i := min 1000 bs.length) (l := bs))
  generalize hn : bs.length = n at *
  have HN := hide hn
  clear hn
  have HT : Hid (∀ k w', k ≤ n → Ints w' .u8 (.slice A n c) bs → Sl w' Any 1 A k (bv (bs.take k))) := hide (fun k w' hk hi => (hi.cut hk).sl.2.2.2)
  rcases (by omega : n ≤ 1000 ∨ 1000 < n) with h1 | h1
  · have h2 : ¬ (1000 : Int) < (n : Int) := by omega
    rw [Nat.min_eq_right h1] at HB HL
    have H := hide h
    have hin := numI_length n 2
    clear h h1
    go_enter Try.func25, Try.ntmps25
    go_wp2_with fail
    refine (rnum_st n 2 _ (by omega) (by omega) H.out).mono ?_
    rintro e w1 ⟨u, rfl, h⟩
    clear H
    obtain ⟨A2, c2, rfl⟩ := h.slice
    have H := hide h
    clear h
    go_wp2_with (at_builtin; refine St.app_step u8_row H.out rfl _ _ rfl rfl A _ c rfl (bv (bs.take n)) (HT.out n _ (by omega) (H.out.get 1 rfl)) (bv_one _) (by omega) (by omega) ?_; intro A' c' w1 h1)
    go_ret
    refine ⟨_, rfl, h1.row_eq ?_ ?_⟩
    · rw [HB.out, List.length_append, HL.out]; omega
    · rw [HB.out, bv_append]
  · have h2 : (1000 : Int) < (n : Int) := by omega
    have h3 : (1000 : Int) ≤ (c : Int) := by omega
    rw [Nat.min_eq_left (show 1000 ≤ n by omega)] at HB HL
    rw [show ((1000 : Nat) : Int) = 1000 from rfl] at HB
    have hin := numI_length 1000 2
    have H := hide h
    clear h
    go_enter Try.func25, Try.ntmps25
    go_wp2_with fail
    refine (rnum_st 1000 2 _ (by omega) (by omega) H.out).mono ?_
    rintro e w1 ⟨u, rfl, h⟩
    generalize numI 1000 2 = ns at *
    clear H
    obtain ⟨A2, c2, rfl⟩ := h.slice
    have H := hide h
    clear h
    go_wp2_with (at_builtin; refine St.app_step u8_row H.out rfl _ _ rfl rfl A _ c rfl (bv (bs.take 1000)) (HT.out 1000 _ (by omega) (H.out.get 1 rfl)) (bv_one _) (by omega) (by omega) ?_; intro A' c' w1 h1)
    go_ret
    refine ⟨_, rfl, h1.row_eq ?_ ?_⟩
    · rw [HB.out, List.length_append, HL.out]; omega
    · rw [HB.out, bv_append]

end Go.Proofs.Ytdhkklcjhbnnlaa
