/- Cache: slices.Delete and DeleteFunc over a row that is owned. -/
import Derived.Test.YtbgknfdaaffeaaaCaZ
import Derived.Test.YtbgknfdaaffeaaaCaI
namespace Go.Proofs.Ytbgknfdaaffeaaa
open Go.RowKit

theorem put_elem : ElemOf Try.prog 41 153 (.agg #[.int .i64 0, .int .i64 0, .slice none 0 0]) 3 40 := ⟨Try.underlying41, by kernel_rfl, by kernel_rfl, by omega⟩
theorem put_zero (w : World) : (zeroValue 153).run Try.prog w = .ok (.agg #[.int .i64 0, .int .i64 0, .slice none 0 0]) w := by
  obtain ⟨i0, hi0, hz, _, _⟩ := info_parts put_elem.hinfo
  simp [zeroValue, typeInfo, hi0, hz]
set_option maxHeartbeats 1000000 in
set_option maxRecDepth 100000 in
theorem del_st {M0 : Imm} {L : List Res} (l : List PU) (A : Option Addr) (n c i j : Nat) (w : World) (hj : j = i + 1) (hi : i < l.length) (h : St M0 w (growR 153 3 PutR (.slice A n c) l :: L)) :
    Calls Try.prog 135 #[.slice A n c, .int .i64 i, .int .i64 j] w fun e w' => ∃ q, q + 1 = n ∧ e = .returned (.slice A q c) ∧ St M0 w' (growR 153 3 PutR (.slice A q c) (l.eraseIdx i) :: L) := by
  obtain ⟨zs, hz, hn, hs, h1⟩ := h.growZ
  have hlz : zs.length = l.length := by rw [← hz, List.length_map]
  obtain ⟨b, rfl⟩ := own_form (h1.row 0 rfl) (by omega)
  obtain ⟨A', c', e0, hc, hm⟩ := h.growLen
  injection e0 with e1 e0 e2
  subst e2
  have H1 := hide h1
  have HZ := hide hz
  have HS := hide hs
  have HN := hide hn
  have hi' : i < n := by omega
  have i0 : (0 : Int) ≤ (i : Int) := by omega
  have i1 : (i : Int) ≤ (j : Int) := by omega
  have i2 : (j : Int) ≤ (n : Int) := by omega
  have i3 : (n : Int) ≤ (c : Int) := by omega
  have i4 : (0 : Int) ≤ (j : Int) := by omega
  have i5 : (0 : Int) ≤ (n : Int) := by omega
  have i6 : (j : Int) ≤ (c : Int) := by omega
  have i7 : (i : Int) ≤ (c : Int) := by omega
  have bne : ((i : Int) == (j : Int)) = false := isF (by omega)
  have HJ := hide hj
  have HL := hide e0
  clear h h1 hz hs hlz e0 hn hi e1 hc hj
  go_enter Try.func135, Try.ntmps135
  go_wp2_with fail
  refine region_tail 6 (by kernel_rfl) (by kernel_rfl) (fun W hW => ?_)
  have HW := hide (H1.out.drew)
  rw [← hW] at HW
  clear hW H1
  simp only [List.take_succ_cons, List.take_zero, List.drop_succ_cons, List.drop_zero]
  repeat still_step
  try refine wpStill_nil ?_
  obtain ⟨a, ha, hb⟩ : ∃ a : Addr, (if c = j then some (⟨b, 0, none⟩ : Addr) else some ⟨b, j * 3, none⟩) = some a ∧ (j < n → a = ⟨b, j * 3, none⟩) := by
    by_cases hcj : c = j
    · exact ⟨_, if_pos hcj, fun h => by omega⟩
    · exact ⟨_, if_neg hcj, fun _ => rfl⟩
  rw [ha]
  have h1s : ∀ u ∈ flatZ zs, u.oneCell' = true := by
    intro u hu
    obtain ⟨p, hp, hu⟩ := List.mem_flatMap.1 hu
    obtain ⟨v, hv, A, d, hi, _⟩ := (HW.out.get 1 rfl) p hp
    rw [hv, hi] at hu
    simp only [List.mem_cons, List.not_mem_nil, or_false] at hu
    rcases hu with rfl | rfl | rfl <;> rfl
  obtain ⟨w2, hr, h2⟩ := St.run_shift put_elem HW.out i j (c - j) a hb (by omega) (by omega) h1s
  obtain ⟨q, hq⟩ : ∃ q, q = i + (n - j) := ⟨_, rfl⟩
  have hqn : q + 1 = n := by rw [hq]; have := HJ.out; omega
  rw [← hq] at hr
  refine at_append 41 rfl rfl rfl rfl hr ?_
  clear hr ha hb h1s
  have H2 := hide h2
  have HQ := hide hq
  have HQN := hide hqn
  have q0 : (0 : Int) ≤ (q : Int) := by omega
  have q1 : (q : Int) ≤ (n : Int) := by omega
  have q2 : (q : Int) ≤ (c : Int) := by omega
  have q3 : ¬ c = q := by omega
  obtain ⟨w3, ys, hr3, hy, h3⟩ := St.run_clear put_elem put_zero (by decide) H2.out q n (c - q) ⟨b, q * 3, none⟩ (fun _ => rfl) (by omega) (by omega)
  have hc := hr3 0
  have H3 := hide h3
  clear h2 HW hq hqn hr3 hy H2 h3
  simp only [Act.put]
  go_wp2_with fail
  go_ret
  refine ⟨q, HQN.out, rfl, ?_⟩
  have h4 := H3.out.rowLess (m := q) (by have := HQN.out; omega)
  have e : (splice (splice (flatZ zs) (i * 3) ((flatZ zs).drop (j * 3))) (q * 3) ys).take (q * 3) = flatZ (zs.eraseIdx i) := by
    have hj := HJ.out
    have hn := HN.out
    have hq := HQN.out
    have f1 : (flatZ zs).take (i * 3) = flatZ (zs.take i) := flatZ_take zs HS.out i (by omega)
    have f2 : (flatZ zs).drop (j * 3) = flatZ (zs.drop j) := flatZ_drop zs HS.out j (by omega)
    have f3 : (flatZ (zs.take i) ++ flatZ (zs.drop j)).length = q * 3 := by
      rw [← flatZ_append, flatZ_length _ ((HS.out.take i).append (HS.out.drop j)), List.length_append, List.length_take, List.length_drop]
      congr 1
      omega
    unfold splice
    rw [f1, f2]
    rw [List.take_left' f3, List.append_assoc, List.take_left' f3, ← flatZ_append, hj, List.eraseIdx_eq_take_drop_succ]
  rw [e] at h4
  have hlen : (zs.eraseIdx i).length = q := by
    have hn := HN.out
    have hq := HQN.out
    rw [List.length_eraseIdx, if_pos (by omega)]
    omega
  refine (h4.swap.pers1 (fun w' hr p hp => hr p (List.mem_of_mem_eraseIdx hp))).swap.zGrow (fun p hp => HS.out p (List.mem_of_mem_eraseIdx hp)) ?_ hlen.symm
  rw [← HZ.out, List.eraseIdx_eq_take_drop_succ, List.eraseIdx_eq_take_drop_succ, List.map_append, List.map_take, List.map_drop]
end Go.Proofs.Ytbgknfdaaffeaaa
