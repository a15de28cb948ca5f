/- The document's Reader, told by the same plain reader. -/
import Derived.Test.YtbgknfdaaffeaaaRdSt
namespace Go.Proofs.Ytbgknfdaaffeaaa
open Go.RowKit

def rrR (g : Nat) (r : Rd) : Res := exR fun p : Value × List Int × Nat => starR (blkR g 192 #[p.1, .int .i64 p.2.2, .bool r.s]) (starR (intsR .u8 p.1 p.2.1) (pureR (p.2.2 ≤ p.2.1.length ∧ p.2.1.length ≤ 140737488355328 ∧ r.xs = if r.s = true then [] else p.2.1.drop p.2.2)))
section
variable {M0 : Imm} {w : World} {L : List Res} {g : Nat}
theorem St.rr {r : Rd} (h : St M0 w (rrR g r :: L)) : ∃ A c xs at_, at_ ≤ xs.length ∧ xs.length ≤ 140737488355328 ∧ (r.xs = if r.s = true then [] else xs.drop at_) ∧ xs.length ≤ c ∧ c ≤ 9223372036854775807 ∧
    St M0 w (blkR g 192 #[.slice A xs.length c, .int .i64 (at_ : Nat), .bool r.s] :: intsR .u8 (.slice A xs.length c) xs :: L) := by
  obtain ⟨⟨v, xs, k⟩, h⟩ := h.ex
  have h := h.star.swap.star
  simp only at h
  obtain ⟨A, c, rfl, h1, h2, _⟩ := h.get 0 rfl
  obtain ⟨⟨h3, h5, h4⟩, h⟩ := h.swap.pure_
  exact ⟨A, c, xs, k, h3, h5, h4, h1, h2, h.swap⟩
theorem St.addRr {v : Value} {xs : List Int} {k : Nat} {r : Rd} (h : St M0 w (blkR g 192 #[v, .int .i64 k, .bool r.s] :: intsR .u8 v xs :: L)) (h1 : k ≤ xs.length) (h3 : xs.length ≤ 140737488355328) (h2 : r.xs = if r.s = true then [] else xs.drop k) : St M0 w (rrR g r :: L) :=
  St.addEx (f := fun p : Value × List Int × Nat => starR (blkR g 192 #[p.1, .int .i64 p.2.2, .bool r.s]) (starR (intsR .u8 p.1 p.2.1) (pureR (p.2.2 ≤ p.2.1.length ∧ p.2.1.length ≤ 140737488355328 ∧ r.xs = if r.s = true then [] else p.2.1.drop p.2.2)))) (v, xs, k)
    ((h.swap.addP (p := k ≤ xs.length ∧ xs.length ≤ 140737488355328 ∧ r.xs = if r.s = true then [] else xs.drop k) ⟨h1, h3, h2⟩).swap.addStar.swap.addStar)
end

set_option maxHeartbeats 400000 in
theorem of_any (v : Value) (xs : List Int) (w : World) (hb : Bytes xs) (hl : xs.length ≤ 8) (hv : Ints w .u8 v xs) :
    Calls Try.prog 151 #[v] w fun e w' => e = .returned (.int .u64 (ofB xs)) ∧ w' = w := by
  obtain ⟨A, c, rfl, hc, hm, hs⟩ := hv
  have HS := hide hs
  clear hs hm
  generalize hn : xs.length = n at *
  have HN := hide hn
  clear hn
  go_enter Try.func151, Try.ntmps151
  go_wp2
  go_loop [3, 4] (fun x i => ∃ k : Nat, k ≤ n ∧ i = .int .i64 ((k : Int) - 1) ∧ x = .int .u64 (ofB (xs.drop k))) (fun _ i => (intOf i + 1).toNat)
  case atStart => exact ⟨n, Nat.le_refl _, rfl, by rw [List.drop_of_length_le (by rw [HN.out]; exact Nat.le_refl _)]; rfl⟩
  case round =>
    obtain ⟨k, hk, rfl, rfl⟩ := hrel
    by_cases hlt : 0 < k
    · obtain ⟨j, rfl⟩ : ∃ j, k = j + 1 := ⟨k - 1, by omega⟩
      have hj : j < n := by omega
      have hx := List.getElem?_eq_getElem (l := xs) (i := j) (by rw [HN.out]; exact hj)
      have hd := List.drop_eq_getElem_cons (l := xs) (i := j) (by rw [HN.out]; exact hj)
      generalize xs[j]'(by rw [HN.out]; exact hj) = x at hx hd
      obtain ⟨ad, u, rfl, _, _, hu, hcu⟩ := Sl.at_ HS.out hj
      rw [List.getElem?_map, hx] at hu
      obtain rfl : Value.int .u8 x = u := by simpa using hu
      have hxb : isByte x := hb x (List.mem_of_getElem? hx)
      have hr := ofB_range (hb.drop (j + 1))
      have hdl : (xs.drop (j + 1)).length ≤ 7 := by rw [List.length_drop, HN.out]; omega
      have hp : (256 : Int) ^ (xs.drop (j + 1)).length ≤ 72057594037927936 := by
        have : ∀ k, k ≤ 7 → (256 : Int) ^ k ≤ 72057594037927936 := by decide
        exact this _ hdl
      have hD := hide (show ofB (xs.drop j) = x + 256 * ofB (xs.drop (j + 1)) by rw [hd]; rfl)
      generalize ofB (xs.drop (j + 1)) = a at *
      unfold isByte at hxb
      obtain ⟨hx0, hx1⟩ := hxb
      obtain ⟨ha0, ha1⟩ := hr
      have ha2 : a < 72057594037927936 := by omega
      have e0 : ((j + 1 : Nat) : Int) - 1 = (j : Int) := by omega
      clear hx hd hu hdl hp ha1
      rw [e0]
      clear e0
      go_wp2
      go_round
      case rel => exact ⟨j, by omega, by go_num, by rw [hD.out]; congr 1; omega⟩
      case measure => simp [intOf]
    · obtain rfl : k = 0 := by omega
      rw [List.drop_zero]
      go_wp2
      go_ret
      exact ⟨rfl, rfl⟩

set_option maxHeartbeats 1000000 in
theorem rrnum_shut {M0 : Imm} {L : List Res} (g : Nat) (A : Option Addr) (c k : Nat) (xs : List Int) (size : Int) (w : World) (hk : k ≤ xs.length) (hl : xs.length ≤ 140737488355328)  (h : St M0 w (blkR g 192 #[.slice A xs.length c, .int .i64 (k : Nat), .bool true] :: intsR .u8 (.slice A xs.length c) xs :: L)) :
    Calls Try.prog 115 #[.pointer (some ⟨g, 0, none⟩), .int .i64 size] w fun e w' => e = .returned (.int .u64 0) ∧ St M0 w' (rrR g ⟨[], true⟩ :: L) := by
  have c0 := (h.blk 0 rfl).cell 0
  have c1 := (h.blk 0 rfl).cell 1
  have c2 := (h.blk 0 rfl).cell 2
  have f2 := (h.blk 0 rfl).frozen 2
  have H := hide h
  clear h
  go_enter Try.func115, Try.ntmps115
  go_wp2
  go_quiet (fail)
  go_wp2
  go_ret
  exact ⟨rfl, St.addRr (r := ⟨[], true⟩) ((H.out.drewN _).set_ 2 (.bool true)) hk hl rfl⟩
set_option maxHeartbeats 1000000 in
theorem rrnum_low {M0 : Imm} {L : List Res} (g : Nat) (A : Option Addr) (c k : Nat) (xs : List Int) (size : Int) (w : World) (hk : k ≤ xs.length) (hl : xs.length ≤ 140737488355328) (d1 : decide (size < 1) = true) (h : St M0 w (blkR g 192 #[.slice A xs.length c, .int .i64 (k : Nat), .bool false] :: intsR .u8 (.slice A xs.length c) xs :: L)) :
    Calls Try.prog 115 #[.pointer (some ⟨g, 0, none⟩), .int .i64 size] w fun e w' => e = .returned (.int .u64 0) ∧ St M0 w' (rrR g ⟨[], true⟩ :: L) := by
  have c0 := (h.blk 0 rfl).cell 0
  have c1 := (h.blk 0 rfl).cell 1
  have c2 := (h.blk 0 rfl).cell 2
  have f2 := (h.blk 0 rfl).frozen 2
  have H := hide h
  clear h
  go_enter Try.func115, Try.ntmps115
  go_wp2
  go_quiet (fail)
  go_wp2
  go_ret
  exact ⟨rfl, St.addRr (r := ⟨[], true⟩) ((H.out.drewN _).set_ 2 (.bool true)) hk hl rfl⟩
set_option maxHeartbeats 1000000 in
theorem rrnum_high {M0 : Imm} {L : List Res} (g : Nat) (A : Option Addr) (c k : Nat) (xs : List Int) (size : Int) (w : World) (hk : k ≤ xs.length) (hl : xs.length ≤ 140737488355328) (d1 : decide (size < 1) = false) (d8 : decide (8 < size) = true) (h : St M0 w (blkR g 192 #[.slice A xs.length c, .int .i64 (k : Nat), .bool false] :: intsR .u8 (.slice A xs.length c) xs :: L)) :
    Calls Try.prog 115 #[.pointer (some ⟨g, 0, none⟩), .int .i64 size] w fun e w' => e = .returned (.int .u64 0) ∧ St M0 w' (rrR g ⟨[], true⟩ :: L) := by
  have c0 := (h.blk 0 rfl).cell 0
  have c1 := (h.blk 0 rfl).cell 1
  have c2 := (h.blk 0 rfl).cell 2
  have f2 := (h.blk 0 rfl).frozen 2
  have H := hide h
  clear h
  go_enter Try.func115, Try.ntmps115
  go_wp2
  go_quiet (fail)
  go_wp2
  go_ret
  exact ⟨rfl, St.addRr (r := ⟨[], true⟩) ((H.out.drewN _).set_ 2 (.bool true)) hk hl rfl⟩
set_option maxHeartbeats 1000000 in
theorem rrnum_none {M0 : Imm} {L : List Res} (g : Nat) (A : Option Addr) (c k : Nat) (xs : List Int) (n : Nat) (w : World) (hk : k ≤ xs.length) (hl : xs.length ≤ 140737488355328) (h8 : n ≤ 8) (d1 : decide ((n : Int) < 1) = false) (d8 : decide (8 < (n : Int)) = false) (d2 : decide ((xs.length : Int) < (k : Int) + (n : Int)) = true) (h : St M0 w (blkR g 192 #[.slice A xs.length c, .int .i64 (k : Nat), .bool false] :: intsR .u8 (.slice A xs.length c) xs :: L)) :
    Calls Try.prog 115 #[.pointer (some ⟨g, 0, none⟩), .int .i64 n] w fun e w' => e = .returned (.int .u64 0) ∧ St M0 w' (rrR g ⟨[], true⟩ :: L) := by
  have c0 := (h.blk 0 rfl).cell 0
  have c1 := (h.blk 0 rfl).cell 1
  have c2 := (h.blk 0 rfl).cell 2
  have f2 := (h.blk 0 rfl).frozen 2
  have wk : IntKind.i64.wrap ((k : Int) + (n : Int)) = (k : Int) + (n : Int) := IntWalk.i64_in _ (by omega)
  have H := hide h
  clear h
  go_enter Try.func115, Try.ntmps115
  go_wp2
  go_quiet (fail)
  go_wp2
  go_ret
  exact ⟨rfl, St.addRr (r := ⟨[], true⟩) ((H.out.drewN _).set_ 2 (.bool true)) hk hl rfl⟩

set_option maxHeartbeats 1000000 in
theorem rrnum_ok {M0 : Imm} {L : List Res} (g : Nat) (A : Option Addr) (c k : Nat) (xs : List Int) (n : Nat) (w : World) (hk : k ≤ xs.length) (hl : xs.length ≤ 140737488355328) (hc : xs.length ≤ c) (hm : c ≤ 9223372036854775807) (hn1 : 1 ≤ n) (h8 : n ≤ 8) (h2 : k + n ≤ xs.length) (d1 : decide ((n : Int) < 1) = false) (d8 : decide (8 < (n : Int)) = false) (d2 : decide ((xs.length : Int) < (k : Int) + (n : Int)) = false) (hb : Bytes (xs.drop k))
    (h : St M0 w (blkR g 192 #[.slice A xs.length c, .int .i64 (k : Nat), .bool false] :: intsR .u8 (.slice A xs.length c) xs :: L)) :
    Calls Try.prog 115 #[.pointer (some ⟨g, 0, none⟩), .int .i64 n] w fun e w' => e = .returned (.int .u64 (ofB ((xs.drop k).take n))) ∧ St M0 w' (rrR g ⟨xs.drop (k + n), false⟩ :: L) := by
  have c0 := (h.blk 0 rfl).cell 0
  have c1 := (h.blk 0 rfl).cell 1
  have c2 := (h.blk 0 rfl).cell 2
  have f1 := (h.blk 0 rfl).frozen 1
  have wk : IntKind.i64.wrap ((k : Int) + (n : Int)) = (k : Int) + (n : Int) := IntWalk.i64_in _ (by omega)
  have H := hide h
  have HB := hide hb
  clear h hb
  go_enter Try.func115, Try.ntmps115
  go_wp2
  go_quiet (fail)
  go_wp2_with fail
  have h1 := (H.out.drewN nq).set_ 1 (.int .i64 ((k : Int) + (n : Int)))
  generalize (w.drewN nq).setCell ⟨g, 1, none⟩ (.int .i64 ((k : Int) + (n : Int))) = W at h1 ⊢
  clear c0 c1 c2 f1 H wk
  have c0 := (h1.blk 0 rfl).cell 0
  have c1 := (h1.blk 0 rfl).cell 1
  have HI : Hid (∀ m, Ints (W.drewN m) .u8 (.slice (A.map (·.add k)) n (c - k)) ((xs.drop k).take n)) := hide (fun m => (((h1.get 1 rfl).drop hk (A.map (·.add k)) (fun _ => rfl)).cut (by omega)).non ((Fr.refl _ _).drewN m))
  have H := hide h1
  have hck : ¬ c = k := by omega
  have hkc : k ≤ c := by omega
  have hkn : (k : Int) + (n : Int) ≤ (c : Int) := by omega
  have hk0 : (k : Int) ≤ (k : Int) + (n : Int) := by omega
  have wkn : IntKind.i64.wrap ((k : Int) + (n : Int) - (n : Int)) = (k : Int) := by rw [IntWalk.i64_in _ (by omega)]; omega
  have hlen : ((xs.drop k).take n).length ≤ 8 := by rw [List.length_take]; omega
  have HL := hide hlen
  clear h1 hlen d1 d8 d2
  go_quiet ((go_at_call 151; exact Calls.quiet_of_same (of_any _ _ _ (HB.out.take n) HL.out (HI.out _))))
  go_wp2
  go_ret
  refine ⟨?_, St.addRr (r := ⟨xs.drop (k + n), false⟩) (H.out.drewN _) h2 hl rfl⟩
  first | rfl | simp

theorem rrnum_st {M0 : Imm} {L : List Res} (g : Nat) (r : Rd) (size : Int) (w : World) (hb : Bytes r.xs) (h : St M0 w (rrR g r :: L)) :
    Calls Try.prog 115 #[.pointer (some ⟨g, 0, none⟩), .int .i64 size] w fun e w' => e = .returned (.int .u64 (r.num size).1) ∧ St M0 w' (rrR g (r.num size).2 :: L) := by
  obtain ⟨A, c, xs, k, hk, hl, hrx, hc, hm, h⟩ := h.rr
  obtain ⟨rx, s⟩ := r
  simp only at hrx h hb
  have hshut : (s = true ∨ size < 1 ∨ 8 < size ∨ rx.length < size.toNat) → Rd.num ⟨rx, s⟩ size = (0, ⟨[], true⟩) := by
    intro h
    have e : Rd.take ⟨rx, s⟩ (Rd.size ⟨rx, s⟩ size) = ([], ⟨[], true⟩) := by
      unfold Rd.take
      rw [if_pos]
      unfold Rd.size
      split
      · exact .inr (Nat.lt_succ_self _)
      · rcases h with h | h | h | h
        · exact .inl h
        · omega
        · omega
        · exact .inr h
    unfold Rd.num
    rw [e]
    rfl
  cases s with
  | true =>
    rw [hshut (.inl rfl)]
    exact rrnum_shut g A c k xs size w hk hl h
  | false =>
    rw [if_neg (by simp)] at hrx
    have hrl : rx.length = xs.length - k := by rw [hrx, List.length_drop]
    by_cases h1 : size < 1
    · rw [hshut (.inr (.inl h1))]
      exact rrnum_low g A c k xs size w hk hl (decide_eq_true h1) h
    by_cases h8 : 8 < size
    · rw [hshut (.inr (.inr (.inl h8)))]
      exact rrnum_high g A c k xs size w hk hl (decide_eq_false h1) (decide_eq_true h8) h
    obtain ⟨n, rfl⟩ := Int.eq_ofNat_of_zero_le (show 0 ≤ size by omega)
    by_cases hlt : rx.length < n
    · rw [hshut (.inr (.inr (.inr hlt)))]
      exact rrnum_none g A c k xs n w hk hl (by omega) (decide_eq_false h1) (decide_eq_false h8) (decide_eq_true (by omega)) h
    · have e : Rd.size ⟨rx, false⟩ (n : Int) = n := by unfold Rd.size; rw [if_neg (by omega)]; omega
      have E : Rd.num ⟨rx, false⟩ n = (ofB ((xs.drop k).take n), ⟨xs.drop (k + n), false⟩) := by
        unfold Rd.num
        rw [e]
        unfold Rd.take
        rw [if_neg (by simp; omega), hrx, List.drop_drop]
      rw [E]
      exact rrnum_ok g A c k xs n w hk hl hc hm (by omega) (by omega) (by omega) (decide_eq_false h1) (decide_eq_false h8) (decide_eq_false (by omega)) (hrx ▸ hb) h

set_option maxHeartbeats 400000 in
set_option maxHeartbeats 400000 in
theorem rrend_st {M0 : Imm} {L : List Res} (g : Nat) (r : Rd) (w : World) (h : St M0 w (rrR g r :: L)) :
    Calls Try.prog 116 #[.pointer (some ⟨g, 0, none⟩)] w fun e w' => e = .returned (.int .i64 r.endE) ∧ St M0 w' (rrR g r :: L) := by
  have H := hide h
  obtain ⟨A, c, xs, k, hk, hl, hrx, hc, hm, h1⟩ := h.rr
  obtain ⟨rx, s⟩ := r
  simp only at hrx h1
  have c0 := (h1.blk 0 rfl).cell 0
  have c1 := (h1.blk 0 rfl).cell 1
  have c2 := (h1.blk 0 rfl).cell 2
  clear h h1
  cases s with
  | true =>
    clear hrx
    go_enter Try.func116, Try.ntmps116
    go_wp2
    go_ret
    exact ⟨rfl, H.out⟩
  | false =>
    have hrl : rx.length = xs.length - k := by rw [hrx]; simp
    have HR := hide hrl
    clear hrx hrl
    by_cases hlt : k < xs.length
    · go_enter Try.func116, Try.ntmps116
      go_wp2
      go_quiet (fail)
      go_wp2
      go_ret
      have e : Rd.endE ⟨rx, false⟩ = 11 := by unfold Rd.endE; rw [if_neg (by simp), if_pos (by show 0 < rx.length; rw [HR.out]; omega)]
      exact ⟨by rw [e]; rfl, H.out.drewN _⟩
    · go_enter Try.func116, Try.ntmps116
      go_wp2
      go_quiet (fail)
      go_wp2
      go_ret
      have e : Rd.endE ⟨rx, false⟩ = 0 := by unfold Rd.endE; rw [if_neg (by simp), if_neg (by show ¬ 0 < rx.length; rw [HR.out]; omega)]
      exact ⟨by rw [e]; rfl, H.out.drewN _⟩

end Go.Proofs.Ytbgknfdaaffeaaa
