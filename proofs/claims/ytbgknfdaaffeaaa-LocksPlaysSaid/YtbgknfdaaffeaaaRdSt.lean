/- pack.Reader. -/
import Derived.Test.YtbgknfdaaffeaaaPackD
import Derived.Test.YtbgknfdaaffeaaaCloneSt
import Derived.Test.YtbgknfdaaffeaaaStRows
import Derived.Deep.LoopGhost
import Derived.IntWalk
import Derived.Laws.BitsAllLaws
namespace Go.Proofs.Ytbgknfdaaffeaaa
open Go.RowKit

def rdR (g : Nat) (r : Rd) : Res := exR fun v => starR (blkR g 217 #[v, .bool r.s]) (intsR .u8 v r.xs)
section
variable {M0 : Imm} {w : World} {L : List Res} {g : Nat}
theorem St.rd {r : Rd} (h : St M0 w (rdR g r :: L)) : ∃ A c, r.xs.length ≤ c ∧ c ≤ 9223372036854775807 ∧ St M0 w (blkR g 217 #[.slice A r.xs.length c, .bool r.s] :: intsR .u8 (.slice A r.xs.length c) r.xs :: L) := by
  obtain ⟨v, h⟩ := h.ex
  have h := h.star
  obtain ⟨A, c, rfl, h1, h2, _⟩ := h.get 1 rfl
  exact ⟨A, c, h1, h2, h⟩
theorem St.addRd {v : Value} {xs : List Int} {s : Bool} (h : St M0 w (blkR g 217 #[v, .bool s] :: intsR .u8 v xs :: L)) : St M0 w (rdR g ⟨xs, s⟩ :: L) :=
  h.addStar.addEx (f := fun v => starR (blkR g 217 #[v, .bool s]) (intsR .u8 v xs)) v
end

theorem Ints.drop {w : World} {k : IntKind} {A : Option Addr} {n c m : Nat} {xs : List Int} (h : Ints w k (.slice A n c) xs) (hm : m ≤ n) (A' : Option Addr) (hA : m < n → A' = A.map (·.add m)) : Ints w k (.slice A' (n - m) (c - m)) (xs.drop m) := by
  obtain ⟨h0, h1, h2, h3⟩ := h.sl
  have hl : (xs.drop m).length = n - m := by rw [List.length_drop]; omega
  refine ⟨A', c - m, by rw [hl], by rw [hl]; omega, by unfold maxLen; omega, by rw [List.length_map]; omega, fun hp => ?_⟩
  rw [hl] at hp
  obtain ⟨ad, e, hq, hb, hc⟩ := h3.2 (by omega)
  subst e
  refine ⟨ad.add m, by rw [hA (by omega)]; rfl, trivial, by rw [addr_block]; exact hb, fun j u hu => ?_⟩
  rw [addr_add]
  refine hc (m + j) u ?_
  rwa [List.map_drop, List.getElem?_drop] at hu

set_option maxHeartbeats 400000 in
theorem take_st {M0 : Imm} {L : List Res} (g : Nat) (r : Rd) (n : Nat) (w : World) (h : St M0 w (rdR g r :: L)) :
    Calls Try.prog 146 #[.pointer (some ⟨g, 0, none⟩), .int .i64 n] w fun e w' => ∃ v, e = .returned v ∧ St M0 w' (intsR .u8 v (r.take n).1 :: rdR g (r.take n).2 :: L) := by
  obtain ⟨xs, s⟩ := r
  obtain ⟨A, c, hc, hm, h⟩ := h.rd
  simp only at hc h
  unfold Rd.take
  have c0 := (h.blk 0 rfl).cell 0
  have c1 := (h.blk 0 rfl).cell 1
  have f0 := (h.blk 0 rfl).frozen 0
  have f1 := (h.blk 0 rfl).frozen 1
  have H := hide h
  clear h
  cases s with
  | true =>
    rw [if_pos (.inl rfl)]
    go_enter Try.func146, Try.ntmps146
    go_wp2
    go_ret
    refine ⟨_, rfl, ?_⟩
    have h := (((H.out.del1).set_ 1 (.bool true)).set_ 0 (.slice none 0 0)).pers0 (R := fun w' => Ints w' .u8 (.slice none 0 0) []) (fun w' _ => Ints.none_ w' _)
    exact (St.addRd ((h.copy 0 rfl).up2)).swap
  | false =>
    by_cases hlt : xs.length < n
    · rw [if_pos (.inr hlt)]
      go_enter Try.func146, Try.ntmps146
      go_wp2
      go_ret
      refine ⟨_, rfl, ?_⟩
      have h := (((H.out.del1).set_ 1 (.bool true)).set_ 0 (.slice none 0 0)).pers0 (R := fun w' => Ints w' .u8 (.slice none 0 0) []) (fun w' _ => Ints.none_ w' _)
      exact (St.addRd ((h.copy 0 rfl).up2)).swap
    · rw [if_neg (by simp; omega)]
      have key : ∀ A' : Option Addr, (n < xs.length → A' = A.map (·.add n)) → St M0 ((w.setCell ⟨g, 1, none⟩ (.bool false)).setCell ⟨g, 0, none⟩ (.slice A' (xs.length - n) (c - n))) (intsR .u8 (.slice A n c) (xs.take n) :: rdR g ⟨xs.drop n, false⟩ :: L) := by
        intro A' hA'
        have h := ((H.out.set_ 1 (.bool false)).set_ 0 (.slice A' (xs.length - n) (c - n))).swap
        have h1 := ((h.copy 0 rfl).pers1 (R' := fun w' => Ints w' .u8 (.slice A n c) (xs.take n)) (fun w' h => h.cut (by omega)))
        have h2 := h1.swap.pers1 (R' := fun w' => Ints w' .u8 (.slice A' (xs.length - n) (c - n)) (xs.drop n)) (fun w' h => h.drop (by omega) _ hA')
        exact (St.addRd h2.up2).swap
      have HK := hide key
      clear key
      go_enter Try.func146, Try.ntmps146
      go_wp2
      all_goals
        go_ret
        first
        | exact ⟨_, rfl, HK.out _ (fun _ => rfl)⟩
        | (obtain rfl : c = n := by omega
           have h1 := HK.out A (fun _ => by omega)
           rw [Nat.sub_self] at h1
           exact ⟨_, rfl, h1⟩)

theorem or_shift (a c : Int) (k : Nat) (ha : 0 ≤ a) (h1 : a < 256 ^ k) (hc : 0 ≤ c) (hk : k < 8) (h2 : c ≤ 255) : bits .or .u64 a (IntKind.u64.wrap (c * 2 ^ (8 * k))) = a + c * 256 ^ k := by
  obtain ⟨A, rfl⟩ := Int.eq_ofNat_of_zero_le ha
  obtain ⟨C, rfl⟩ := Int.eq_ofNat_of_zero_le hc
  have hp : (256 : Int) ^ k = ((2 ^ (8 * k) : Nat) : Int) := by
    rw [Nat.pow_mul]; simp
  rw [hp] at h1 ⊢
  have hpk : (2 : Nat) ^ (8 * k) ≤ 2 ^ 56 := Nat.pow_le_pow_right (by omega) (by omega)
  have hC : C * 2 ^ (8 * k) ≤ 255 * 2 ^ 56 := Nat.mul_le_mul (by omega) hpk
  have e1 : (C : Int) * 2 ^ (8 * k) = ((C * 2 ^ (8 * k) : Nat) : Int) := by simp
  have e2 : (C : Int) * ((2 ^ (8 * k) : Nat) : Int) = ((C * 2 ^ (8 * k) : Nat) : Int) := by simp
  rw [e1, e2, IntWalk.u64_in _ (by omega), u64_or_nat A _ (by omega) (by omega)]
  have := Nat.two_pow_add_eq_or_of_lt (i := 8 * k) (b := A) (by omega) C
  rw [Nat.or_comm, Nat.mul_comm C, ← this]
  omega

set_option maxHeartbeats 1000000 in
theorem rdnum_st {M0 : Imm} {L : List Res} (g : Nat) (r : Rd) (size : Int) (w : World) (hb : Bytes r.xs) (hl : r.xs.length ≤ 140737488355328) (hz : r.s = true → r.xs = []) (h : St M0 w (rdR g r :: L)) :
    Calls Try.prog 106 #[.pointer (some ⟨g, 0, none⟩), .int .i64 size] w fun e w' => e = .returned (.int .u64 (r.num size).1) ∧ St M0 w' (rdR g (r.num size).2 :: L) := by
  obtain ⟨k, hk⟩ : ∃ k, k = r.size size := ⟨_, rfl⟩
  have hks : (size < 1 ∨ 8 < size → k = r.xs.length + 1) ∧ (1 ≤ size → size ≤ 8 → (k : Int) = size) := by
    subst hk
    unfold Rd.size
    split <;> omega
  have hlen : (r.take k).1.length ≤ 8 := by
    have := r.take_len k
    rcases (by omega : (size < 1 ∨ 8 < size) ∨ 1 ≤ size ∧ size ≤ 8) with h1 | h1
    · unfold Rd.take
      have := hks.1 h1
      rw [if_pos (.inr (by omega))]
      simp
    · have := hks.2 h1.1 h1.2
      omega
  have hby := (r.take_xs k hb).1
  have T := hide (fun w (h : St M0 w (rdR g r :: L)) => take_st g r k w h)
  unfold Rd.num
  rw [← hk]
  have HK := hide hk
  generalize (r.take k).1 = out at *
  generalize (r.take k).2 = r2 at *
  clear hk
  obtain ⟨xs, s⟩ := r
  obtain ⟨A, c, hc, hm, h1⟩ := h.rd
  simp only at hc h1 hb hl hz hks
  have c0 := (h1.blk 0 rfl).cell 0
  have H := hide h
  clear h h1
  rcases (by omega : size < 1 ∨ 8 < size ∨ (1 ≤ size ∧ size ≤ 8)) with h1 | h1 | ⟨h1, h8⟩
  · obtain rfl := hks.1 (.inl h1)
    go_enter Try.func106, Try.ntmps106
    go_wp2_with fail
    refine (T.out _ H.out).mono ?_
    rintro e w1 ⟨v, rfl, h⟩
    clear T H c0
    obtain ⟨A2, c2, rfl, _, _, _⟩ := h.get 0 rfl
    generalize ho : out.length = q at *
    have HO := hide ho
    have H := hide h
    clear ho h
    go_wp2_with fail
    go_loop [5, 24] (fun x i => ∃ j : Nat, j ≤ q ∧ i = .int .i64 j ∧ x = .int .u64 (ofB (out.take j))) (fun _ i => q - (intOf i).toNat)
    case atStart => exact ⟨0, Nat.zero_le _, rfl, rfl⟩
    case round =>
      obtain ⟨j, hj, rfl, rfl⟩ := hrel
      by_cases hlt : j < q
      · have hx := List.getElem?_eq_getElem (l := out) (i := j) (by rw [HO.out]; exact hlt)
        generalize out[j]'(by rw [HO.out]; exact hlt) = x at hx
        obtain ⟨ad, u, rfl, _, _, hu, hcu⟩ := (H.out.get 0 rfl).sl.2.2.2.at_ hlt
        rw [List.getElem?_map, hx] at hu
        obtain rfl : Value.int .u8 x = u := by simpa using hu
        have hxb : isByte x := hby x (List.mem_of_getElem? hx)
        unfold isByte at hxb
        obtain ⟨hx0, hx1⟩ := hxb
        have hr := ofB_range (hby.take j)
        have htl : (out.take j).length = j := by rw [List.length_take, HO.out]; omega
        rw [htl] at hr
        have hsn := ofB_snoc (out.take j) x
        rw [htl, show out.take j ++ [x] = out.take (j + 1) by rw [List.take_add_one, hx]; rfl] at hsn
        have HS := hide hsn
        have ho := or_shift (ofB (out.take j)) x j hr.1 hr.2 hx0 (by omega) hx1
        generalize ofB (out.take j) = a at *
        have w8 : IntKind.i64.wrap (8 * (j : Int)) = 8 * (j : Int) := IntWalk.i64_in _ (by omega)
        have w0 : (0 : Int) ≤ 8 * (j : Int) := by omega
        have wl : 8 * (j : Int) ≤ 64 := by omega
        have w2 : (8 * (j : Int)).toNat = 8 * j := by omega
        clear hsn hx hu hr htl
        go_wp2
        go_round
        case rel => exact ⟨j + 1, by omega, by go_num, by rw [HS.out]⟩
        case measure => simp [intOf]; omega
      · obtain rfl : j = q := by omega
        have e : out.take j = out := List.take_of_length_le (by rw [HO.out]; exact Nat.le_refl _)
        rw [e]
        clear e
        go_wp2
        go_ret
        exact ⟨rfl, H.out.tail⟩
  · obtain rfl := hks.1 (.inr h1)
    have h1' : ¬ size < 1 := by omega
    go_enter Try.func106, Try.ntmps106
    go_wp2_with fail
    refine (T.out _ H.out).mono ?_
    rintro e w1 ⟨v, rfl, h⟩
    clear T H c0
    obtain ⟨A2, c2, rfl, _, _, _⟩ := h.get 0 rfl
    generalize ho : out.length = q at *
    have HO := hide ho
    have H := hide h
    clear ho h
    go_wp2_with fail
    go_loop [5, 24] (fun x i => ∃ j : Nat, j ≤ q ∧ i = .int .i64 j ∧ x = .int .u64 (ofB (out.take j))) (fun _ i => q - (intOf i).toNat)
    case atStart => exact ⟨0, Nat.zero_le _, rfl, rfl⟩
    case round =>
      obtain ⟨j, hj, rfl, rfl⟩ := hrel
      by_cases hlt : j < q
      · have hx := List.getElem?_eq_getElem (l := out) (i := j) (by rw [HO.out]; exact hlt)
        generalize out[j]'(by rw [HO.out]; exact hlt) = x at hx
        obtain ⟨ad, u, rfl, _, _, hu, hcu⟩ := (H.out.get 0 rfl).sl.2.2.2.at_ hlt
        rw [List.getElem?_map, hx] at hu
        obtain rfl : Value.int .u8 x = u := by simpa using hu
        have hxb : isByte x := hby x (List.mem_of_getElem? hx)
        unfold isByte at hxb
        obtain ⟨hx0, hx1⟩ := hxb
        have hr := ofB_range (hby.take j)
        have htl : (out.take j).length = j := by rw [List.length_take, HO.out]; omega
        rw [htl] at hr
        have hsn := ofB_snoc (out.take j) x
        rw [htl, show out.take j ++ [x] = out.take (j + 1) by rw [List.take_add_one, hx]; rfl] at hsn
        have HS := hide hsn
        have ho := or_shift (ofB (out.take j)) x j hr.1 hr.2 hx0 (by omega) hx1
        generalize ofB (out.take j) = a at *
        have w8 : IntKind.i64.wrap (8 * (j : Int)) = 8 * (j : Int) := IntWalk.i64_in _ (by omega)
        have w0 : (0 : Int) ≤ 8 * (j : Int) := by omega
        have wl : 8 * (j : Int) ≤ 64 := by omega
        have w2 : (8 * (j : Int)).toNat = 8 * j := by omega
        clear hsn hx hu hr htl
        go_wp2
        go_round
        case rel => exact ⟨j + 1, by omega, by go_num, by rw [HS.out]⟩
        case measure => simp [intOf]; omega
      · obtain rfl : j = q := by omega
        have e : out.take j = out := List.take_of_length_le (by rw [HO.out]; exact Nat.le_refl _)
        rw [e]
        clear e
        go_wp2
        go_ret
        exact ⟨rfl, H.out.tail⟩
  · obtain rfl := hks.2 h1 h8
    have h1' : ¬ (k : Int) < 1 := by omega
    have h8' : ¬ 8 < (k : Int) := by omega
    go_enter Try.func106, Try.ntmps106
    go_wp2_with fail
    refine (T.out _ H.out).mono ?_
    rintro e w1 ⟨v, rfl, h⟩
    clear T H c0
    obtain ⟨A2, c2, rfl, _, _, _⟩ := h.get 0 rfl
    generalize ho : out.length = q at *
    have HO := hide ho
    have H := hide h
    clear ho h
    go_wp2_with fail
    go_loop [5, 24] (fun x i => ∃ j : Nat, j ≤ q ∧ i = .int .i64 j ∧ x = .int .u64 (ofB (out.take j))) (fun _ i => q - (intOf i).toNat)
    case atStart => exact ⟨0, Nat.zero_le _, rfl, rfl⟩
    case round =>
      obtain ⟨j, hj, rfl, rfl⟩ := hrel
      by_cases hlt : j < q
      · have hx := List.getElem?_eq_getElem (l := out) (i := j) (by rw [HO.out]; exact hlt)
        generalize out[j]'(by rw [HO.out]; exact hlt) = x at hx
        obtain ⟨ad, u, rfl, _, _, hu, hcu⟩ := (H.out.get 0 rfl).sl.2.2.2.at_ hlt
        rw [List.getElem?_map, hx] at hu
        obtain rfl : Value.int .u8 x = u := by simpa using hu
        have hxb : isByte x := hby x (List.mem_of_getElem? hx)
        unfold isByte at hxb
        obtain ⟨hx0, hx1⟩ := hxb
        have hr := ofB_range (hby.take j)
        have htl : (out.take j).length = j := by rw [List.length_take, HO.out]; omega
        rw [htl] at hr
        have hsn := ofB_snoc (out.take j) x
        rw [htl, show out.take j ++ [x] = out.take (j + 1) by rw [List.take_add_one, hx]; rfl] at hsn
        have HS := hide hsn
        have ho := or_shift (ofB (out.take j)) x j hr.1 hr.2 hx0 (by omega) hx1
        generalize ofB (out.take j) = a at *
        have w8 : IntKind.i64.wrap (8 * (j : Int)) = 8 * (j : Int) := IntWalk.i64_in _ (by omega)
        have w0 : (0 : Int) ≤ 8 * (j : Int) := by omega
        have wl : 8 * (j : Int) ≤ 64 := by omega
        have w2 : (8 * (j : Int)).toNat = 8 * j := by omega
        clear hsn hx hu hr htl
        go_wp2
        go_round
        case rel => exact ⟨j + 1, by omega, by go_num, by rw [HS.out]⟩
        case measure => simp [intOf]; omega
      · obtain rfl : j = q := by omega
        have e : out.take j = out := List.take_of_length_le (by rw [HO.out]; exact Nat.le_refl _)
        rw [e]
        clear e
        go_wp2
        go_ret
        exact ⟨rfl, H.out.tail⟩

theorem Rd.num_facts (r : Rd) (size : Int) (hb : Bytes r.xs) (_hl : r.xs.length ≤ 140737488355328) : Bytes (r.num size).2.xs ∧ (r.num size).2.xs.length ≤ r.xs.length ∧ 0 ≤ (r.num size).1 ∧ (r.num size).1 < 18446744073709551616 := by
  have h1 := r.take_xs (r.size size) hb
  have h2 := r.take_len (r.size size)
  have h3 := ofB_range h1.1
  refine ⟨h1.2, h2.2.2, h3.1, Int.lt_of_lt_of_le h3.2 (pow_le_8 ?_)⟩
  unfold Rd.size at h2 ⊢
  split at h2
  · rename_i h
    rw [if_pos h]
    unfold Rd.take
    rw [if_pos (.inr (by omega))]
    simp
  · rename_i h
    rw [if_neg h]
    omega
theorem Rd.take_s (r : Rd) (n : Nat) : (r.take n).2.s = true → (r.take n).2.xs = [] := by
  unfold Rd.take
  split
  · intro _; rfl
  · intro h; cases h
theorem Rd.num_2 (r : Rd) (hb : Bytes r.xs) : (r.num 2).1 < 65536 := by
  have h1 := r.take_xs (r.size 2) hb
  have h2 := r.take_len (r.size 2)
  have h3 := ofB_range h1.1
  have h4 : (r.take (r.size 2)).1.length ≤ 2 := h2.1
  refine Int.lt_of_lt_of_le h3.2 ?_
  have : ∀ k, k ≤ 2 → (256 : Int) ^ k ≤ 65536 := by decide
  exact this _ h4

theorem rdend_st {M0 : Imm} {L : List Res} (g : Nat) (r : Rd) (w : World) (h : St M0 w (rdR g r :: L)) :
    Calls Try.prog 109 #[.pointer (some ⟨g, 0, none⟩)] w fun e w' => e = .returned (.int .i64 r.endE) ∧ St M0 w' (rdR g r :: L) := by
  obtain ⟨xs, s⟩ := r
  obtain ⟨A, c, hc, hm, h1⟩ := h.rd
  have c0 := (h1.blk 0 rfl).cell 0
  have c1 := (h1.blk 0 rfl).cell 1
  simp only at hc c0 c1
  have H := hide h
  clear h1 h
  unfold Rd.endE
  cases s with
  | true =>
    go_enter Try.func109, Try.ntmps109
    go_wp2
    go_ret
    exact ⟨rfl, H.out⟩
  | false =>
    by_cases h0 : 0 < xs.length
    · go_enter Try.func109, Try.ntmps109
      go_wp2
      go_ret
      exact ⟨by simp, H.out⟩
    · go_enter Try.func109, Try.ntmps109
      go_wp2
      go_ret
      exact ⟨by simp, H.out⟩

set_option maxHeartbeats 400000 in
theorem read_st {M0 : Imm} {L : List Res} (v : Value) (xs : List Int) (w : World) (h : St M0 w (intsR .u8 v xs :: L)) :
    Calls Try.prog 105 #[v] w fun e w' => ∃ g, e = .returned (.pointer (some ⟨g, 0, none⟩)) ∧ St M0 w' (rdR g ⟨xs, false⟩ :: intsR .u8 v xs :: L) := by
  obtain ⟨A, c, rfl, _, _, _⟩ := h.get 0 rfl
  have H := hide h
  clear h
  go_enter Try.func105, Try.ntmps105
  go_wp2
  go_ret
  exact ⟨w.heap.size, rfl, St.addRd (((H.out.copy 0 rfl).alloc 217 #[.slice A xs.length c, .bool false]))⟩

structure Rd.Ok (r : Rd) : Prop where
  hb : Bytes r.xs
  hl : r.xs.length ≤ 140737488355328
  hz : r.s = true → r.xs = []
theorem Rd.Ok.take {r : Rd} (h : r.Ok) (n : Nat) : (r.take n).2.Ok :=
  ⟨(r.take_xs n h.hb).2, Nat.le_trans (r.take_len n).2.2 h.hl, r.take_s n⟩
theorem Rd.Ok.num {r : Rd} (h : r.Ok) (size : Int) : (r.num size).2.Ok := h.take _
theorem Rd.Ok.byt {r : Rd} (h : r.Ok) : r.byt.2.Ok := (h.num 2).take _
theorem Rd.num_lt (r : Rd) (hb : Bytes r.xs) (m : Nat) (hm : m ≤ 8) (h1 : 1 ≤ m) : 0 ≤ (r.num m).1 ∧ (r.num m).1 < 256 ^ m := by
  have h1' := r.take_xs (r.size m) hb
  have h2 := r.take_len (r.size m)
  have h3 := ofB_range h1'.1
  have hs : r.size (m : Int) = m := by
    unfold Rd.size
    rw [if_neg (by omega), Int.toNat_natCast]
  have h4 : (r.take (r.size m)).1.length ≤ m := by have := h2.1; rw [hs] at this ⊢; exact this
  refine ⟨h3.1, Int.lt_of_lt_of_le h3.2 ?_⟩
  have : ∀ m, m ≤ 8 → ∀ k, k ≤ m → (256 : Int) ^ k ≤ 256 ^ m := by decide
  exact this m hm _ h4
theorem Rd.num1_lt {r : Rd} (h : r.Ok) : 0 ≤ (r.num 1).1 ∧ (r.num 1).1 < 256 := r.num_lt h.hb 1 (by omega) (by omega)
theorem Rd.num4_lt {r : Rd} (h : r.Ok) : 0 ≤ (r.num 4).1 ∧ (r.num 4).1 < 4294967296 := r.num_lt h.hb 4 (by omega) (by omega)
theorem Rd.num8_lt {r : Rd} (h : r.Ok) : 0 ≤ (r.num 8).1 ∧ (r.num 8).1 < 18446744073709551616 := r.num_lt h.hb 8 (by omega) (by omega)
theorem numB_cons (n : Int) (k : Nat) : numB n (k + 1) = n % 256 :: numB (n / 256) k := by
  unfold numB
  rw [List.range_succ_eq_map, List.map_cons, List.map_map]
  congr 1
  · simp
  · apply List.map_congr_left
    intro i _
    simp only [Function.comp]
    rw [Nat.succ_eq_add_one, Int.pow_succ, Int.mul_comm, ← Int.ediv_ediv_of_nonneg (by omega)]
theorem ofB_numB (n : Nat) (k : Nat) : ofB (numB n k) = ((n % 256 ^ k : Nat) : Int) := by
  induction k generalizing n with
  | zero => simp [numB_zero, ofB, Nat.mod_one]
  | succ k ih =>
    rw [numB_cons, ofB, show (n : Int) / 256 = ((n / 256 : Nat) : Int) by omega, ih, Nat.pow_succ, Nat.mul_comm (256 ^ k), Nat.mod_mul]
    omega
theorem numB_ofB {t : List Int} (h : Bytes t) : numB (ofB t) t.length = t := by
  induction t with
  | nil => rfl
  | cons x r ih =>
    have hx := h x List.mem_cons_self
    unfold isByte at hx
    rw [List.length_cons, numB_cons, ofB]
    rw [show (x + 256 * ofB r) % 256 = x by omega, show (x + 256 * ofB r) / 256 = ofB r by omega, ih (fun y hy => h y (List.mem_cons_of_mem _ hy))]
theorem Rd.take_append (a b : List Int) : Rd.take ⟨a ++ b, false⟩ a.length = (a, ⟨b, false⟩) := by
  unfold Rd.take
  rw [if_neg (by simp), List.take_left, List.drop_left]
theorem Rd.num_append (n : Nat) (k : Nat) (h1 : 1 ≤ k) (h8 : k ≤ 8) (b : List Int) : Rd.num ⟨numB n k ++ b, false⟩ (k : Int) = (((n % 256 ^ k : Nat) : Int), ⟨b, false⟩) := by
  have e : Rd.size ⟨numB n k ++ b, false⟩ (k : Int) = (numB (n : Int) k).length := by
    unfold Rd.size
    rw [if_neg (by omega), numB_length]
    omega
  unfold Rd.num
  rw [e, Rd.take_append, ofB_numB]
theorem Rd.take_good {r : Rd} {n : Nat} (h : (r.take n).2.s = false) : r.s = false ∧ r.xs = (r.take n).1 ++ (r.take n).2.xs ∧ (r.take n).1.length = n := by
  unfold Rd.take at h ⊢
  split at h
  · cases h
  · rename_i hc
    rw [if_neg hc]
    have h1 : r.s = false := by
      cases hs : r.s with
      | false => rfl
      | true => exact absurd (.inl hs) hc
    refine ⟨h1, (List.take_append_drop n r.xs).symm, ?_⟩
    have : ¬ r.xs.length < n := fun hh => hc (.inr hh)
    show (r.xs.take n).length = n
    rw [List.length_take]
    omega
theorem Rd.num_good {r : Rd} {m : Nat} (hb : Bytes r.xs) (h1 : 1 ≤ m) (h8 : m ≤ 8) (h : (r.num (m : Int)).2.s = false) : r.s = false ∧ r.xs = numB (r.num (m : Int)).1 m ++ (r.num (m : Int)).2.xs ∧ 0 ≤ (r.num (m : Int)).1 := by
  have e : Rd.size r (m : Int) = m := by
    unfold Rd.size
    rw [if_neg (by omega)]
    omega
  unfold Rd.num at h ⊢
  simp only [e] at h ⊢
  obtain ⟨g1, g2, g3⟩ := Rd.take_good h
  have hbt := (r.take_xs m hb).1
  have := numB_ofB hbt
  rw [g3] at this
  exact ⟨g1, by rw [this]; exact g2, (ofB_range hbt).1⟩
end Go.Proofs.Ytbgknfdaaffeaaa
