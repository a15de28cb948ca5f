/- slices.Grow of nothing, slices.Concat of slices of bytes. -/
import Derived.Test.YtpaelngpmbeedaaGreatDoorStZ
import Derived.Test.YtpaelngpmbeedaaGreatDoorBaseZ
import Derived.Deep.LoopGhost
import Derived.Test.YtpaelngpmbeedaaGreatDoorCkSZ
import Derived.Test.YtpaelngpmbeedaaGreatDoorFlowZ
import Derived.Test.YtpaelngpmbeedaaGreatDoorPackZ
namespace Go.Proofs.YtpaelngpmbeedaaGreatDoor
open Go.RowKit

/-- a slice of bytes among slices -/
def BytR (w : World) (cs : List Value) (b : List Int) : Prop := ∃ v, cs = [v] ∧ Ints w .u8 v b
/-- the first ones of an owned row -/
theorem St.rowCut {M0 : Imm} {w : World} {L : List Res} {e : TypeId} {size : Nat} {A : Option Addr} {n c : Nat} {xs : List Value} (h : St M0 w (rowR e size (.slice A n c) n xs :: L)) (k : Nat) (hk : k ≤ n) : St M0 w (rowR e size (.slice A k c) k (xs.take (k * size)) :: L) := by
  have hown := h.row 0 rfl
  obtain ⟨M, F, _, _, hx, _, hkk⟩ := h.head
  refine hkk w _ F (Fr.refl _ _) (fun _ => ⟨fun b => (hx.1 b).trans ?_, ?_⟩) (fun b hb => .inl hb)
  · cases A <;> exact Iff.rfl
  · have hle : k * size ≤ n * size := Nat.mul_le_mul_right _ hk
    refine ⟨by rw [List.length_take, hown.1]; omega, ?_⟩
    rcases hown.2 with ⟨e1, e2⟩ | ⟨g, cap, cur, e1, hg0, hg, hc, hm, hs, ht⟩
    · injection e1 with e1 _ e3
      subst e1; subst e3
      exact .inl ⟨by rw [show k = 0 by omega], by omega⟩
    · injection e1 with e1 _ e3
      subst e1; subst e3
      refine .inr ⟨g, c, cur, rfl, hg0, hg, by omega, hm, hs, ?_⟩
      rw [← ht, List.take_take]
      congr 1
      omega
set_option maxHeartbeats 400000 in
theorem grow_st {M0 : Imm} {L : List Res} (k : Nat) (w : World) (hk : k ≤ 1000000) (h : St M0 w L) :
    Calls Tryz.prog 112 #[.slice none 0 0, .int .i64 k] w fun e w' => ∃ A c, e = .returned (.slice A 0 c) ∧ St M0 w' (rowR 5 1 (.slice A 0 c) 0 [] :: L) := by
  have H := hide (h.nilRow 5 1)
  clear h
  by_cases h0 : 0 < k
  · have d0 : decide ((k : Int) < 0) = false := decide_eq_false (by omega)
    have d1 : decide ((k : Int) > 0) = true := decide_eq_true (by omega)
    have d1' : decide ((0 : Int) < (k : Int)) = true := d1
    have d2 : IntKind.i64.wrap ((k : Int) - IntKind.i64.wrap (0 - 0)) = (k : Int) := by rw [IntKind.wrap_i64, IntKind.wrap_i64]; omega
    have d3 : IntKind.i64.wrap ((k : Int) - 0) = (k : Int) := by rw [IntKind.wrap_i64]; omega
    go_enter Tryz.func112, Tryz.ntmps112
    go_wp2_with (at_builtin; obtain ⟨v5, w5, hrun, h5⟩ := St.run_zeros u8_row rfl rfl Tryz.underlying3 H.out 34 .i64 k (by omega) (by omega) (by omega); refine Lib.wpList_append_run _ rfl _ _ _ _ rfl _ _ rfl rfl _ _ hrun ?_; obtain ⟨A5, c5, rfl⟩ := h5.slice; rw [Nat.zero_add] at h5 ⊢; have hle := (h5.row 0 rfl).2; have h6 := h5.rowCut 0 (Nat.zero_le _); have H6 := hide h6; clear h5 hrun h6)
    go_ret
    exact ⟨_, _, rfl, by simpa using H6.out⟩
  · obtain rfl : k = 0 := by omega
    go_enter Tryz.func112, Tryz.ntmps112
    go_wp2_with fail
    go_ret
    exact ⟨_, _, rfl, H.out⟩
def lens (l : List (List Int)) : Nat := (l.map List.length).sum
theorem lens_take (l : List (List Int)) {k : Nat} {x : List Int} (hx : l[k]? = some x) : lens (l.take (k + 1)) = lens (l.take k) + x.length := by
  rw [List.take_add_one, hx]
  unfold lens
  rw [List.map_append, List.sum_append]
  simp
theorem lens_le (l : List (List Int)) (k : Nat) : lens (l.take k) ≤ lens l := by
  have : lens l = lens (l.take k) + lens (l.drop k) := by
    conv => lhs; rw [← List.take_append_drop k l]
    unfold lens
    rw [List.map_append, List.sum_append]
  omega
theorem flatten_take (l : List (List Int)) {k : Nat} {x : List Int} (hx : l[k]? = some x) : (l.take (k + 1)).flatten = (l.take k).flatten ++ x := by
  rw [List.take_add_one, hx, List.flatten_append]
  simp
theorem lens_flatten (l : List (List Int)) : l.flatten.length = lens l := by simp [lens, List.length_flatten]
set_option maxHeartbeats 1000000 in
theorem concat_st {M0 : Imm} {L : List Res} (v : Value) (l : List (List Int)) (w : World) (hl : lens l ≤ 100000) (h : St M0 w (rowsR 1 BytR v l :: L)) :
    Calls Tryz.prog 105 #[v] w fun e w' => ∃ A c, e = .returned (.slice A (lens l) c) ∧ St M0 w' (intsR .u8 (.slice A (lens l) c) l.flatten :: L) := by
  obtain ⟨A, c, rfl, hc, hm⟩ := (h.getRows 0 rfl).slice
  obtain ⟨n, hn⟩ : ∃ n, n = l.length := ⟨_, rfl⟩
  rw [← hn] at hc h ⊢
  have HN := hide hn
  have H := hide h
  have HL := hide hl
  clear h hn hl
  go_enter Tryz.func105, Tryz.ntmps105
  go_wp2_with fail
  go_loopg [3, 11] n (fun gh sv iv wr => ∃ (k s : Nat), gh = n - k ∧ k ≤ n ∧ iv = .int .i64 (k : Nat) ∧ sv = .int .i64 (s : Nat) ∧ s = lens (l.take k) ∧ St M0 wr (rowsR 1 BytR (.slice A n c) l :: L))
  case atStart => exact ⟨0, 0, rfl, Nat.zero_le _, rfl, rfl, rfl, H.out⟩
  case round =>
    clear H
    obtain ⟨k, s, hg, hk, rfl, rfl, hs, h⟩ := hrel
    have HG := hide hg
    have hsl : s ≤ 100000 := by rw [hs]; exact Nat.le_trans (lens_le l k) HL.out
    have HS := hide hs
    clear hg hs
    by_cases hlt : k < n
    · have hx := List.getElem?_eq_getElem (l := l) (i := k) (by rw [← HN.out]; exact hlt)
      generalize l[k]'(by rw [← HN.out]; exact hlt) = x at hx
      obtain ⟨ad, cs, rfl, _, hcs, ⟨v1, rfl, hv⟩, _⟩ := h.elem 0 rfl hx
      have x3 : wr.cell? (ad.add k) = some v1 := by simpa [Addr.add] using hcs 0 _ rfl
      obtain ⟨B, d, rfl, _, _, _⟩ := id hv
      have HX := hide hx
      have hsx : s + x.length ≤ 100000 := by
        have := lens_take l hx
        rw [HS.out, ← this]
        exact Nat.le_trans (lens_le l _) HL.out
      have H1 := hide h
      have k0 : (0 : Int) ≤ (k : Int) := by omega
      have k1 : (k : Int) < (n : Int) := by omega
      have w1 : IntKind.i64.wrap ((s : Int) + (x.length : Int)) = ((s + x.length : Nat) : Int) := by rw [IntKind.wrap_i64]; omega
      have d0 : decide (((s + x.length : Nat) : Int) < 0) = false := decide_eq_false (by omega)
      clear hx h hcs hv
      go_wp2_with fail
      go_roundg (n - (k + 1))
      case measure => have := HG.out; omega
      case rel => exact ⟨k + 1, s + x.length, rfl, by omega, by go_num, rfl, by rw [lens_take l HX.out, HS.out], H1.out⟩
    · obtain rfl : k = n := by omega
      have hfull : l.take k = l := List.take_of_length_le (by rw [← HN.out]; omega)
      have HS : Hid (s = lens l) := by have := HS.out; rw [hfull] at this; exact this
      have H1 := hide h
      clear h hfull
      go_wp2_with fail
      refine (grow_st s _ (by omega) H1.out).mono ?_
      rintro e w2 ⟨A2, c2, rfl, h2⟩
      have H2 := hide h2
      clear h2 H1
      go_wp2_with fail
      go_loopg [6, 27] k (fun gh ov iv wr => ∃ (j q : Nat) (A3 : Option Addr) (c3 : Nat), gh = k - j ∧ j ≤ k ∧ iv = .int .i64 (j : Nat) ∧ ov = .slice A3 q c3 ∧ q = lens (l.take j) ∧ St M0 wr (rowR 5 1 (.slice A3 q c3) q (bv (l.take j).flatten) :: rowsR 1 BytR (.slice A k c) l :: L))
      case atStart => exact ⟨0, 0, A2, c2, rfl, Nat.zero_le _, rfl, rfl, rfl, H2.out⟩
      case round =>
        clear H2
        obtain ⟨j, q, A3, c3, hg, hj, rfl, rfl, hq, h⟩ := hrel
        have HG := hide hg
        have hql : q ≤ 100000 := by rw [hq]; exact Nat.le_trans (lens_le l j) HL.out
        have HQ := hide hq
        clear hg hq
        by_cases hlt : j < k
        · have hx := List.getElem?_eq_getElem (l := l) (i := j) (by rw [← HN.out]; exact hlt)
          generalize l[j]'(by rw [← HN.out]; exact hlt) = x at hx
          obtain ⟨ad, cs, rfl, _, hcs, ⟨v1, rfl, hv⟩, _⟩ := h.elem 1 rfl hx
          have x3 : wr.cell? (ad.add j) = some v1 := by simpa [Addr.add] using hcs 0 _ rfl
          obtain ⟨B, d, rfl, _, _, hsx⟩ := hv
          have HSX := hide hsx
          have HX := hide hx
          have hqx : q + x.length ≤ 100000 := by
            have := lens_take l hx
            rw [HQ.out, ← this]
            exact Nat.le_trans (lens_le l _) HL.out
          have H2 := hide h
          have k0 : (0 : Int) ≤ (j : Int) := by omega
          have k1 : (j : Int) < (k : Int) := by omega
          clear hx h hcs hsx
          go_wp2_with (at_builtin; refine St.app_step u8_row H2.out rfl _ _ rfl rfl B x.length d rfl (bv x) HSX.out (bv_one _) (by omega) (by omega) ?_; intro A' c' w1 h1; have H3 := hide h1; clear h1 H2)
          go_roundg (k - (j + 1))
          case measure => have := HG.out; omega
          case rel => exact ⟨j + 1, q + x.length, _, _, rfl, by omega, by go_num, rfl, by rw [lens_take l HX.out, HQ.out], by rw [flatten_take l HX.out, bv_append]; exact H3.out⟩
        · obtain rfl : j = k := by omega
          have hfull : l.take j = l := List.take_of_length_le (by rw [← HN.out]; omega)
          rw [hfull] at h
          obtain rfl : q = lens l := by have := HQ.out; rw [hfull] at this; exact this
          have H2 := hide (h.ints.del1)
          clear h hfull
          go_wp2_with fail
          go_ret
          exact ⟨_, _, rfl, H2.out⟩
end Go.Proofs.YtpaelngpmbeedaaGreatDoor
/- slot.Stamp. Printed by gen_ckt.py. -/
namespace Go.Proofs.YtpaelngpmbeedaaGreatDoor
open Go.RowKit

theorem exec_buildSlice3 {P : Program} {a : Act} {o : Oper} {w w' : World} {v u0 u1 u2 : Value} {t : TypeId} {len k0 k1 k2 : Nat} {x0 x1 x2 : Operand} (hop : o.op = .buildSlice t len #[(k0, x0), (k1, x1), (k2, x2)]) (h0 : a.eval x0 = u0) (h1 : a.eval x1 = u1) (h2 : a.eval x2 = u2) (h : (Instr.buildSlice t len #[(k0, u0), (k1, u1), (k2, u2)]).run P w = .ok v w') : (execOp a.eval o).run P w = .ok (.value v) w' := by
  unfold execOp; simp only [hop, h0, h1, h2, List.map_toArray, List.map_cons, List.map_nil, Sem.run_bind, Sem.run_pure, Result.andThen_ok, h]
theorem build3_b (w : World) (A B C : Option Addr) (n m k c d e : Nat) : (Instr.buildSlice 37 3 #[(0, .slice A n c), (1, .slice B m d), (2, .slice C k e)]).run Tryz.prog w = .ok (.slice (some ⟨w.heap.size, 0, none⟩) 3 3) (w.alloc (.cells #[.slice A n c, .slice B m d, .slice C k e] 34)) := by kernel_rfl
/-- a literal of slices of bytes -/
theorem St.lit3 {M0 : Imm} {w : World} {L : List Res} {v0 v1 v2 : Value} {x0 x1 x2 : List Int} (e : TypeId) (h : St M0 w (intsR .u8 v0 x0 :: intsR .u8 v1 x1 :: intsR .u8 v2 x2 :: L)) : St M0 (w.alloc (.cells #[v0, v1, v2] e)) (rowsR 1 BytR (.slice (some ⟨w.heap.size, 0, none⟩) 3 3) [x0, x1, x2] :: L) := by
  have h1 := h.pers2 (Q := fun w' => Ints w' .u8 v0 x0 ∧ Ints w' .u8 v1 x1) (fun w' a b => ⟨a, b⟩)
  have h2 := h1.pers2 (Q := fun w' => ∀ p ∈ ([([v0], x0), ([v1], x1), ([v2], x2)] : List (List Value × List Int)), BytR w' p.1 p.2) (fun w' a b => by
    intro p hp
    simp only [List.mem_cons, List.not_mem_nil, or_false] at hp
    rcases hp with rfl | rfl | rfl
    · exact ⟨v0, rfl, a.1⟩
    · exact ⟨v1, rfl, a.2⟩
    · exact ⟨v2, rfl, b⟩)
  exact St.litFlat [([v0], x0), ([v1], x1), ([v2], x2)] e (by intro p hp; simp only [List.mem_cons, List.not_mem_nil, or_false] at hp; rcases hp with rfl | rfl | rfl <;> rfl) h2 (by simp) w.heap.size rfl
theorem St.lit2 {M0 : Imm} {w : World} {L : List Res} {v0 v1 : Value} {x0 x1 : List Int} (e : TypeId) (h : St M0 w (intsR .u8 v0 x0 :: intsR .u8 v1 x1 :: L)) : St M0 (w.alloc (.cells #[v0, v1] e)) (rowsR 1 BytR (.slice (some ⟨w.heap.size, 0, none⟩) 2 2) [x0, x1] :: L) := by
  have h2 := h.pers2 (Q := fun w' => ∀ p ∈ ([([v0], x0), ([v1], x1)] : List (List Value × List Int)), BytR w' p.1 p.2) (fun w' a b => by
    intro p hp
    simp only [List.mem_cons, List.not_mem_nil, or_false] at hp
    rcases hp with rfl | rfl
    · exact ⟨v0, rfl, a⟩
    · exact ⟨v1, rfl, b⟩)
  exact St.litFlat [([v0], x0), ([v1], x1)] e (by intro p hp; simp only [List.mem_cons, List.not_mem_nil, or_false] at hp; rcases hp with rfl | rfl <;> rfl) h2 (by simp) w.heap.size rfl
theorem St.newWr {M0 : Imm} {w : World} {L : List Res} (h : St M0 w L) : St M0 (w.alloc (.cells #[.slice none 0 0] 97)) (wrR w.heap.size [] :: L) := St.addWr (xs := []) ((h.nilRow 5 1).alloc 97 #[.slice none 0 0]) rfl
theorem numI4 (x : Int) : numI x 4 = numB x 4 := rfl
theorem numJ1 (x : Int) : numI x 1 = numB x 1 := rfl
theorem u32_u64 {x : Int} (h : 0 ≤ x ∧ x < 4294967296) : IntKind.u64.wrap x = x := IntWalk.u64_in _ (by omega)
set_option maxHeartbeats 400000 in
theorem ends_st {M0 : Imm} {L : List Res} (g : Nat) (q e : Int) (xs : List Int) (w : World) (hq : 0 ≤ q ∧ q < 4294967296) (he : 0 ≤ e ∧ e < 4294967296) (hl : xs.length ≤ 1000) (h : St M0 w (wrR g xs :: L)) :
    Calls Tryz.prog 104 #[.pointer (some ⟨g, 0, none⟩), .int .u32 q, .int .u32 e] w fun u w' => u = .returned (.tuple #[]) ∧ St M0 w' (wrR g (xs ++ numB q 4 ++ numB e 4) :: L) := by
  have H := hide h
  have wq := u32_u64 hq
  have we := u32_u64 he
  have HL := hide hl
  clear h hq he
  go_enter Tryz.func104, Tryz.ntmps104
  go_wp2_with fail
  refine (num_st g q 4 xs _ (by omega) H.out).mono ?_
  rintro u w1 ⟨rfl, h⟩
  rw [numI4] at h
  have H1 := hide h
  clear h H
  go_wp2_with fail
  refine (num_st g e 4 _ _ (by rw [List.length_append, numB_length]; have := HL.out; omega) H1.out).mono ?_
  rintro u w2 ⟨rfl, h⟩
  rw [numI4] at h
  have H2 := hide h
  clear h H1
  go_wp2_with fail
  go_end0
  exact ⟨rfl, H2.out⟩
theorem headM_length (q e : Int) {b : List Int} (h : b.length ≤ 43) : (headM q e b).length = 52 := by
  unfold headM
  simp only [List.length_append, numB_length, zeros, List.length_replicate]
  omega
theorem headM_bytes (q e : Int) {b : List Int} (h : Bytes b) : Bytes (headM q e b) := by
  unfold headM
  refine ((((numB_bytes _ _).append (numB_bytes _ _)).append (numB_bytes _ _)).append h).append ?_
  intro x hx
  rw [List.eq_of_mem_replicate hx]
  unfold isByte
  omega
theorem stampM_length (q e : Int) {b : List Int} (h : b.length ≤ 43) : (stampM q e b).length = 64 := by
  unfold stampM
  rw [List.length_append, headM_length q e h]
  simp only [List.length_append, numB_length]
theorem stampM_bytes (q e : Int) {b : List Int} (h : Bytes b) : Bytes (stampM q e b) :=
  (headM_bytes q e h).append (((numB_bytes _ _).append (numB_bytes _ _)).append (numB_bytes _ _))
set_option maxHeartbeats 4000000 in
set_option maxRecDepth 100000 in
theorem stamp_st {M0 : Imm} {L : List Res} (hT : Tbl M0) (q e0 : Int) (A : Option Addr) (n c : Nat) (b : List Int) (w : World) (hq : 0 ≤ q ∧ q < 4294967296) (he : 0 ≤ e0 ∧ e0 < 4294967296) (hn : n ≤ 43) (hb : Bytes b) (h : St M0 w (intsR .u8 (.slice A n c) b :: L)) :
    Calls Tryz.prog 81 #[.int .u32 q, .int .u32 e0, .slice A n c] w fun u w' => ∃ A' c', u = .returned (.tuple #[.slice A' 64 c', .int .i64 0]) ∧ St M0 w' (intsR .u8 (.slice A' 64 c') (stampM q e0 b) :: intsR .u8 (.slice A n c) b :: L) := by
  have hnb : n = b.length := (h.get 0 rfl).sl.1
  have hb43 : b.length ≤ 43 := by omega
  have HQ := hide hq
  have HE := hide he
  have HHB := hide (headM_bytes q e0 hb)
  have d1 : decide ((n : Int) > 43) = false := decide_eq_false (by omega)
  have d1' : decide ((43 : Int) < (n : Int)) = false := d1
  have wn : IntKind.u64.wrap (n : Int) = (n : Int) := IntWalk.u64_in _ (by omega)
  obtain ⟨k, hk⟩ : ∃ k, k = 43 - n := ⟨_, rfl⟩
  have hk43 : k ≤ 43 := by omega
  have wk : IntKind.i64.wrap (43 - (n : Int)) = ((k : Nat) : Int) := (IntWalk.i64_in _ (by omega)).trans (by omega)
  obtain ⟨xs, hxs⟩ : ∃ xs, xs = numB q 4 ++ numB e0 4 ++ numB (n : Nat) 1 := ⟨_, rfl⟩
  have HXE := hide hxs
  have HXL := hide (show xs.length ≤ 1000000000 by rw [hxs]; simp only [List.length_append, numB_length]; omega)
  have HLN := hide (show lens [xs, b, zeros k] = 52 by
    unfold lens
    simp only [List.map_cons, List.map_nil, List.sum_cons, List.sum_nil, zeros, List.length_replicate]
    rw [hxs]
    simp only [List.length_append, numB_length]
    omega)
  obtain ⟨hd, hhd⟩ : ∃ hd, hd = headM q e0 b := ⟨_, rfl⟩
  have HFL := hide (show [xs, b, zeros k].flatten = hd by
    rw [hhd]
    unfold headM
    rw [hxs, hk, hnb]
    simp)
  have HST := hide (show stampM q e0 b = hd ++ (numB (sumM hd) 4 ++ numB q 4 ++ numB e0 4) by rw [hhd]; rfl)
  rw [← hhd] at HHB
  have HHL := hide (show hd.length = 52 by rw [hhd]; exact headM_length q e0 hb43)
  have H := hide h
  clear h hq he hk hxs hhd hnb hb hb43
  go_enter Tryz.func81, Tryz.ntmps81
  go_wp2_with fail
  have h1 := H.out.newWr
  generalize hg : w.heap.size = g at h1 ⊢
  have H1 := hide h1
  clear h1 H hg
  refine (ends_st g q e0 [] _ HQ.out HE.out (by simp) H1.out).mono ?_
  rintro u w1 ⟨rfl, h⟩
  have H2 := hide h
  clear h H1
  go_wp2_with fail
  refine (num_st g (n : Nat) 1 _ _ (by simp only [List.nil_append, List.length_append, numB_length]; omega) H2.out).mono ?_
  rintro u w2 ⟨rfl, h⟩
  rw [numJ1, List.nil_append, ← HXE.out] at h
  have h0 := h
  clear h H2
  go_wp2_with fail
  refine region_flow (M0 := M0) (L0 := L) [⟨none, none, fun e => wrR g xs⟩, ⟨none, none, fun e => intsR .u8 (.slice A n c) b⟩, ⟨some 0, none, fun e => intsR .u8 (.slice (e 0).A xs.length (e 0).n) xs⟩, ⟨some 5, none, fun e => intsR .u8 (.slice (some ⟨(e 5).n, 0, none⟩) k k) (zeros k)⟩, ⟨some 6, some 7, fun e => rowsR 1 BytR (.slice (some ⟨(e 6).n, 0, none⟩) 3 3) [xs, b, zeros k]⟩, ⟨some 7, none, fun e => intsR .u8 (.slice (e 7).A 52 (e 7).n) hd⟩] [[], [], [], [2], [2, 3], [2, 3, 4], [0, 1, 2, 3, 4, 5], [0, 1, 2, 3, 4, 5, 6], [0, 1, 2, 3, 4, 5, 6, 7]] [0, 1, 2, 3, 4, 5, 6, 7, 8] rfl (by kernel_rfl) (by kernel_rfl) (by kernel_rfl) (by rfl) (fun _ => rfl) (show St M0 _ (wrR g xs :: intsR .u8 (.slice A n c) b :: L) from h0) ?_
  refine flow_call 37 (fun e => #[.pointer (some ⟨g, 0, none⟩)]) (fun e => .slice (e 0).A xs.length (e 0).n) rfl (fun _ => rfl) (by intro e; rfl) (fun e wx => by (go_simp; try rfl)) (fun e wx Lx h => by (
    have h : St M0 wx (wrR g xs :: intsR .u8 (.slice A n c) b :: Lx) := h
    refine (out_st g xs _ HXL.out (h.front (X := wrR g xs) (by (repeat (first | with_reducible exact At.here | with_reducible apply At.there))))).mono ?_
    rintro u wy ⟨v, rfl, h1⟩
    obtain ⟨A', c', rfl⟩ := h1.slice
    have h2 := St.ints (k := .u8) (xs := xs) h1
    have hk : St M0 wy (wrR g xs :: intsR .u8 (.slice A n c) b :: intsR .u8 (.slice A' xs.length c') xs :: Lx) := h2.sub (by (repeat (first | with_reducible exact Sub.refl _ | (with_reducible apply Sub.take; focus (repeat (first | with_reducible exact At.here | with_reducible apply At.there))) | with_reducible apply Sub.drop)))
    exact ⟨⟨A', c', default⟩, rfl, hk⟩)) ?_
  (simp only [Act.put, List.setIfInBounds_toArray, List.set_cons_succ, List.set_cons_zero])
  refine flow_run _ rfl (fun _ => rfl) (fun e wx Lx h => by (go_simp; try rfl)) (by intro e; rfl) (by intro e; rfl) (by intro e x; rfl) ?_
  (simp only [Act.put, List.setIfInBounds_toArray, List.set_cons_succ, List.set_cons_zero])
  refine flow_run _ rfl (fun _ => rfl) (fun e wx Lx h => by (go_simp; try rfl)) (by intro e; rfl) (by intro e; rfl) (by intro e x; rfl) ?_
  (simp only [Act.put, List.setIfInBounds_toArray, List.set_cons_succ, List.set_cons_zero])
  refine flow_run _ rfl (fun _ => rfl) (fun e wx Lx h => by (go_simp; try rfl)) (by intro e; rfl) (by intro e; rfl) (by intro e x; rfl) ?_
  (simp only [Act.put, List.setIfInBounds_toArray, List.set_cons_succ, List.set_cons_zero])
  refine flow_run (fun e => .int .i64 ((k : Nat) : Int)) rfl (fun _ => rfl) (fun e wx Lx h => by (go_simp; try rfl)) (by intro e; rfl) (by intro e; rfl) (by intro e x; rfl) ?_
  (simp only [Act.put, List.setIfInBounds_toArray, List.set_cons_succ, List.set_cons_zero])
  refine flow_do (fun e => .slice (some ⟨(e 5).n, 0, none⟩) k k) rfl (fun _ => rfl) (by intro e; rfl) (fun e wx Lx h => by (
    have h : St M0 wx (wrR g xs :: intsR .u8 (.slice A n c) b :: Lx) := h
    have h2 := St.ints (k := .u8) (xs := zeros k) (h.litRow 5 1 k (bv (List.replicate k 0)) (by simp) (by omega) wx.heap.size rfl)
    have hk : St M0 _ (wrR g xs :: intsR .u8 (.slice A n c) b :: intsR .u8 (.slice (some ⟨wx.heap.size, 0, none⟩) k k) (zeros k) :: Lx) := h2.sub (by (repeat (first | with_reducible exact Sub.refl _ | (with_reducible apply Sub.take; focus (repeat (first | with_reducible exact At.here | with_reducible apply At.there))) | with_reducible apply Sub.drop)))
    exact ⟨⟨none, wx.heap.size, default⟩, _, exec_makeSlice rfl rfl rfl (make_b k (by omega) _), hk⟩)) ?_
  (simp only [Act.put, List.setIfInBounds_toArray, List.set_cons_succ, List.set_cons_zero])
  refine flow_do (fun e => .slice (some ⟨(e 6).n, 0, none⟩) 3 3) rfl (fun _ => rfl) (by intro e; rfl) (fun e wx Lx h => by (
    have h : St M0 wx (wrR g xs :: intsR .u8 (.slice A n c) b :: intsR .u8 (.slice (e 0).A xs.length (e 0).n) xs :: intsR .u8 (.slice (some ⟨(e 5).n, 0, none⟩) k k) (zeros k) :: Lx) := h
    have h1 := h.copyA (Q := fun w => Ints w .u8 (.slice (some ⟨(e 5).n, 0, none⟩) k k) (zeros k)) (by (repeat (first | with_reducible exact At.here | with_reducible apply At.there)))
    have h2 := h1.copyA (Q := fun w => Ints w .u8 (.slice A n c) b) (by (repeat (first | with_reducible exact At.here | with_reducible apply At.there)))
    have h3 := h2.copyA (Q := fun w => Ints w .u8 (.slice (e 0).A xs.length (e 0).n) xs) (by (repeat (first | with_reducible exact At.here | with_reducible apply At.there)))
    have h4 := St.lit3 34 h3
    have hk : St M0 _ (wrR g xs :: intsR .u8 (.slice A n c) b :: intsR .u8 (.slice (e 0).A xs.length (e 0).n) xs :: intsR .u8 (.slice (some ⟨(e 5).n, 0, none⟩) k k) (zeros k) :: rowsR 1 BytR (.slice (some ⟨wx.heap.size, 0, none⟩) 3 3) [xs, b, zeros k] :: Lx) := h4.sub (by (repeat (first | with_reducible exact Sub.refl _ | (with_reducible apply Sub.take; focus (repeat (first | with_reducible exact At.here | with_reducible apply At.there))) | with_reducible apply Sub.drop)))
    exact ⟨⟨none, wx.heap.size, default⟩, _, exec_buildSlice3 rfl rfl rfl rfl (build3_b _ _ _ _ _ _ _ _ _ _), hk⟩)) ?_
  (simp only [Act.put, List.setIfInBounds_toArray, List.set_cons_succ, List.set_cons_zero])
  refine flow_call 105 (fun e => #[.slice (some ⟨(e 6).n, 0, none⟩) 3 3]) (fun e => .slice (e 7).A 52 (e 7).n) rfl (fun _ => rfl) (by intro e; rfl) (fun e wx => by (go_simp; try rfl)) (fun e wx Lx h => by (
    have h : St M0 wx (wrR g xs :: intsR .u8 (.slice A n c) b :: intsR .u8 (.slice (e 0).A xs.length (e 0).n) xs :: intsR .u8 (.slice (some ⟨(e 5).n, 0, none⟩) k k) (zeros k) :: rowsR 1 BytR (.slice (some ⟨(e 6).n, 0, none⟩) 3 3) [xs, b, zeros k] :: Lx) := h
    refine (concat_st _ [xs, b, zeros k] _ (by rw [HLN.out]; omega) (h.front (X := rowsR 1 BytR (.slice (some ⟨(e 6).n, 0, none⟩) 3 3) [xs, b, zeros k]) (by (repeat (first | with_reducible exact At.here | with_reducible apply At.there))))).mono ?_
    rintro u wy ⟨A', c', rfl, h1⟩
    rw [HLN.out, HFL.out] at h1
    rw [HLN.out]
    have hk : St M0 wy (wrR g xs :: intsR .u8 (.slice A n c) b :: intsR .u8 (.slice (e 0).A xs.length (e 0).n) xs :: intsR .u8 (.slice (some ⟨(e 5).n, 0, none⟩) k k) (zeros k) :: intsR .u8 (.slice A' 52 c') hd :: Lx) := h1.sub (by (repeat (first | with_reducible exact Sub.refl _ | (with_reducible apply Sub.take; focus (repeat (first | with_reducible exact At.here | with_reducible apply At.there))) | with_reducible apply Sub.drop)))
    exact ⟨⟨A', c', default⟩, rfl, hk⟩)) ?_
  (simp only [Act.put, List.setIfInBounds_toArray, List.set_cons_succ, List.set_cons_zero])
  refine flow_run _ rfl (fun _ => rfl) (fun e wx Lx h => by (go_simp; try rfl)) (by intro e; rfl) (by intro e; rfl) (by intro e x; rfl) ?_
  (simp only [Act.put, List.setIfInBounds_toArray, List.set_cons_succ, List.set_cons_zero])
  refine flow_nil ?_
  intro e w1 h
  have h : St M0 w1 (wrR g xs :: intsR .u8 (.slice A n c) b :: intsR .u8 (.slice (e 0).A xs.length (e 0).n) xs :: intsR .u8 (.slice (some ⟨(e 5).n, 0, none⟩) k k) (zeros k) :: intsR .u8 (.slice (e 7).A 52 (e 7).n) hd :: L) := h
  obtain ⟨A7, hA7⟩ : ∃ A7, (e 7).A = A7 := ⟨_, rfl⟩
  obtain ⟨c7, hc7⟩ : ∃ c7, (e 7).n = c7 := ⟨_, rfl⟩
  rw [hA7, hc7] at h
  have H3 := hide (h.sub (L' := intsR .u8 (.slice A7 52 c7) hd :: intsR .u8 (.slice A n c) b :: L) (by (repeat (first | with_reducible exact Sub.refl _ | (with_reducible apply Sub.take; focus (repeat (first | with_reducible exact At.here | with_reducible apply At.there))) | with_reducible apply Sub.drop))))
  clear h h0
  go_wp2_with fail
  rw [hA7, hc7]
  clear hA7 hc7
  have h1 := H3.out.newWr
  generalize hg2 : w1.heap.size = g2 at h1 ⊢
  have H4 := hide h1
  clear h1 H3 hg2
  refine (sum_st hT _ hd _ HHB.out (H4.out.get 1 rfl) H4.out).mono ?_
  rintro u w2 ⟨rfl, h⟩
  have H5 := hide h
  clear h H4
  obtain ⟨s, hs⟩ : ∃ s, s = sumM hd := ⟨_, rfl⟩
  have hsr := sumM_range hd
  rw [← hs] at hsr ⊢
  have HS := hide hs
  have ws := u32_u64 hsr
  clear hs
  go_wp2_with fail
  refine (num_st g2 s 4 [] _ (by simp) H5.out).mono ?_
  rintro u w3 ⟨rfl, h⟩
  rw [numI4, List.nil_append] at h
  have H6 := hide h
  clear h H5
  go_wp2_with fail
  refine (ends_st g2 q e0 _ _ HQ.out HE.out (by rw [numB_length]; omega) H6.out).mono ?_
  rintro u w4 ⟨rfl, h⟩
  obtain ⟨tl, htl⟩ : ∃ tl, tl = numB s 4 ++ numB q 4 ++ numB e0 4 := ⟨_, rfl⟩
  rw [← htl] at h
  have HTL := hide (show tl.length = 12 by rw [htl]; simp only [List.length_append, numB_length])
  have HTE := hide htl
  have H7 := hide h
  clear h H6 htl
  go_wp2_with fail
  refine (out_st g2 tl _ (by have := HTL.out; omega) H7.out).mono ?_
  rintro u w5 ⟨v, rfl, h⟩
  obtain ⟨A8, c8, rfl⟩ := h.slice
  rw [HTL.out] at h ⊢
  have h8 := St.ints (k := .u8) (xs := tl) h
  have H8 := hide (h8.sub (L' := intsR .u8 (.slice A7 52 c7) hd :: intsR .u8 (.slice A8 12 c8) tl :: intsR .u8 (.slice A n c) b :: L) (by (repeat (first | with_reducible exact Sub.refl _ | (with_reducible apply Sub.take; focus (repeat (first | with_reducible exact At.here | with_reducible apply At.there))) | with_reducible apply Sub.drop))))
  clear h h8 H7
  go_wp2_with fail
  have HLN2 := hide (show lens [hd, tl] = 64 by
    unfold lens
    simp only [List.map_cons, List.map_nil, List.sum_cons, List.sum_nil, HHL.out, HTL.out]
    rfl)
  refine (concat_st _ [hd, tl] _ (by rw [HLN2.out]; omega) (H8.out.lit2 34)).mono ?_
  rintro u w6 ⟨A9, c9, rfl, h⟩
  rw [HLN2.out, show [hd, tl].flatten = stampM q e0 b by rw [HST.out, ← HS.out, ← HTE.out]; simp] at h
  rw [HLN2.out]
  have H9 := hide h
  clear h H8
  go_wp2_with fail
  go_ret2
  exact ⟨_, _, rfl, H9.out⟩
end Go.Proofs.YtpaelngpmbeedaaGreatDoor
