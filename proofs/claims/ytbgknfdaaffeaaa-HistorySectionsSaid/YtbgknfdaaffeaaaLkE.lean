/- Locks: holds and wants: what the library's functions do with slices of them. Printed by gen_lke.py. -/
import Derived.Test.YtbgknfdaaffeaaaRowF
import Derived.Test.YtbgknfdaaffeaaaIdxL
import Derived.Test.YtbgknfdaaffeaaaLkM
import Derived.Test.YtbgknfdaaffeaaaRows
import Derived.Shelf.Abstract
import Derived.Lib.Slices
namespace Go.Proofs.Ytbgknfdaaffeaaa
open Go.RowKit Go.Shelf

theorem cells2F {w : World} {p : Addr} {a b : Value} (h : ∀ j u, [a, b][j]? = some u → w.cell? (p.add j) = some u) : w.cell? p = some a ∧ w.cell? ⟨p.block, p.off + 1, none⟩ = some b :=
  ⟨by simpa [Addr.add] using h 0 a rfl, by simpa [Addr.add] using h 1 b rfl⟩
theorem cells4F {w : World} {p : Addr} {a b c d : Value} (h : ∀ j u, [a, b, c, d][j]? = some u → w.cell? (p.add j) = some u) : w.cell? p = some a ∧ w.cell? ⟨p.block, p.off + 1, none⟩ = some b ∧ w.cell? ⟨p.block, p.off + 2, none⟩ = some c ∧ w.cell? ⟨p.block, p.off + 3, none⟩ = some d :=
  ⟨by simpa [Addr.add] using h 0 a rfl, by simpa [Addr.add] using h 1 b rfl, by simpa [Addr.add] using h 2 c rfl, by simpa [Addr.add] using h 3 d rfl⟩
theorem del_flat {α : Type} {C : α → List Value} {size : Nat} (hC : ∀ x, (C x).length = size) (l : List α) (ys : List Value) (i j q : Nat) (hj : j = i + 1) (hi : i < l.length) (hq : q + 1 = l.length) :
    (splice (splice (l.flatMap C) (i * size) ((l.flatMap C).drop (j * size))) (q * size) ys).take (q * size) = (l.eraseIdx i).flatMap C := by
  have hz := flatC_sized hC l
  have f1 : (l.flatMap C).take (i * size) = (l.take i).flatMap C := by
    rw [← flatC_Z, ← flatC_Z, List.map_take]
    exact flatZ_take _ hz i (by simp; omega)
  have f2 : (l.flatMap C).drop (j * size) = (l.drop j).flatMap C := by
    rw [← flatC_Z, ← flatC_Z, List.map_drop]
    exact flatZ_drop _ hz j (by simp; omega)
  have f3 : ((l.take i).flatMap C ++ (l.drop j).flatMap C).length = q * size := by
    rw [← List.flatMap_append, flatC_len hC, List.length_append, List.length_take, List.length_drop]
    congr 1
    omega
  unfold splice
  rw [f1, f2, List.take_left' f3, List.append_assoc, List.take_left' f3, ← List.flatMap_append, hj, List.eraseIdx_eq_take_drop_succ]
abbrev holdC (x : HoldM) : List Value := [.int .i64 x.c, .int .i64 x.m, .int .u64 x.t, .int .u64 x.u]
theorem holdC_len (x : HoldM) : (holdC x).length = 4 := rfl
theorem hold_elem : ElemOf Try.prog 73 91 (.agg #[.int .i64 0, .int .i64 0, .int .u64 0, .int .u64 0]) 4 32 := ⟨Try.underlying73, by kernel_rfl, by kernel_rfl, by omega⟩
theorem hold_zero (w : World) : (zeroValue 91).run Try.prog w = .ok (.agg #[.int .i64 0, .int .i64 0, .int .u64 0, .int .u64 0]) w := by
  obtain ⟨i0, hi0, hz, _, _⟩ := info_parts hold_elem.hinfo
  simp [zeroValue, typeInfo, hi0, hz]
theorem hold_build (w : World) (a b c d : Int) : (Instr.buildSlice 73 1 #[(0, .agg #[.int .i64 a, .int .i64 b, .int .u64 c, .int .u64 d])]).run Try.prog w = .ok (.slice (some ⟨w.heap.size, 0, none⟩) 1 1) (w.alloc (.cells #[.int .i64 a, .int .i64 b, .int .u64 c, .int .u64 d] 91)) := by kernel_rfl
theorem hold_empty (w : World) : (Instr.buildSlice 73 0 #[]).run Try.prog w = .ok (.slice (some ⟨w.heap.size, 0, none⟩) 0 0) (w.alloc (.cells #[] 91)) := by kernel_rfl
theorem hold_one (x : HoldM) : ∀ u ∈ holdC x, u.oneCell' = true := by
  intro u hu
  simp only [holdC, List.mem_cons, List.not_mem_nil, or_false] at hu
  rcases hu with rfl | rfl | rfl | rfl <;> rfl
theorem hold_store (w : World) (b o : Nat) (x : HoldM) (ht : w.there b o 4) : (Instr.storeAt 91 (.pointer (some ⟨b, o, none⟩)) (.agg #[.int .i64 x.c, .int .i64 x.m, .int .u64 x.t, .int .u64 x.u])).run Try.prog w = .ok () (w.setCells b o (holdC x)) := by
  have hst := run_storeCells_cells (P := Try.prog) b o (holdC x) 0 w (fun k hk => by rw [Nat.add_zero]; exact (ht k hk).1) (fun k hk => by rw [Nat.add_zero]; exact (ht k hk).2) (hold_one x)
  simp only [Nat.add_zero] at hst
  obtain ⟨i0, hi0, _, hsz, _⟩ := info_parts hold_elem.hinfo
  simp [Instr.storeAt, Instr.sureAddr, storeVar, sizeOf, typeInfo, hi0, hsz, Value.cells]
  exact hst
abbrev wantC (x : WantM) : List Value := [.int .i64 x.c, .int .i64 x.m]
theorem wantC_len (x : WantM) : (wantC x).length = 2 := rfl
theorem want_elem : ElemOf Try.prog 74 87 (.agg #[.int .i64 0, .int .i64 0]) 2 16 := ⟨Try.underlying74, by kernel_rfl, by kernel_rfl, by omega⟩
theorem want_zero (w : World) : (zeroValue 87).run Try.prog w = .ok (.agg #[.int .i64 0, .int .i64 0]) w := by
  obtain ⟨i0, hi0, hz, _, _⟩ := info_parts want_elem.hinfo
  simp [zeroValue, typeInfo, hi0, hz]
theorem want_build (w : World) (a b : Int) : (Instr.buildSlice 74 1 #[(0, .agg #[.int .i64 a, .int .i64 b])]).run Try.prog w = .ok (.slice (some ⟨w.heap.size, 0, none⟩) 1 1) (w.alloc (.cells #[.int .i64 a, .int .i64 b] 87)) := by kernel_rfl
theorem want_empty (w : World) : (Instr.buildSlice 74 0 #[]).run Try.prog w = .ok (.slice (some ⟨w.heap.size, 0, none⟩) 0 0) (w.alloc (.cells #[] 87)) := by kernel_rfl
theorem want_one (x : WantM) : ∀ u ∈ wantC x, u.oneCell' = true := by
  intro u hu
  simp only [wantC, List.mem_cons, List.not_mem_nil, or_false] at hu
  rcases hu with rfl | rfl <;> rfl
theorem want_store (w : World) (b o : Nat) (x : WantM) (ht : w.there b o 2) : (Instr.storeAt 87 (.pointer (some ⟨b, o, none⟩)) (.agg #[.int .i64 x.c, .int .i64 x.m])).run Try.prog w = .ok () (w.setCells b o (wantC x)) := by
  have hst := run_storeCells_cells (P := Try.prog) b o (wantC x) 0 w (fun k hk => by rw [Nat.add_zero]; exact (ht k hk).1) (fun k hk => by rw [Nat.add_zero]; exact (ht k hk).2) (want_one x)
  simp only [Nat.add_zero] at hst
  obtain ⟨i0, hi0, _, hsz, _⟩ := info_parts want_elem.hinfo
  simp [Instr.storeAt, Instr.sureAddr, storeVar, sizeOf, typeInfo, hi0, hsz, Value.cells]
  exact hst
set_option maxHeartbeats 1000000 in
set_option maxRecDepth 100000 in
theorem holdIdx_st {M0 : Imm} {L : List Res} (f : FuncId) (caps : Array Value) (p : HoldM → Bool) (l : List HoldM) (A : Option Addr) (n c : Nat) (w : World)
    (hC : ∀ (args : Array Value) (W : World), Sem.run Try.prog (callFunc f args) W = .ok (.enter f args) W)
    (hV : ∀ W, St M0 W L → FlatP holdC 4 W (.slice A n c) l)
    (hF : ∀ (x : HoldM) (W : World), x ∈ l → St M0 W L → Calls Try.prog f (#[.agg (holdC x).toArray] ++ caps) W fun e W' => e = .returned (.bool (p x)) ∧ St M0 W' L)
    (h : St M0 w L) :
    Calls Try.prog 145 #[.slice A n c, .func (.func f) #[] caps] w fun e w' => e = .returned (.int .i64 (idxL p 0 l)) ∧ St M0 w' L := by
  obtain ⟨e2, hnc, hcm, _⟩ := (hV w h).sl
  have HN := hide e2
  have HV := hide hV
  have H := hide h
  have HF := hide hF
  have HC := hide hC
  have hI := hide (show idxL p 0 l = idxL p 0 (l.drop 0) from rfl)
  clear h e2 hF hC hV
  go_enter Try.func145, Try.ntmps145
  go_wp2_with fail
  go_loopg [8] n (fun gh i wr => ∃ (k : Nat), gh = n - k ∧ k ≤ n ∧ i = .int .i64 (k : Nat) ∧ idxL p 0 l = idxL p k (l.drop k) ∧ St M0 wr L)
  case atStart => exact ⟨0, rfl, by omega, rfl, hI.out, H.out⟩
  case round =>
    clear H hI
    obtain ⟨k, hg, hk, rfl, hi, h⟩ := hrel
    have HG := hide hg
    clear hg
    by_cases hlt : k < n
    · have hx := List.getElem?_eq_getElem (l := l) (i := k) (by rw [← HN.out]; exact hlt)
      have hdr := List.drop_eq_getElem_cons (l := l) (i := k) (by rw [← HN.out]; exact hlt)
      generalize l[k]'(by rw [← HN.out]; exact hlt) = x at hx hdr
      have hs : idxL p k (l.drop k) = if p x = true then (k : Int) else idxL p (k + 1) (l.drop (k + 1)) := by rw [hdr]; rfl
      have HM := hide (List.mem_of_getElem? hx)
      obtain ⟨ad, rfl, hcs⟩ := (HV.out _ h).at_ holdC_len hx
      obtain ⟨e0, e1, e2, e3⟩ := cells4F hcs
      have HI := hide (hi.trans hs)
      have H1 := hide h
      clear hx h hcs hdr hs hi
      have i0 : (0 : Int) ≤ (k : Int) := by omega
      have i1 : (k : Int) < (n : Int) := by omega
      go_wp2_with fail
      rw [HC.out, Oper.upon_enter]
      refine (HF.out x _ HM.out H1.out).mono ?_
      rintro e w2 ⟨rfl, hf⟩
      have H2 := hide hf
      clear H1 hf e0 e1 e2 e3
      cases hp : p x with
      | true =>
        have E := hide (HI.out.trans (if_pos hp))
        go_wp2_with fail
        go_ret
        exact ⟨by rw [E.out]; try rfl, H2.out⟩
      | false =>
        have E := hide (HI.out.trans (if_neg (by rw [hp]; exact Bool.false_ne_true)))
        go_wp2_with fail
        go_roundg (n - (k + 1))
        case measure => have := HG.out; omega
        case rel => exact ⟨k + 1, rfl, by omega, by go_num, E.out, H2.out⟩
    · obtain rfl : k = n := by omega
      have E := hide (hi.trans (show idxL p k (l.drop k) = -1 by rw [List.drop_of_length_le (by rw [← HN.out]; exact Nat.le_refl _)]; rfl))
      have H := hide h
      clear h hi
      go_wp2_with fail
      go_ret
      exact ⟨by rw [E.out]; try rfl, H.out⟩
set_option maxHeartbeats 1000000 in
set_option maxRecDepth 100000 in
theorem wantIdx_st {M0 : Imm} {L : List Res} (f : FuncId) (caps : Array Value) (p : WantM → Bool) (l : List WantM) (A : Option Addr) (n c : Nat) (w : World)
    (hC : ∀ (args : Array Value) (W : World), Sem.run Try.prog (callFunc f args) W = .ok (.enter f args) W)
    (hV : ∀ W, St M0 W L → FlatP wantC 2 W (.slice A n c) l)
    (hF : ∀ (x : WantM) (W : World), x ∈ l → St M0 W L → Calls Try.prog f (#[.agg (wantC x).toArray] ++ caps) W fun e W' => e = .returned (.bool (p x)) ∧ St M0 W' L)
    (h : St M0 w L) :
    Calls Try.prog 159 #[.slice A n c, .func (.func f) #[] caps] w fun e w' => e = .returned (.int .i64 (idxL p 0 l)) ∧ St M0 w' L := by
  obtain ⟨e2, hnc, hcm, _⟩ := (hV w h).sl
  have HN := hide e2
  have HV := hide hV
  have H := hide h
  have HF := hide hF
  have HC := hide hC
  have hI := hide (show idxL p 0 l = idxL p 0 (l.drop 0) from rfl)
  clear h e2 hF hC hV
  go_enter Try.func159, Try.ntmps159
  go_wp2_with fail
  go_loopg [8] n (fun gh i wr => ∃ (k : Nat), gh = n - k ∧ k ≤ n ∧ i = .int .i64 (k : Nat) ∧ idxL p 0 l = idxL p k (l.drop k) ∧ St M0 wr L)
  case atStart => exact ⟨0, rfl, by omega, rfl, hI.out, H.out⟩
  case round =>
    clear H hI
    obtain ⟨k, hg, hk, rfl, hi, h⟩ := hrel
    have HG := hide hg
    clear hg
    by_cases hlt : k < n
    · have hx := List.getElem?_eq_getElem (l := l) (i := k) (by rw [← HN.out]; exact hlt)
      have hdr := List.drop_eq_getElem_cons (l := l) (i := k) (by rw [← HN.out]; exact hlt)
      generalize l[k]'(by rw [← HN.out]; exact hlt) = x at hx hdr
      have hs : idxL p k (l.drop k) = if p x = true then (k : Int) else idxL p (k + 1) (l.drop (k + 1)) := by rw [hdr]; rfl
      have HM := hide (List.mem_of_getElem? hx)
      obtain ⟨ad, rfl, hcs⟩ := (HV.out _ h).at_ wantC_len hx
      obtain ⟨e0, e1⟩ := cells2F hcs
      have HI := hide (hi.trans hs)
      have H1 := hide h
      clear hx h hcs hdr hs hi
      have i0 : (0 : Int) ≤ (k : Int) := by omega
      have i1 : (k : Int) < (n : Int) := by omega
      go_wp2_with fail
      rw [HC.out, Oper.upon_enter]
      refine (HF.out x _ HM.out H1.out).mono ?_
      rintro e w2 ⟨rfl, hf⟩
      have H2 := hide hf
      clear H1 hf e0 e1
      cases hp : p x with
      | true =>
        have E := hide (HI.out.trans (if_pos hp))
        go_wp2_with fail
        go_ret
        exact ⟨by rw [E.out]; try rfl, H2.out⟩
      | false =>
        have E := hide (HI.out.trans (if_neg (by rw [hp]; exact Bool.false_ne_true)))
        go_wp2_with fail
        go_roundg (n - (k + 1))
        case measure => have := HG.out; omega
        case rel => exact ⟨k + 1, rfl, by omega, by go_num, E.out, H2.out⟩
    · obtain rfl : k = n := by omega
      have E := hide (hi.trans (show idxL p k (l.drop k) = -1 by rw [List.drop_of_length_le (by rw [← HN.out]; exact Nat.le_refl _)]; rfl))
      have H := hide h
      clear h hi
      go_wp2_with fail
      go_ret
      exact ⟨by rw [E.out]; try rfl, H.out⟩
theorem holdCon_st {M0 : Imm} {L : List Res} (f : FuncId) (caps : Array Value) (p : HoldM → Bool) (l : List HoldM) (A : Option Addr) (n c : Nat) (w : World)
    (hC : ∀ (args : Array Value) (W : World), Sem.run Try.prog (callFunc f args) W = .ok (.enter f args) W)
    (hV : ∀ W, St M0 W L → FlatP holdC 4 W (.slice A n c) l)
    (hF : ∀ (x : HoldM) (W : World), x ∈ l → St M0 W L → Calls Try.prog f (#[.agg (holdC x).toArray] ++ caps) W fun e W' => e = .returned (.bool (p x)) ∧ St M0 W' L)
    (h : St M0 w L) :
    Calls Try.prog 162 #[.slice A n c, .func (.func f) #[] caps] w fun e w' => e = .returned (.bool (l.any p)) ∧ St M0 w' L := by
  have HI := hide (holdIdx_st f caps p l A n c w hC hV hF h)
  have HA := hide (idxL_any p l)
  clear hC hF h hV
  generalize idxL p 0 l = z at *
  go_enter Try.func162, Try.ntmps162
  go_wp2_with fail
  refine HI.out.mono ?_
  rintro e w2 ⟨rfl, h⟩
  have H := hide h
  clear h HI
  go_wp2_with fail
  go_ret
  exact ⟨by rw [← HA.out]; try rfl, H.out⟩
set_option maxHeartbeats 1000000 in
set_option maxRecDepth 100000 in
theorem holdDel_st {M0 : Imm} {L : List Res} (l : List HoldM) (A : Option Addr) (n c i j : Nat) (w : World) (hj : j = i + 1) (hi : i < l.length) (h : St M0 w (ownR holdC 91 4 (.slice A n c) l :: L)) :
    Calls Try.prog 101 #[.slice A n c, .int .i64 i, .int .i64 j] w fun e w' => ∃ q, q + 1 = n ∧ e = .returned (.slice A q c) ∧ St M0 w' (ownR holdC 91 4 (.slice A q c) (l.eraseIdx i) :: L) := by
  obtain ⟨hn, hc, hm, _⟩ := (h.flatO At.here).sl
  have h1 := h.ownOpen.2
  obtain ⟨b, rfl⟩ := own_form (h1.row 0 rfl) (by omega)
  have H1 := hide h1
  have HN := hide hn
  have hi' : i < n := by omega
  have i0 : (0 : Int) ≤ (i : Int) := by omega
  have i1 : (i : Int) ≤ (j : Int) := by omega
  have i2 : (j : Int) ≤ (n : Int) := by omega
  have i3 : (n : Int) ≤ (c : Int) := by omega
  have i4 : (0 : Int) ≤ (j : Int) := by omega
  have i5 : (0 : Int) ≤ (n : Int) := by omega
  have i6 : (j : Int) ≤ (c : Int) := by omega
  have i7 : (i : Int) ≤ (c : Int) := by omega
  have bne : ((i : Int) == (j : Int)) = false := isF (by omega)
  have HJ := hide hj
  clear h h1 hn hi hc hj
  go_enter Try.func101, Try.ntmps101
  go_wp2_with fail
  refine region_tail 6 (by kernel_rfl) (by kernel_rfl) (fun W hW => ?_)
  have HW := hide (H1.out.drew)
  rw [← hW] at HW
  clear hW H1
  simp only [List.take_succ_cons, List.take_zero, List.drop_succ_cons, List.drop_zero]
  repeat still_step
  try refine wpStill_nil ?_
  obtain ⟨a, ha, hb⟩ : ∃ a : Addr, (if c = j then some (⟨b, 0, none⟩ : Addr) else some ⟨b, j * 4, none⟩) = some a ∧ (j < n → a = ⟨b, j * 4, none⟩) := by
    by_cases hcj : c = j
    · exact ⟨_, if_pos hcj, fun h => by omega⟩
    · exact ⟨_, if_neg hcj, fun _ => rfl⟩
  rw [ha]
  obtain ⟨w2, hr, h2⟩ := St.run_shift hold_elem HW.out i j (c - j) a hb (by omega) (by omega) (flatC_one hold_one l)
  obtain ⟨q, hq⟩ : ∃ q, q = i + (n - j) := ⟨_, rfl⟩
  have hqn : q + 1 = n := by rw [hq]; have := HJ.out; omega
  rw [← hq] at hr
  refine at_append 73 rfl rfl rfl rfl hr ?_
  clear hr ha hb
  have H2 := hide h2
  have HQ := hide hq
  have HQN := hide hqn
  have q0 : (0 : Int) ≤ (q : Int) := by omega
  have q1 : (q : Int) ≤ (n : Int) := by omega
  have q2 : (q : Int) ≤ (c : Int) := by omega
  have q3 : ¬ c = q := by omega
  obtain ⟨w3, ys, hr3, hy, h3⟩ := St.run_clear hold_elem hold_zero (by decide) H2.out q n (c - q) ⟨b, q * 4, none⟩ (fun _ => rfl) (by omega) (by omega)
  have hc := hr3 0
  have H3 := hide h3
  clear h2 HW hq hqn hr3 hy H2 h3
  simp only [Act.put]
  go_wp2_with fail
  go_ret
  refine ⟨q, HQN.out, rfl, ?_⟩
  have h4 := H3.out.rowLess (m := q) (by have := HQN.out; omega)
  have hlen : (l.eraseIdx i).length = q := by
    have hn := HN.out
    have hq := HQN.out
    rw [List.length_eraseIdx, if_pos (by omega)]
    omega
  rw [del_flat holdC_len l ys i j q HJ.out (by have := HN.out; omega) (by have := HQN.out; have := HN.out; omega)] at h4
  exact h4.ownClose hlen.symm
set_option maxHeartbeats 1000000 in
set_option maxRecDepth 100000 in
theorem wantDel_st {M0 : Imm} {L : List Res} (l : List WantM) (A : Option Addr) (n c i j : Nat) (w : World) (hj : j = i + 1) (hi : i < l.length) (h : St M0 w (ownR wantC 87 2 (.slice A n c) l :: L)) :
    Calls Try.prog 129 #[.slice A n c, .int .i64 i, .int .i64 j] w fun e w' => ∃ q, q + 1 = n ∧ e = .returned (.slice A q c) ∧ St M0 w' (ownR wantC 87 2 (.slice A q c) (l.eraseIdx i) :: L) := by
  obtain ⟨hn, hc, hm, _⟩ := (h.flatO At.here).sl
  have h1 := h.ownOpen.2
  obtain ⟨b, rfl⟩ := own_form (h1.row 0 rfl) (by omega)
  have H1 := hide h1
  have HN := hide hn
  have hi' : i < n := by omega
  have i0 : (0 : Int) ≤ (i : Int) := by omega
  have i1 : (i : Int) ≤ (j : Int) := by omega
  have i2 : (j : Int) ≤ (n : Int) := by omega
  have i3 : (n : Int) ≤ (c : Int) := by omega
  have i4 : (0 : Int) ≤ (j : Int) := by omega
  have i5 : (0 : Int) ≤ (n : Int) := by omega
  have i6 : (j : Int) ≤ (c : Int) := by omega
  have i7 : (i : Int) ≤ (c : Int) := by omega
  have bne : ((i : Int) == (j : Int)) = false := isF (by omega)
  have HJ := hide hj
  clear h h1 hn hi hc hj
  go_enter Try.func129, Try.ntmps129
  go_wp2_with fail
  refine region_tail 6 (by kernel_rfl) (by kernel_rfl) (fun W hW => ?_)
  have HW := hide (H1.out.drew)
  rw [← hW] at HW
  clear hW H1
  simp only [List.take_succ_cons, List.take_zero, List.drop_succ_cons, List.drop_zero]
  repeat still_step
  try refine wpStill_nil ?_
  obtain ⟨a, ha, hb⟩ : ∃ a : Addr, (if c = j then some (⟨b, 0, none⟩ : Addr) else some ⟨b, j * 2, none⟩) = some a ∧ (j < n → a = ⟨b, j * 2, none⟩) := by
    by_cases hcj : c = j
    · exact ⟨_, if_pos hcj, fun h => by omega⟩
    · exact ⟨_, if_neg hcj, fun _ => rfl⟩
  rw [ha]
  obtain ⟨w2, hr, h2⟩ := St.run_shift want_elem HW.out i j (c - j) a hb (by omega) (by omega) (flatC_one want_one l)
  obtain ⟨q, hq⟩ : ∃ q, q = i + (n - j) := ⟨_, rfl⟩
  have hqn : q + 1 = n := by rw [hq]; have := HJ.out; omega
  rw [← hq] at hr
  refine at_append 74 rfl rfl rfl rfl hr ?_
  clear hr ha hb
  have H2 := hide h2
  have HQ := hide hq
  have HQN := hide hqn
  have q0 : (0 : Int) ≤ (q : Int) := by omega
  have q1 : (q : Int) ≤ (n : Int) := by omega
  have q2 : (q : Int) ≤ (c : Int) := by omega
  have q3 : ¬ c = q := by omega
  obtain ⟨w3, ys, hr3, hy, h3⟩ := St.run_clear want_elem want_zero (by decide) H2.out q n (c - q) ⟨b, q * 2, none⟩ (fun _ => rfl) (by omega) (by omega)
  have hc := hr3 0
  have H3 := hide h3
  clear h2 HW hq hqn hr3 hy H2 h3
  simp only [Act.put]
  go_wp2_with fail
  go_ret
  refine ⟨q, HQN.out, rfl, ?_⟩
  have h4 := H3.out.rowLess (m := q) (by have := HQN.out; omega)
  have hlen : (l.eraseIdx i).length = q := by
    have hn := HN.out
    have hq := HQN.out
    rw [List.length_eraseIdx, if_pos (by omega)]
    omega
  rw [del_flat wantC_len l ys i j q HJ.out (by have := HN.out; omega) (by have := HQN.out; have := HN.out; omega)] at h4
  exact h4.ownClose hlen.symm
set_option maxHeartbeats 400000 in
theorem holdClone_st {M0 : Imm} {L : List Res} (A : Option Addr) (n c : Nat) (l : List HoldM) (w : World) (hV : ∀ W, St M0 W L → FlatP holdC 4 W (.slice A n c) l) (hb : n * 32 ≤ 140737488355328) (h : St M0 w L) :
    Calls Try.prog 90 #[.slice A n c] w fun e w' => ∃ v, e = .returned v ∧ St M0 w' (ownR holdC 91 4 v l :: L) := by
  obtain ⟨hn, hc, hm, hs⟩ := (hV w h).sl
  have HN := hide hn
  rcases A with _ | a
  · have hm : n = 0 := by
      rcases Nat.eq_zero_or_pos n with h0 | h0
      · exact h0
      · obtain ⟨ad, h, _⟩ := hs.2 h0
        cases h
    subst hm
    have hx : l = [] := List.eq_nil_of_length_eq_zero hn.symm
    subst hx
    have hnil := fun w => Lib.run_eql_slice_nil (P := Try.prog) w 73 91 none 0 c 0 0 Try.underlying73
    have H := hide h
    clear hs h hn hV
    go_enter Try.func90, Try.ntmps90
    go_wp2
    go_ret
    exact ⟨_, rfl, H.out.ownNil _ _ _⟩
  · have hnil := fun w => Lib.run_eql_slice_nil (P := Try.prog) w 73 91 (some a) n c 0 0 Try.underlying73
    have hemp := hold_empty
    have H := hide (h.litRow 91 4 0 [] rfl (by omega) w.heap.size rfl)
    have HS := hide ((hs.non ((Fr.refl Non w).alloc (.cells #[] 91))))
    clear hs h hn hV
    go_enter Try.func90, Try.ntmps90
    go_wp2_with (at_builtin; refine St.app_step hold_elem H.out rfl _ _ rfl rfl (some a) n c rfl (l.flatMap holdC) HS.out (flatC_one hold_one l) (by omega) (by omega) ?_; intro A' c' w1 h1)
    go_ret
    refine ⟨_, rfl, ?_⟩
    rw [Nat.zero_add, List.nil_append] at h1
    exact h1.ownClose HN.out
set_option maxHeartbeats 400000 in
theorem wantClone_st {M0 : Imm} {L : List Res} (A : Option Addr) (n c : Nat) (l : List WantM) (w : World) (hV : ∀ W, St M0 W L → FlatP wantC 2 W (.slice A n c) l) (hb : n * 16 ≤ 140737488355328) (h : St M0 w L) :
    Calls Try.prog 89 #[.slice A n c] w fun e w' => ∃ v, e = .returned v ∧ St M0 w' (ownR wantC 87 2 v l :: L) := by
  obtain ⟨hn, hc, hm, hs⟩ := (hV w h).sl
  have HN := hide hn
  rcases A with _ | a
  · have hm : n = 0 := by
      rcases Nat.eq_zero_or_pos n with h0 | h0
      · exact h0
      · obtain ⟨ad, h, _⟩ := hs.2 h0
        cases h
    subst hm
    have hx : l = [] := List.eq_nil_of_length_eq_zero hn.symm
    subst hx
    have hnil := fun w => Lib.run_eql_slice_nil (P := Try.prog) w 74 87 none 0 c 0 0 Try.underlying74
    have H := hide h
    clear hs h hn hV
    go_enter Try.func89, Try.ntmps89
    go_wp2
    go_ret
    exact ⟨_, rfl, H.out.ownNil _ _ _⟩
  · have hnil := fun w => Lib.run_eql_slice_nil (P := Try.prog) w 74 87 (some a) n c 0 0 Try.underlying74
    have hemp := want_empty
    have H := hide (h.litRow 87 2 0 [] rfl (by omega) w.heap.size rfl)
    have HS := hide ((hs.non ((Fr.refl Non w).alloc (.cells #[] 87))))
    clear hs h hn hV
    go_enter Try.func89, Try.ntmps89
    go_wp2_with (at_builtin; refine St.app_step want_elem H.out rfl _ _ rfl rfl (some a) n c rfl (l.flatMap wantC) HS.out (flatC_one want_one l) (by omega) (by omega) ?_; intro A' c' w1 h1)
    go_ret
    refine ⟨_, rfl, ?_⟩
    rw [Nat.zero_add, List.nil_append] at h1
    exact h1.ownClose HN.out
end Go.Proofs.Ytbgknfdaaffeaaa
