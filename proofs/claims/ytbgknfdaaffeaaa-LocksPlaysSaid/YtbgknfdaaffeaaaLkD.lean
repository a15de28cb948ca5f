/- Locks: the statements' token and done. Printed by gen_lkd.py. -/
import Derived.Test.YtbgknfdaaffeaaaLkK
namespace Go.Proofs.Ytbgknfdaaffeaaa
open Go.RowKit Go.Shelf

structure OpL where
  d : Int
  c : Int
  r : Int
  m : Int
  n : Int
  o : Bool
abbrev opC (o : OpL) : List Value := [.int .i64 o.d, .int .i64 o.c, .int .i64 o.r, .int .i64 o.m, .int .u64 o.n, .bool o.o]
theorem opC_len (o : OpL) : (opC o).length = 6 := rfl
def tokenM (o : OpL) (hs : List HoldM) : Int := if o.o = true then (match findH hs o.c with
  | some h => h.t
  | none => o.n) else o.n
def doneM (T : TabM) (o : OpL) : TabM :=
  if o.d = 1 then (T.acquire o.c o.r o.m).1 else if o.d = 2 then (T.release o.c o.r (tokenM o (T.holders o.r))).1 else if o.d = 3 then (T.renew o.c o.r (tokenM o (T.holders o.r))).1 else if o.d = 4 then (T.cancel o.c o.r).1 else if o.d = 5 then T.time o.n else T
theorem TabOk.done {T : TabM} (h : TabOk T) (o : OpL) (hn : o.n ≤ 18446744073709551615) : TabOk (doneM T o) := by
  unfold doneM
  split
  · exact h.acquire _ _ _
  · split
    · exact h.release _ _ _
    · split
      · exact h.renew _ _ _
      · split
        · exact h.cancel _ _
        · split
          · exact h.time hn
          · exact h
theorem St.tail2 {M0 : Imm} {w : World} {X Y : Res} {L : List Res} (h : St M0 w (X :: Y :: L)) : St M0 w (X :: L) := h.swap.tail
set_option maxHeartbeats 2000000 in
set_option maxRecDepth 100000 in
theorem token_st {M0 : Imm} {L : List Res} (o : OpL) (A : Option Addr) (n c : Nat) (l : List HoldM) (w : World) (hV : ∀ W, St M0 W L → FlatP holdC 4 W (.slice A n c) l) (h : St M0 w L) :
    Calls Try.prog 61 #[.agg #[.int .i64 o.d, .int .i64 o.c, .int .i64 o.r, .int .i64 o.m, .int .u64 o.n, .bool o.o], .slice A n c] w fun e w' => e = .returned (.int .u64 (tokenM o l)) ∧ St M0 w' L := by
  obtain ⟨hn, hnc, hcm, _⟩ := (hV w h).sl
  have h1 := h.alloc 84 #[.int .i64 o.d, .int .i64 o.c, .int .i64 o.r, .int .i64 o.m, .int .u64 o.n, .bool o.o]
  generalize hy : w.heap.size = y at h1
  have HN := hide hn
  have HV := hide hV
  have H := hide h1
  have HY := hide hy
  have HF0 := hide (show ∀ h ∈ l.take 0, (h.c == o.c) = false from fun h hh => by simp at hh)
  clear h h1 hV hn hy
  go_enter Try.func61, Try.ntmps61
  go_wp2_with fail
  rw [HY.out]
  clear HY
  cases ho : o.o with
  | false =>
    have E := hide (show tokenM o l = o.n from if_neg (by rw [ho]; exact Bool.false_ne_true))
    rw [ho] at H
    go_loopg [5] n (fun gh iv wr => ∃ (k : Nat), gh = n - k ∧ k ≤ n ∧ iv = .int .i64 (k : Nat) ∧ St M0 wr (blkR y 84 #[.int .i64 o.d, .int .i64 o.c, .int .i64 o.r, .int .i64 o.m, .int .u64 o.n, .bool false] :: L))
    case atStart => exact ⟨0, rfl, by omega, rfl, H.out⟩
    case round =>
      clear H
      obtain ⟨k, hg, hk, rfl, h⟩ := hrel
      have HG := hide hg
      have y5 := (h.blk 0 rfl).cell 5
      have y4 := (h.blk 0 rfl).cell 4
      have H1 := hide h
      clear hg h
      by_cases hlt : k < n
      · have k0 : (0 : Int) ≤ (k : Int) := by omega
        have k1 : (k : Int) < (n : Int) := by omega
        go_wp2_with fail
        go_quiet (fail)
        go_wp2_with fail
        go_roundg (n - (k + 1))
        case measure => have := HG.out; omega
        case rel => exact ⟨k + 1, rfl, by omega, by go_num, H1.out.drewN _⟩
      · obtain rfl : n = k := by omega
        go_wp2_with fail
        go_ret
        exact ⟨by rw [E.out]; try rfl, H1.out.tail⟩
  | true =>
    have E0 := hide (show tokenM o l = match findH l o.c with
      | some h => h.t
      | none => o.n from if_pos ho)
    rw [ho] at H
    go_loopg [5] n (fun gh iv wr => ∃ (k : Nat), gh = n - k ∧ k ≤ n ∧ iv = .int .i64 (k : Nat) ∧ (∀ h ∈ l.take k, (h.c == o.c) = false) ∧ St M0 wr (blkR y 84 #[.int .i64 o.d, .int .i64 o.c, .int .i64 o.r, .int .i64 o.m, .int .u64 o.n, .bool true] :: L))
    case atStart => exact ⟨0, rfl, by omega, rfl, HF0.out, H.out⟩
    case round =>
      clear H HF0
      obtain ⟨k, hg, hk, rfl, hno, h⟩ := hrel
      have HG := hide hg
      have HNO := hide hno
      have y5 := (h.blk 0 rfl).cell 5
      have y4 := (h.blk 0 rfl).cell 4
      have y1 := (h.blk 0 rfl).cell 1
      have H1 := hide h
      clear hg hno
      by_cases hlt : k < n
      · have hx := List.getElem?_eq_getElem (l := l) (i := k) (by rw [← HN.out]; exact hlt)
        generalize l[k]'(by rw [← HN.out]; exact hlt) = x at hx
        obtain ⟨ad, rfl, hcs⟩ := (HV.out _ h.tail).at_ holdC_len hx
        obtain ⟨e0, e1, e2, e3⟩ := cells4F hcs
        have HX := hide hx
        have k0 : (0 : Int) ≤ (k : Int) := by omega
        have k1 : (k : Int) < (n : Int) := by omega
        clear h hx hcs
        by_cases he : x.c = o.c
        · have b1 := isT he
          have E := hide (E0.out.trans (show _ = x.t by
            have hf : findH l o.c = some x := by
              unfold findH
              rw [List.find?_eq_some_iff_append]
              refine ⟨b1, l.take k, l.drop (k + 1), ?_, fun a ha => by rw [HNO.out a ha]; rfl⟩
              obtain ⟨hh, hhx⟩ := List.getElem?_eq_some_iff.1 HX.out
              conv => lhs; rw [← List.take_append_drop k l]
              rw [List.drop_eq_getElem_cons hh, hhx]
            rw [hf]))
          clear he
          go_wp2_with fail
          go_quiet (fail)
          go_wp2_with fail
          go_ret
          exact ⟨by rw [E.out]; try rfl, H1.out.tail.drewN _⟩
        · have b1 := isF he
          have HNO2 := hide (show ∀ h ∈ l.take (k + 1), (h.c == o.c) = false from fun h hh => by
            rw [List.take_add_one, HX.out] at hh
            rcases List.mem_append.1 hh with hh | hh
            · exact HNO.out h hh
            · simp at hh
              rw [hh]
              exact b1)
          clear he
          go_wp2_with fail
          go_quiet (fail)
          go_wp2_with fail
          go_roundg (n - (k + 1))
          case measure => have := HG.out; omega
          case rel => exact ⟨k + 1, rfl, by omega, by go_num, HNO2.out, H1.out.drewN _⟩
      · obtain rfl : n = k := by omega
        have E := hide (E0.out.trans (show _ = o.n by
          have hf : findH l o.c = none := by
            unfold findH
            rw [List.find?_eq_none]
            intro a ha
            have := HNO.out a (by rw [List.take_of_length_le (by rw [← HN.out]; exact Nat.le_refl _)]; exact ha)
            rw [this]
            exact Bool.false_ne_true
          rw [hf]))
        clear h
        go_wp2_with fail
        go_ret
        exact ⟨by rw [E.out]; try rfl, H1.out.tail⟩
set_option maxHeartbeats 4000000 in
set_option maxRecDepth 100000 in
theorem done_st {M0 : Imm} {L : List Res} (g : Nat) (T : TabM) (o : OpL) (w : World) (hok : TabOk T) (hn : o.n ≤ 18446744073709551615) (h : St M0 w (tabR g T :: L)) :
    Calls Try.prog 41 #[.pointer (some ⟨g, 0, none⟩), .agg #[.int .i64 o.d, .int .i64 o.c, .int .i64 o.r, .int .i64 o.m, .int .u64 o.n, .bool o.o]] w fun e w' => e = .returned (.tuple #[]) ∧ St M0 w' (tabR g (doneM T o) :: L) := by
  have h0 := h.alloc 84 #[.int .i64 o.d, .int .i64 o.c, .int .i64 o.r, .int .i64 o.m, .int .u64 o.n, .bool o.o]
  generalize hy : w.heap.size = y at h0
  have HOK := hide hok
  have HN := hide hn
  have HY := hide hy
  have H0 := hide h0
  clear h h0 hok hn hy
  go_enter Try.func41, Try.ntmps41
  go_wp2_with fail
  rw [HY.out]
  have h0 := H0.out
  clear HY H0
  generalize w.alloc _ = w0 at h0 ⊢
  refine region_flow (M0 := M0) (L0 := L) [⟨none, none, fun e => blkR y 84 #[.int .i64 o.d, .int .i64 o.c, .int .i64 o.r, .int .i64 o.m, .int .u64 o.n, .bool o.o]⟩, ⟨none, none, fun e => tabR g T⟩, ⟨some 4, none, fun e => keepR holdC 4 (.slice (e 4).A (T.holders o.r).length (e 4).n) (T.holders o.r)⟩] [[], [], [], [2], [1, 2, 3], [0, 1, 2, 3, 4], [0, 1, 2, 3, 4, 5]] [0, 1, 2, 3, 4, 5, 6] rfl (by kernel_rfl) (by kernel_rfl) (by kernel_rfl) (by rfl) (fun _ => rfl) (show St M0 _ (blkR y 84 #[.int .i64 o.d, .int .i64 o.c, .int .i64 o.r, .int .i64 o.m, .int .u64 o.n, .bool o.o] :: tabR g T :: L) from h0) ?_
  refine flow_run _ rfl (fun _ => rfl) (fun e wx Lx h => by (have h : St M0 wx (blkR y 84 #[.int .i64 o.d, .int .i64 o.c, .int .i64 o.r, .int .i64 o.m, .int .u64 o.n, .bool o.o] :: tabR g T :: Lx) := h; have y0 := (h.blkA (g := y) (t := 84) (cs := #[.int .i64 o.d, .int .i64 o.c, .int .i64 o.r, .int .i64 o.m, .int .u64 o.n, .bool o.o]) (by (repeat (first | with_reducible exact At.here | with_reducible apply At.there)))).cell 0; have y1 := (h.blkA (g := y) (t := 84) (cs := #[.int .i64 o.d, .int .i64 o.c, .int .i64 o.r, .int .i64 o.m, .int .u64 o.n, .bool o.o]) (by (repeat (first | with_reducible exact At.here | with_reducible apply At.there)))).cell 1; have y2 := (h.blkA (g := y) (t := 84) (cs := #[.int .i64 o.d, .int .i64 o.c, .int .i64 o.r, .int .i64 o.m, .int .u64 o.n, .bool o.o]) (by (repeat (first | with_reducible exact At.here | with_reducible apply At.there)))).cell 2; have y3 := (h.blkA (g := y) (t := 84) (cs := #[.int .i64 o.d, .int .i64 o.c, .int .i64 o.r, .int .i64 o.m, .int .u64 o.n, .bool o.o]) (by (repeat (first | with_reducible exact At.here | with_reducible apply At.there)))).cell 3; have y4 := (h.blkA (g := y) (t := 84) (cs := #[.int .i64 o.d, .int .i64 o.c, .int .i64 o.r, .int .i64 o.m, .int .u64 o.n, .bool o.o]) (by (repeat (first | with_reducible exact At.here | with_reducible apply At.there)))).cell 4; have y5 := (h.blkA (g := y) (t := 84) (cs := #[.int .i64 o.d, .int .i64 o.c, .int .i64 o.r, .int .i64 o.m, .int .u64 o.n, .bool o.o]) (by (repeat (first | with_reducible exact At.here | with_reducible apply At.there)))).cell 5; go_simp; try rfl)) (by intro e; rfl) (by intro e; rfl) (by intro e x; rfl) ?_
  (simp only [Act.put, List.setIfInBounds_toArray, List.set_cons_succ, List.set_cons_zero])
  refine flow_run _ rfl (fun _ => rfl) (fun e wx Lx h => by (go_simp; try rfl)) (by intro e; rfl) (by intro e; rfl) (by intro e x; rfl) ?_
  (simp only [Act.put, List.setIfInBounds_toArray, List.set_cons_succ, List.set_cons_zero])
  refine flow_run _ rfl (fun _ => rfl) (fun e wx Lx h => by (go_simp; try rfl)) (by intro e; rfl) (by intro e; rfl) (by intro e x; rfl) ?_
  (simp only [Act.put, List.setIfInBounds_toArray, List.set_cons_succ, List.set_cons_zero])
  refine flow_run _ rfl (fun _ => rfl) (fun e wx Lx h => by (have h : St M0 wx (blkR y 84 #[.int .i64 o.d, .int .i64 o.c, .int .i64 o.r, .int .i64 o.m, .int .u64 o.n, .bool o.o] :: tabR g T :: Lx) := h; have y0 := (h.blkA (g := y) (t := 84) (cs := #[.int .i64 o.d, .int .i64 o.c, .int .i64 o.r, .int .i64 o.m, .int .u64 o.n, .bool o.o]) (by (repeat (first | with_reducible exact At.here | with_reducible apply At.there)))).cell 0; have y1 := (h.blkA (g := y) (t := 84) (cs := #[.int .i64 o.d, .int .i64 o.c, .int .i64 o.r, .int .i64 o.m, .int .u64 o.n, .bool o.o]) (by (repeat (first | with_reducible exact At.here | with_reducible apply At.there)))).cell 1; have y2 := (h.blkA (g := y) (t := 84) (cs := #[.int .i64 o.d, .int .i64 o.c, .int .i64 o.r, .int .i64 o.m, .int .u64 o.n, .bool o.o]) (by (repeat (first | with_reducible exact At.here | with_reducible apply At.there)))).cell 2; have y3 := (h.blkA (g := y) (t := 84) (cs := #[.int .i64 o.d, .int .i64 o.c, .int .i64 o.r, .int .i64 o.m, .int .u64 o.n, .bool o.o]) (by (repeat (first | with_reducible exact At.here | with_reducible apply At.there)))).cell 3; have y4 := (h.blkA (g := y) (t := 84) (cs := #[.int .i64 o.d, .int .i64 o.c, .int .i64 o.r, .int .i64 o.m, .int .u64 o.n, .bool o.o]) (by (repeat (first | with_reducible exact At.here | with_reducible apply At.there)))).cell 4; have y5 := (h.blkA (g := y) (t := 84) (cs := #[.int .i64 o.d, .int .i64 o.c, .int .i64 o.r, .int .i64 o.m, .int .u64 o.n, .bool o.o]) (by (repeat (first | with_reducible exact At.here | with_reducible apply At.there)))).cell 5; go_simp; try rfl)) (by intro e; rfl) (by intro e; rfl) (by intro e x; rfl) ?_
  (simp only [Act.put, List.setIfInBounds_toArray, List.set_cons_succ, List.set_cons_zero])
  refine flow_call 42 (fun e => #[.pointer (some ⟨g, 0, none⟩), .int .i64 o.r]) (fun e => .slice (e 4).A (T.holders o.r).length (e 4).n) rfl (fun _ => rfl) (by intro e; rfl) (fun e wx => by (go_simp; try rfl)) (fun e wx Lx h => by (
    have h : St M0 wx (blkR y 84 #[.int .i64 o.d, .int .i64 o.c, .int .i64 o.r, .int .i64 o.m, .int .u64 o.n, .bool o.o] :: tabR g T :: Lx) := h
    refine (holders_st g T o.r _ HOK.out (h.sub (L' := tabR g T :: blkR y 84 #[.int .i64 o.d, .int .i64 o.c, .int .i64 o.r, .int .i64 o.m, .int .u64 o.n, .bool o.o] :: Lx) (by (repeat (first | with_reducible exact Sub.refl _ | (with_reducible apply Sub.take; focus (repeat (first | with_reducible exact At.here | with_reducible apply At.there))) | with_reducible apply Sub.drop))))).mono ?_
    rintro u wy ⟨v, rfl, h1⟩
    obtain ⟨A', c', rfl, _⟩ := (h1.flatK At.here).value
    have hk : St M0 wy (blkR y 84 #[.int .i64 o.d, .int .i64 o.c, .int .i64 o.r, .int .i64 o.m, .int .u64 o.n, .bool o.o] :: tabR g T :: keepR holdC 4 (.slice A' (T.holders o.r).length c') (T.holders o.r) :: Lx) := h1.sub (by (repeat (first | with_reducible exact Sub.refl _ | (with_reducible apply Sub.take; focus (repeat (first | with_reducible exact At.here | with_reducible apply At.there))) | with_reducible apply Sub.drop)))
    exact ⟨⟨A', c', default⟩, rfl, hk⟩)) ?_
  (simp only [Act.put, List.setIfInBounds_toArray, List.set_cons_succ, List.set_cons_zero])
  refine flow_call 61 (fun e => #[.agg #[.int .i64 o.d, .int .i64 o.c, .int .i64 o.r, .int .i64 o.m, .int .u64 o.n, .bool o.o], .slice (e 4).A (T.holders o.r).length (e 4).n]) (fun e => .int .u64 (tokenM o (T.holders o.r))) rfl (fun _ => rfl) (by intro e; rfl) (fun e wx => by (go_simp; try rfl)) (fun e wx Lx h => by (
    have h : St M0 wx (blkR y 84 #[.int .i64 o.d, .int .i64 o.c, .int .i64 o.r, .int .i64 o.m, .int .u64 o.n, .bool o.o] :: tabR g T :: keepR holdC 4 (.slice (e 4).A (T.holders o.r).length (e 4).n) (T.holders o.r) :: Lx) := h
    refine (token_st o (e 4).A (T.holders o.r).length (e 4).n (T.holders o.r) _ (fun W hW => hW.flatK (by (repeat (first | with_reducible exact At.here | with_reducible apply At.there)))) h).mono ?_
    rintro u wy ⟨rfl, h1⟩
    have hk : St M0 wy (blkR y 84 #[.int .i64 o.d, .int .i64 o.c, .int .i64 o.r, .int .i64 o.m, .int .u64 o.n, .bool o.o] :: tabR g T :: keepR holdC 4 (.slice (e 4).A (T.holders o.r).length (e 4).n) (T.holders o.r) :: Lx) := h1.sub (by (repeat (first | with_reducible exact Sub.refl _ | (with_reducible apply Sub.take; focus (repeat (first | with_reducible exact At.here | with_reducible apply At.there))) | with_reducible apply Sub.drop)))
    exact ⟨⟨none, 0, default⟩, rfl, hk⟩)) ?_
  (simp only [Act.put, List.setIfInBounds_toArray, List.set_cons_succ, List.set_cons_zero])
  refine flow_run _ rfl (fun _ => rfl) (fun e wx Lx h => by (go_simp; try rfl)) (by intro e; rfl) (by intro e; rfl) (by intro e x; rfl) ?_
  (simp only [Act.put, List.setIfInBounds_toArray, List.set_cons_succ, List.set_cons_zero])
  refine flow_nil ?_
  intro e w1 h
  have h : St M0 w1 (blkR y 84 #[.int .i64 o.d, .int .i64 o.c, .int .i64 o.r, .int .i64 o.m, .int .u64 o.n, .bool o.o] :: tabR g T :: keepR holdC 4 (.slice (e 4).A (T.holders o.r).length (e 4).n) (T.holders o.r) :: L) := h
  have H2 := hide (h.sub (L' := tabR g T :: blkR y 84 #[.int .i64 o.d, .int .i64 o.c, .int .i64 o.r, .int .i64 o.m, .int .u64 o.n, .bool o.o] :: L) (by (repeat (first | with_reducible exact Sub.refl _ | (with_reducible apply Sub.take; focus (repeat (first | with_reducible exact At.here | with_reducible apply At.there))) | with_reducible apply Sub.drop))))
  clear h h0
  obtain ⟨tk, htk⟩ : ∃ tk, tk = tokenM o (T.holders o.r) := ⟨_, rfl⟩
  have HTK := hide htk
  have E0 := hide (show doneM T o = if o.d = 1 then (T.acquire o.c o.r o.m).1 else if o.d = 2 then (T.release o.c o.r tk).1 else if o.d = 3 then (T.renew o.c o.r tk).1 else if o.d = 4 then (T.cancel o.c o.r).1 else if o.d = 5 then T.time o.n else T by rw [htk]; rfl)
  obtain ⟨dm, hdm⟩ : ∃ dm, dm = doneM T o := ⟨_, rfl⟩
  rw [← hdm] at E0
  have HDM := hide hdm
  clear htk hdm
  have y0 := (H2.out.blkA (g := y) (t := 84) (cs := #[.int .i64 o.d, .int .i64 o.c, .int .i64 o.r, .int .i64 o.m, .int .u64 o.n, .bool o.o]) (by (repeat (first | with_reducible exact At.here | with_reducible apply At.there)))).cell 0
  have y1 := (H2.out.blkA (g := y) (t := 84) (cs := #[.int .i64 o.d, .int .i64 o.c, .int .i64 o.r, .int .i64 o.m, .int .u64 o.n, .bool o.o]) (by (repeat (first | with_reducible exact At.here | with_reducible apply At.there)))).cell 1
  have y2 := (H2.out.blkA (g := y) (t := 84) (cs := #[.int .i64 o.d, .int .i64 o.c, .int .i64 o.r, .int .i64 o.m, .int .u64 o.n, .bool o.o]) (by (repeat (first | with_reducible exact At.here | with_reducible apply At.there)))).cell 2
  have y3 := (H2.out.blkA (g := y) (t := 84) (cs := #[.int .i64 o.d, .int .i64 o.c, .int .i64 o.r, .int .i64 o.m, .int .u64 o.n, .bool o.o]) (by (repeat (first | with_reducible exact At.here | with_reducible apply At.there)))).cell 3
  have y4 := (H2.out.blkA (g := y) (t := 84) (cs := #[.int .i64 o.d, .int .i64 o.c, .int .i64 o.r, .int .i64 o.m, .int .u64 o.n, .bool o.o]) (by (repeat (first | with_reducible exact At.here | with_reducible apply At.there)))).cell 4
  by_cases h1 : o.d = 1
  · have b1 := isT h1
    have E := hide (E0.out.trans (if_pos h1))
    clear h1 E0
    go_wp2_with fail
    refine (acquire_st g T o.c o.r o.m _ HOK.out H2.out).mono ?_
    rintro e w3 ⟨rfl, h3⟩
    have H3 := hide h3.tail2
    clear h3 H2 y0 y1 y2 y3 y4
    go_wp2_with fail
    go_end0
    exact ⟨rfl, by rw [← HDM.out, E.out]; exact H3.out⟩
  have b1 := isF h1
  have E1 := hide (E0.out.trans (if_neg h1))
  by_cases h2 : o.d = 2
  · have b2 := isT h2
    have E := hide (E1.out.trans (if_pos h2))
    clear h1 h2 E0 E1
    go_wp2_with fail
    rw [← HTK.out]
    refine (release_st g T o.c o.r tk _ HOK.out H2.out).mono ?_
    rintro e w3 ⟨rfl, h3⟩
    have H3 := hide h3.tail2
    clear h3 H2 y0 y1 y2 y3 y4
    go_wp2_with fail
    go_end0
    exact ⟨rfl, by rw [← HDM.out, E.out]; exact H3.out⟩
  have b2 := isF h2
  have E2 := hide (E1.out.trans (if_neg h2))
  by_cases h3 : o.d = 3
  · have b3 := isT h3
    have E := hide (E2.out.trans (if_pos h3))
    clear h1 h2 h3 E0 E1 E2
    go_wp2_with fail
    rw [← HTK.out]
    refine (renew_st g T o.c o.r tk _ HOK.out H2.out).mono ?_
    rintro e w3 ⟨rfl, h3⟩
    have H3 := hide h3.tail2
    clear h3 H2 y0 y1 y2 y3 y4
    go_wp2_with fail
    go_end0
    exact ⟨rfl, by rw [← HDM.out, E.out]; exact H3.out⟩
  have b3 := isF h3
  have E3 := hide (E2.out.trans (if_neg h3))
  by_cases h4 : o.d = 4
  · have b4 := isT h4
    have E := hide (E3.out.trans (if_pos h4))
    clear h1 h2 h3 h4 E0 E1 E2 E3
    go_wp2_with fail
    refine (cancel_st g T o.c o.r _ HOK.out H2.out).mono ?_
    rintro e w3 ⟨rfl, h3⟩
    have H3 := hide h3.tail2
    clear h3 H2 y0 y1 y2 y3 y4
    go_wp2_with fail
    go_end0
    exact ⟨rfl, by rw [← HDM.out, E.out]; exact H3.out⟩
  have b4 := isF h4
  have E4 := hide (E3.out.trans (if_neg h4))
  by_cases h5 : o.d = 5
  · have b5 := isT h5
    have E := hide (E4.out.trans (if_pos h5))
    clear h1 h2 h3 h4 h5 E0 E1 E2 E3 E4
    go_wp2_with fail
    refine (time_st g T o.n _ HOK.out HN.out H2.out).mono ?_
    rintro e w3 ⟨rfl, h3⟩
    have H3 := hide h3.tail2
    clear h3 H2 y0 y1 y2 y3 y4
    go_wp2_with fail
    go_end0
    exact ⟨rfl, by rw [← HDM.out, E.out]; exact H3.out⟩
  have b5 := isF h5
  have E := hide (E4.out.trans (if_neg h5))
  clear h1 h2 h3 h4 h5 E0 E1 E2 E3 E4
  have H3 := hide H2.out.tail2
  clear H2 
  go_wp2_with fail
  go_end0
  exact ⟨rfl, by rw [← HDM.out, E.out]; exact H3.out⟩
end Go.Proofs.Ytbgknfdaaffeaaa
