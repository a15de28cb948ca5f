/- Locks: Time. Printed by gen_lki.py. -/
import Derived.Test.YtbgknfdaaffeaaaLkC
import Derived.Test.YtbgknfdaaffeaaaLkF
namespace Go.Proofs.Ytbgknfdaaffeaaa
open Go.RowKit Go.Shelf

set_option maxHeartbeats 400000 in
theorem overClo_st {M0 : Imm} {L R : List Res} (gb : Nat) (now : Int) (x : HoldM) (w : World) (hat : At (blkR gb 33 #[.int .u64 now]) L R) (h : St M0 w L) :
    Calls Try.prog 102 (#[.agg (holdC x).toArray] ++ #[.pointer (some ⟨gb, 0, none⟩)]) w fun e w' => e = .returned (.bool (decide (x.u ≤ now))) ∧ St M0 w' L := by
  have h1 := h.alloc 91 #[.int .i64 x.c, .int .i64 x.m, .int .u64 x.t, .int .u64 x.u]
  have x3 := (h1.blk 0 rfl).cell 3
  have c0 := (h1.blkA (At.there hat)).cell 0
  have H := hide h1.tail
  clear h h1
  go_enter Try.func102, Try.ntmps102
  go_wp2_with fail
  go_ret
  exact ⟨rfl, H.out⟩
/-- the regions of which the first so many have lost what is over -/
def filtR (r : Nat → RegM) (now : Int) (k : Nat) : Nat → RegM := fun j => if j < k then ⟨(r j).h.filter (fun h => !decide (h.u ≤ now)), (r j).w⟩ else r j
theorem filt_step (r : Nat → RegM) (now : Int) (k : Nat) {r1 : Nat → RegM} (h : r1 = filtR r now k) : upd r1 k ⟨(r1 k).h.filter (fun h => !decide (h.u ≤ now)), (r1 k).w⟩ = filtR r now (k + 1) := by
  subst h
  funext j
  unfold upd filtR
  by_cases hj : j = k
  · subst hj
    simp only [if_true, Nat.lt_irrefl, if_false, Nat.lt_succ_self]
  · rw [if_neg hj]
    by_cases hlt : j < k
    · rw [if_pos hlt, if_pos (by omega)]
    · rw [if_neg hlt, if_neg (by omega)]
theorem tabR_congr (g : Nat) (now last : Int) {r r' : Nat → RegM} (h : ∀ j, j < 4 → r' j = r j) : tabR g ⟨now, last, r⟩ = tabR g ⟨now, last, r'⟩ := by
  unfold tabR
  congr 1
  funext vs
  show starR (tabB g now last vs) (bigR [regT vs r 0, regT vs r 1, regT vs r 2, regT vs r 3]) = starR (tabB g now last vs) (bigR [regT vs r' 0, regT vs r' 1, regT vs r' 2, regT vs r' 3])
  unfold regT
  rw [h 0 (by omega), h 1 (by omega), h 2 (by omega), h 3 (by omega)]
def TabM.gives (T : TabM) : Nat → TabM
  | 0 => T
  | k + 1 => (TabM.gives T k).give k
theorem TabOk.gives {T : TabM} (h : TabOk T) : ∀ k, k ≤ 4 → TabOk (T.gives k)
  | 0, _ => h
  | k + 1, hk => (h.gives k (by omega)).give (by omega)
set_option maxHeartbeats 4000000 in
set_option maxRecDepth 100000 in
theorem time_st {M0 : Imm} {L : List Res} (g : Nat) (T : TabM) (now : Int) (w : World) (hok : TabOk T) (hn1 : now ≤ 18446744073709551615) (h : St M0 w (tabR g T :: L)) :
    Calls Try.prog 52 #[.pointer (some ⟨g, 0, none⟩), .int .u64 now] w fun e w' => e = .returned (.tuple #[]) ∧ St M0 w' (tabR g (T.time now) :: L) := by
  have h1 := h.alloc 33 #[.int .u64 now]
  generalize hgb : w.heap.size = gb at h1
  obtain ⟨vs0, h2⟩ := h1.swap.tabRaw
  have c0 : (w.alloc (.cells #[.int .u64 now] 33)).cell? ⟨g, 0, none⟩ = some (.int .u64 T.now) := (h2.blk 0 rfl).cell 0
  have n0 := (h2.blkA (g := gb) (t := 33) (cs := #[.int .u64 now]) (by (repeat (first | with_reducible exact At.here | with_reducible apply At.there)))).cell 0
  obtain ⟨tn, htn⟩ : ∃ tn, tn = T.now := ⟨_, rfl⟩
  have H2 := hide h2
  have HOK := hide hok
  have HN1 := hide hn1
  have HTN := hide htn
  rw [← htn] at c0
  by_cases hle : now ≤ T.now
  · have E := hide (show T.time now = T from if_pos hle)
    have hle' : now ≤ tn := by rw [htn]; exact hle
    have d1 : decide (now ≤ tn) = true := decide_eq_true hle'
    have H1 := hide h1.tail
    clear h h1 h2 hok hn1 htn hle hle'
    go_enter Try.func52, Try.ntmps52
    go_wp2_with fail
    go_quiet (fail)
    go_wp2_with fail
    ((try simp only [Exit.inBlock, Exit.then]); refine bodyPost_ret (results_none rfl _ _ _) rfl ?_)
    exact ⟨rfl, by rw [E.out]; exact H1.out.drewN _⟩
  · have E := hide (show T.time now = (TabM.mk now T.last (fun i => ⟨(T.r i).h.filter (fun h => !decide (h.u ≤ now)), (T.r i).w⟩)).gives 4 from if_neg hle)
    have hle' : ¬ now ≤ tn := by rw [htn]; exact hle
    have d1 : decide (now ≤ tn) = false := decide_eq_false hle'
    have HLE := hide hle
    clear h h1 h2 hok hn1 htn hle hle'
    go_enter Try.func52, Try.ntmps52
    go_wp2_with fail
    go_quiet (fail)
    have h3 := H2.out.drewN nq
    have f := (h3.blk 0 rfl).frozen
    have h4 := h3.put_ 0 (.int .u64 now) (tabC now T.last vs0) rfl
    obtain ⟨la, hla⟩ : ∃ la, la = T.last := ⟨_, rfl⟩
    have h5 := St.toTab (T := ⟨now, T.last, T.r⟩) h4
    rw [show (⟨now, T.last, T.r⟩ : TabM) = ⟨now, la, filtR T.r now 0⟩ by rw [hla, show filtR T.r now 0 = T.r from funext fun j => if_neg (by omega)]] at h5
    have H4 := hide h5
    have HLA := hide hla
    clear h3 h4 h5 H2 d1 hla
    go_wp2_with fail
    go_loopg [18] 4 (fun gh iv wr => ∃ (k : Nat), gh = 4 - k ∧ k ≤ 4 ∧ iv = .int .i64 (k : Nat) ∧ St M0 wr (tabR g ⟨now, la, filtR T.r now k⟩ :: blkR gb 33 #[.int .u64 now] :: L))
    case atStart => exact ⟨0, rfl, by omega, rfl, H4.out⟩
    case round =>
      clear H4 f c0 n0
      obtain ⟨k, hg, hk, rfl, h⟩ := hrel
      have HG := hide hg
      clear hg
      by_cases hk4 : k < 4
      · obtain ⟨r1, hr1⟩ : ∃ r1, r1 = filtR T.r now k := ⟨_, rfl⟩
        rw [← hr1] at h
        have HT1 := hide hr1
        obtain ⟨vs, h1⟩ := h.tabO hk4
        obtain ⟨⟨A, n, cc⟩, wv, hvi⟩ : ∃ hv wv, vs k = ⟨hv, wv⟩ := ⟨_, _, rfl⟩
        have HVI := hide hvi
        have h2 : St M0 wr (tabB g now la vs :: holdsR (vs k).h (r1 k).h :: wantsR (vs k).w (r1 k).w :: othT vs r1 k :: blkR gb 33 #[.int .u64 now] :: L) := h1
        rw [show (vs k).h = ⟨A, n, cc⟩ by rw [hvi], show (vs k).w = wv by rw [hvi]] at h2
        have HTH := hide (show (tabC now la vs)[2 + k * 2]? = some (.slice A n cc) by refine (tabC_h now la vs hk4).trans ?_; rw [hvi])
        have h0 := h2.sub (L' := tabB g now la vs :: ownR holdC 91 4 (.slice A n cc) (r1 k).h :: blkR gb 33 #[.int .u64 now] :: wantsR wv (r1 k).w :: othT vs r1 k :: L) (by (repeat (first | with_reducible exact Sub.refl _ | (with_reducible apply Sub.take; focus (repeat (first | with_reducible exact At.here | with_reducible apply At.there))) | with_reducible apply Sub.drop)))
        have i0 : (0 : Int) ≤ (k : Int) := by omega
        have i1 : (k : Int) < 4 := by omega
        clear h h1 h2 hvi hr1
        go_wp2_with fail
        refine region_flow (M0 := M0) (L0 := wantsR wv (r1 k).w :: othT vs r1 k :: L) [⟨none, some 15, fun e => tabB g now la vs⟩, ⟨none, some 10, fun e => ownR holdC 91 4 (.slice A n cc) (r1 k).h⟩, ⟨none, none, fun e => blkR gb 33 #[.int .u64 now]⟩, ⟨some 10, none, fun e => ownR holdC 91 4 (.slice (e 10).A ((r1 k).h.filter (fun h => !decide (h.u ≤ now))).length (e 10).n) ((r1 k).h.filter (fun h => !decide (h.u ≤ now)))⟩, ⟨some 15, none, fun e => tabB g now la (upd vs k ⟨⟨(e 10).A, ((r1 k).h.filter (fun h => !decide (h.u ≤ now))).length, (e 10).n⟩, (vs k).w⟩)⟩] [[], [], [], [], [2], [2, 4], [2, 3, 4, 5], [2, 3, 4, 5, 6], [2, 3, 4, 5, 6, 7], [], [2, 3, 4, 5, 6, 7, 8, 9], [0], [0, 11], [0, 1, 2, 3, 4, 5, 6, 7, 8, 9, 10, 11, 12], [0, 1, 2, 3, 4, 5, 6, 7, 8, 9, 10, 11, 12, 13], [0, 1, 2, 3, 4, 5, 6, 7, 8, 9, 10, 11, 12, 13, 14]] [0, 1, 2, 3, 4, 5, 6, 7, 8, 9, 10, 11, 12, 13, 14, 15] rfl (by kernel_rfl) (by kernel_rfl) (by kernel_rfl) (by rfl) (fun _ => rfl) (show St M0 _ (tabB g now la vs :: ownR holdC 91 4 (.slice A n cc) (r1 k).h :: blkR gb 33 #[.int .u64 now] :: wantsR wv (r1 k).w :: othT vs r1 k :: L) from h0) ?_
        refine flow_run _ rfl (fun _ => rfl) (fun e wx Lx h => by (go_simp; try rfl)) (by intro e; rfl) (by intro e; rfl) (by intro e x; rfl) ?_
        (simp only [Act.put, List.setIfInBounds_toArray, List.set_cons_succ, List.set_cons_zero])
        refine flow_run _ rfl (fun _ => rfl) (fun e wx Lx h => by (go_simp; try rfl)) (by intro e; rfl) (by intro e; rfl) (by intro e x; rfl) ?_
        (simp only [Act.put, List.setIfInBounds_toArray, List.set_cons_succ, List.set_cons_zero])
        refine flow_run _ rfl (fun _ => rfl) (fun e wx Lx h => by (go_simp; try rfl)) (by intro e; rfl) (by intro e; rfl) (by intro e x; rfl) ?_
        (simp only [Act.put, List.setIfInBounds_toArray, List.set_cons_succ, List.set_cons_zero])
        refine flow_run _ rfl (fun _ => rfl) (fun e wx Lx h => by (go_simp; try rfl)) (by intro e; rfl) (by intro e; rfl) (by intro e x; rfl) ?_
        (simp only [Act.put, List.setIfInBounds_toArray, List.set_cons_succ, List.set_cons_zero])
        refine flow_run _ rfl (fun _ => rfl) (fun e wx Lx h => by (go_simp; try rfl)) (by intro e; rfl) (by intro e; rfl) (by intro e x; rfl) ?_
        (simp only [Act.put, List.setIfInBounds_toArray, List.set_cons_succ, List.set_cons_zero])
        refine flow_run _ rfl (fun _ => rfl) (fun e wx Lx h => by (go_simp; try rfl)) (by intro e; rfl) (by intro e; rfl) (by intro e x; rfl) ?_
        (simp only [Act.put, List.setIfInBounds_toArray, List.set_cons_succ, List.set_cons_zero])
        refine flow_run _ rfl (fun _ => rfl) (fun e wx Lx h => by (go_simp; try rfl)) (by intro e; rfl) (by intro e; rfl) (by intro e x; rfl) ?_
        (simp only [Act.put, List.setIfInBounds_toArray, List.set_cons_succ, List.set_cons_zero])
        refine flow_run _ rfl (fun _ => rfl) (fun e wx Lx h => by (go_simp; try rfl)) (by intro e; rfl) (by intro e; rfl) (by intro e x; rfl) ?_
        (simp only [Act.put, List.setIfInBounds_toArray, List.set_cons_succ, List.set_cons_zero])
        refine flow_run _ rfl (fun _ => rfl) (fun e wx Lx h => by (have h : St M0 wx (tabB g now la vs :: ownR holdC 91 4 (.slice A n cc) (r1 k).h :: blkR gb 33 #[.int .u64 now] :: Lx) := h; have bo : wx.cell? ⟨g, 2 + k * 2, none⟩ = some (.slice A n cc) := ((h.blkA (g := g) (t := 79) (cs := tabC now la vs) (by (repeat (first | with_reducible exact At.here | with_reducible apply At.there)))).cell (2 + k * 2)).trans HTH.out; go_simp; try rfl)) (by intro e; rfl) (by intro e; rfl) (by intro e x; rfl) ?_
        (simp only [Act.put, List.setIfInBounds_toArray, List.set_cons_succ, List.set_cons_zero])
        refine flow_run _ rfl (fun _ => rfl) (fun e wx Lx h => by (go_simp; try rfl)) (by intro e; rfl) (by intro e; rfl) (by intro e x; rfl) ?_
        (simp only [Act.put, List.setIfInBounds_toArray, List.set_cons_succ, List.set_cons_zero])
        refine flow_call 103 (fun e => #[.slice A n cc, .func (.func 102) #[] #[.pointer (some ⟨gb, 0, none⟩)]]) (fun e => .slice (e 10).A ((r1 k).h.filter (fun h => !decide (h.u ≤ now))).length (e 10).n) rfl (fun _ => rfl) (by intro e; rfl) (fun e wx => by (go_simp; try rfl)) (fun e wx Lx h => by (
          have h : St M0 wx (tabB g now la vs :: ownR holdC 91 4 (.slice A n cc) (r1 k).h :: blkR gb 33 #[.int .u64 now] :: Lx) := h
          refine (holdDelF_st (L := tabB g now la vs :: blkR gb 33 #[.int .u64 now] :: Lx) 102 #[.pointer (some ⟨gb, 0, none⟩)] (fun h => decide (h.u ≤ now)) (r1 k).h A n cc _ (enters_of Try.func102 (by kernel_rfl) rfl) (fun X x W _ hW => overClo_st gb now x W (by (repeat (first | with_reducible exact At.here | with_reducible apply At.there))) hW) (h.sub (by (repeat (first | with_reducible exact Sub.refl _ | (with_reducible apply Sub.take; focus (repeat (first | with_reducible exact At.here | with_reducible apply At.there))) | with_reducible apply Sub.drop))))).mono ?_
          rintro u wy ⟨v, rfl, h1⟩
          obtain ⟨A', c', rfl, _⟩ := (h1.flatO At.here).value
          have hk : St M0 wy (tabB g now la vs :: blkR gb 33 #[.int .u64 now] :: ownR holdC 91 4 (.slice A' ((r1 k).h.filter (fun h => !decide (h.u ≤ now))).length c') ((r1 k).h.filter (fun h => !decide (h.u ≤ now))) :: Lx) := h1.sub (by (repeat (first | with_reducible exact Sub.refl _ | (with_reducible apply Sub.take; focus (repeat (first | with_reducible exact At.here | with_reducible apply At.there))) | with_reducible apply Sub.drop)))
          exact ⟨⟨A', c', default⟩, rfl, hk⟩)) ?_
        (simp only [Act.put, List.setIfInBounds_toArray, List.set_cons_succ, List.set_cons_zero])
        refine flow_run _ rfl (fun _ => rfl) (fun e wx Lx h => by (go_simp; try rfl)) (by intro e; rfl) (by intro e; rfl) (by intro e x; rfl) ?_
        (simp only [Act.put, List.setIfInBounds_toArray, List.set_cons_succ, List.set_cons_zero])
        refine flow_run _ rfl (fun _ => rfl) (fun e wx Lx h => by (go_simp; try rfl)) (by intro e; rfl) (by intro e; rfl) (by intro e x; rfl) ?_
        (simp only [Act.put, List.setIfInBounds_toArray, List.set_cons_succ, List.set_cons_zero])
        refine flow_run _ rfl (fun _ => rfl) (fun e wx Lx h => by (go_simp; try rfl)) (by intro e; rfl) (by intro e; rfl) (by intro e x; rfl) ?_
        (simp only [Act.put, List.setIfInBounds_toArray, List.set_cons_succ, List.set_cons_zero])
        refine flow_run _ rfl (fun _ => rfl) (fun e wx Lx h => by (go_simp; try rfl)) (by intro e; rfl) (by intro e; rfl) (by intro e x; rfl) ?_
        (simp only [Act.put, List.setIfInBounds_toArray, List.set_cons_succ, List.set_cons_zero])
        refine flow_store _ _ _ (fun e => .pointer (some ⟨g, 2 + k * 2, none⟩)) (fun e => .slice (e 10).A ((r1 k).h.filter (fun h => !decide (h.u ≤ now))).length (e 10).n) rfl (fun _ => rfl) rfl (fun _ => rfl) (fun _ => rfl) (fun e wx Lx h => by (
          have h : St M0 wx (tabB g now la vs :: blkR gb 33 #[.int .u64 now] :: ownR holdC 91 4 (.slice (e 10).A ((r1 k).h.filter (fun h => !decide (h.u ≤ now))).length (e 10).n) ((r1 k).h.filter (fun h => !decide (h.u ≤ now))) :: Lx) := h
          have bo : wx.cell? ⟨g, 2 + k * 2, none⟩ = some (.slice A n cc) := ((h.blkA (g := g) (t := 79) (cs := tabC now la vs) (by (repeat (first | with_reducible exact At.here | with_reducible apply At.there)))).cell (2 + k * 2)).trans HTH.out
          have f := (h.blkA (g := g) (t := 79) (cs := tabC now la vs) (by (repeat (first | with_reducible exact At.here | with_reducible apply At.there)))).frozen
          have h1 := (h.front (X := tabB g now la vs) (by (repeat (first | with_reducible exact At.here | with_reducible apply At.there)))).put_ (2 + k * 2) (.slice (e 10).A ((r1 k).h.filter (fun h => !decide (h.u ≤ now))).length (e 10).n) (tabC now la (upd vs k ⟨⟨(e 10).A, ((r1 k).h.filter (fun h => !decide (h.u ≤ now))).length, (e 10).n⟩, (vs k).w⟩)) (tabC_seth now la vs hk4 ⟨(e 10).A, ((r1 k).h.filter (fun h => !decide (h.u ≤ now))).length, (e 10).n⟩)
          have hk : St M0 _ (blkR gb 33 #[.int .u64 now] :: ownR holdC 91 4 (.slice (e 10).A ((r1 k).h.filter (fun h => !decide (h.u ≤ now))).length (e 10).n) ((r1 k).h.filter (fun h => !decide (h.u ≤ now))) :: tabB g now la (upd vs k ⟨⟨(e 10).A, ((r1 k).h.filter (fun h => !decide (h.u ≤ now))).length, (e 10).n⟩, (vs k).w⟩) :: Lx) := h1.sub (by (repeat (first | with_reducible exact Sub.refl _ | (with_reducible apply Sub.take; focus (repeat (first | with_reducible exact At.here | with_reducible apply At.there))) | with_reducible apply Sub.drop)))
          exact ⟨_, (by (go_simp; try rfl)), hk⟩)) ?_
        simp only [Act.put]
        refine flow_nil ?_
        intro e w1 h
        have h : St M0 w1 (blkR gb 33 #[.int .u64 now] :: ownR holdC 91 4 (.slice (e 10).A ((r1 k).h.filter (fun h => !decide (h.u ≤ now))).length (e 10).n) ((r1 k).h.filter (fun h => !decide (h.u ≤ now))) :: tabB g now la (upd vs k ⟨⟨(e 10).A, ((r1 k).h.filter (fun h => !decide (h.u ≤ now))).length, (e 10).n⟩, (vs k).w⟩) :: wantsR wv (r1 k).w :: othT vs r1 k :: L) := h
        obtain ⟨A', hA'⟩ : ∃ A', (e 10).A = A' := ⟨_, rfl⟩
        obtain ⟨c', hc'⟩ : ∃ c', (e 10).n = c' := ⟨_, rfl⟩
        obtain ⟨FL, hFL⟩ : ∃ FL, FL = ((r1 k).h.filter (fun h => !decide (h.u ≤ now))) := ⟨_, rfl⟩
        have h5 := h.sub (L' := tabB g now la (upd vs k ⟨⟨(e 10).A, ((r1 k).h.filter (fun h => !decide (h.u ≤ now))).length, (e 10).n⟩, (vs k).w⟩) :: ownR holdC 91 4 (.slice (e 10).A ((r1 k).h.filter (fun h => !decide (h.u ≤ now))).length (e 10).n) ((r1 k).h.filter (fun h => !decide (h.u ≤ now))) :: wantsR wv (r1 k).w :: othT vs r1 k :: blkR gb 33 #[.int .u64 now] :: L) (by (repeat (first | with_reducible exact Sub.refl _ | (with_reducible apply Sub.take; focus (repeat (first | with_reducible exact At.here | with_reducible apply At.there))) | with_reducible apply Sub.drop)))
        rw [hA', hc', ← hFL] at h5
        have h6 := St.tabV (vs := upd vs k ⟨⟨A', FL.length, c'⟩, (vs k).w⟩) (vs0 := vs) (hv := ⟨A', FL.length, c'⟩) (wv := wv) hk4 (by rw [updT_same, HVI.out]) (fun j hj => updT_ne _ _ hj) h5
        have H6 := hide h6
        have HFL := hide hFL
        clear h0 h h5 h6 hA' hc' hFL
        go_wp2_with fail
        go_roundg (4 - (k + 1))
        case measure => have := HG.out; omega
        case rel => exact ⟨k + 1, rfl, by omega, by go_num, by have h := H6.out; rw [HFL.out] at h; rw [← filt_step T.r now k HT1.out]; exact h⟩
      · obtain rfl : k = 4 := by omega
        obtain ⟨T1, hT1⟩ : ∃ T1 : TabM, T1 = TabM.mk now T.last (fun i => ⟨(T.r i).h.filter (fun h => !decide (h.u ≤ now)), (T.r i).w⟩) := ⟨_, rfl⟩
        have h5 : St M0 wr (tabR g (T1.gives 0) :: L) := by
          rw [show T1.gives 0 = T1 from rfl, hT1, tabR_congr g now T.last (r' := filtR T.r now 4) (fun j hj => if_pos hj), ← HLA.out]
          exact h.sub (by (repeat (first | with_reducible exact Sub.refl _ | (with_reducible apply Sub.take; focus (repeat (first | with_reducible exact At.here | with_reducible apply At.there))) | with_reducible apply Sub.drop)))
        have hok1 : TabOk T1 := by
          rw [hT1]
          have h0 := HOK.out.now0
          have h1 := HLE.out
          exact ⟨by show 0 ≤ now; omega, HN1.out, HOK.out.last0, HOK.out.last1, fun j hj => Nat.le_trans (List.length_filter_le _ _) (HOK.out.hl j hj), fun j hj => HOK.out.wl j hj⟩
        have HOK1 := hide hok1
        have E1 := hide (show T.time now = T1.gives 4 by rw [hT1]; exact E.out)
        have H5 := hide h5
        clear h h5 hT1 hok1 hk4
        go_wp2_with fail
        go_loopg [37] 4 (fun gh iv wr => ∃ (k : Nat), gh = 4 - k ∧ k ≤ 4 ∧ iv = .int .i64 (k : Nat) ∧ St M0 wr (tabR g (T1.gives k) :: L))
        case atStart => exact ⟨0, rfl, by omega, rfl, H5.out⟩
        case round =>
          clear H5 HG
          obtain ⟨k, hg, hk, rfl, h⟩ := hrel
          have HG := hide hg
          clear hg
          by_cases hk4 : k < 4
          · obtain ⟨vs, h1⟩ := h.tabO hk4
            have i0 : (0 : Int) ≤ (k : Int) := by omega
            have i1 : (k : Int) < 4 := by omega
            have H1 := hide h1
            have hokk := HOK1.out.gives k (by omega)
            have HOKK := hide hokk
            clear h h1 hokk
            go_wp2_with fail
            refine (give_st g k (T1.gives k).now (T1.gives k).last (T1.gives k).r ((T1.gives k).r k).h ((T1.gives k).r k).w vs _ hk4 ⟨HOKK.out.now0, HOKK.out.now1⟩ ⟨HOKK.out.last0, HOKK.out.last1⟩ H1.out).mono ?_
            rintro e w4 ⟨rfl, h11⟩
            have H11 := hide (show St M0 w4 (tabR g (T1.gives (k + 1)) :: L) from h11)
            clear h11 H1
            go_wp2_with fail
            go_roundg (4 - (k + 1))
            case measure => have := HG.out; omega
            case rel => exact ⟨k + 1, rfl, by omega, by go_num, H11.out⟩
          · obtain rfl : k = 4 := by omega
            have H6 := hide h
            clear h
            go_wp2_with fail
            go_end0
            exact ⟨rfl, by rw [E1.out]; exact H6.out⟩
end Go.Proofs.Ytbgknfdaaffeaaa
