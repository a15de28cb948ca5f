/- Cache: the document's: has, without, others, Dirty. Printed by gen_carf.py. -/
import Derived.Test.YtbgknfdaaffeaaaCaAw
import Derived.Test.YtbgknfdaaffeaaaCaOe
namespace Go.Proofs.Ytbgknfdaaffeaaa
open Go.RowKit Go.Shelf

theorem rput_elem : ElemOf Try.prog 45 69 (.agg #[.int .i64 0, .int .i64 0, .slice none 0 0]) 3 40 := ⟨Try.underlying45, by kernel_rfl, by kernel_rfl, by omega⟩
def docR (g : Nat) (bl ws : List PU) : Res := exR fun p : Value × Value => starR (blkR g 47 #[p.1, p.2]) (starR (rowsR 3 PutR p.1 bl) (rowsR 3 PutR p.2 ws))
theorem St.docO {M0 : Imm} {w : World} {L : List Res} {g : Nat} {bl ws : List PU} (h : St M0 w (docR g bl ws :: L)) :
    ∃ A c B d, bl.length ≤ c ∧ ws.length ≤ d ∧ c ≤ 9223372036854775807 ∧ d ≤ 9223372036854775807 ∧ St M0 w (blkR g 47 #[.slice A bl.length c, .slice B ws.length d] :: rowsR 3 PutR (.slice A bl.length c) bl :: rowsR 3 PutR (.slice B ws.length d) ws :: L) := by
  obtain ⟨⟨v, u⟩, h1⟩ := h.ex
  have h3 := h1.star.swap.star
  obtain ⟨A, c, rfl, hc, hcm⟩ := (h3.getRows 0 rfl).slice
  obtain ⟨B, d, rfl, hd, hdm⟩ := (h3.getRows 1 rfl).slice
  exact ⟨A, c, B, d, hc, hd, hcm, hdm, h3.up2⟩
theorem St.docC {M0 : Imm} {w : World} {L : List Res} {g : Nat} {bl ws : List PU} {v u : Value} (h : St M0 w (blkR g 47 #[v, u] :: rowsR 3 PutR v bl :: rowsR 3 PutR u ws :: L)) : St M0 w (docR g bl ws :: L) :=
  St.addEx (f := fun p : Value × Value => starR (blkR g 47 #[p.1, p.2]) (starR (rowsR 3 PutR p.1 bl) (rowsR 3 PutR p.2 ws))) (v, u) (h.dn2.addStar.swap.addStar)
theorem any_snoc {l : List PU} {k : Nat} {x : PU} (p : PU → Bool) (hx : l[k]? = some x) : (l.take (k + 1)).any p = ((l.take k).any p || p x) := by
  rw [List.take_add_one, hx, List.any_append]
  simp
theorem filter_snoc {l : List PU} {k : Nat} {x : PU} (p : PU → Bool) (hx : l[k]? = some x) : (l.take (k + 1)).filter p = (l.take k).filter p ++ (if p x = true then [x] else []) := by
  rw [List.take_add_one, hx, List.filter_append]
  congr 1
  cases hp : p x <;> simp [hp]
theorem any_of {l : List PU} {k : Nat} {x : PU} (p : PU → Bool) (hx : l[k]? = some x) (hp : p x = true) : l.any p = true := List.any_eq_true.2 ⟨x, List.mem_of_getElem? hx, hp⟩
set_option maxHeartbeats 1000000 in
set_option maxRecDepth 100000 in
theorem has_st {M0 : Imm} {L : List Res} (l : List PU) (r i : Int) (A : Option Addr) (n c : Nat) (w : World) (m : Nat) (hm : L[m]? = some (rowsR 3 PutR (.slice A n c) l)) (h : St M0 w L) :
    Calls Try.prog 80 #[.slice A n c, .agg #[.int .i64 r, .int .i64 i]] w fun e w' => e = .returned (.bool (l.any (keyIs r i))) ∧ St M0 w' L := by
  obtain ⟨A', c', e, hc, hcm⟩ := (h.getRows m hm).slice
  injection e with e1 e2 e3
  subst e1; subst e3
  have HN := hide e2
  have hnc : n ≤ c := by omega
  have H := hide (h.alloc 53 #[.int .i64 r, .int .i64 i])
  clear h e2
  go_enter Try.func80, Try.ntmps80
  go_wp2_with fail
  generalize w.heap.size = y at *
  go_loopg [5] n (fun gh iv wr => ∃ k, gh = n - k ∧ k ≤ n ∧ iv = .int .i64 (k : Nat) ∧ (l.take k).any (keyIs r i) = false ∧ St M0 wr (blkR y 53 #[.int .i64 r, .int .i64 i] :: L))
  case atStart => exact ⟨0, rfl, by omega, rfl, rfl, H.out⟩
  case round =>
    clear H
    obtain ⟨k, hg, hk, rfl, hno, h⟩ := hrel
    have HG := hide hg
    have HJ := hide h
    have HNO := hide hno
    clear hg hno
    by_cases hlt : k < n
    · have hx := List.getElem?_eq_getElem (l := l) (i := k) (by rw [← HN.out]; exact hlt)
      generalize l[k]'(by rw [← HN.out]; exact hlt) = x at hx
      obtain ⟨ad, cs, rfl, _, hcs, ⟨v, rfl, hv⟩, _⟩ := h.elem (m + 1) hm hx
      obtain ⟨f0, f1, f2⟩ := cells3 hcs
      have y0 := (h.blk 0 rfl).cell 0
      have y1 := (h.blk 0 rfl).cell 1
      have i0 : (0 : Int) ≤ (k : Int) := by omega
      have i1 : (k : Int) < (n : Int) := by omega
      have HX := hide hx
      clear hcs hv h hx
      by_cases cr : x.region = r
      · have br : (x.region == r) = true := isT cr
        by_cases ci : x.index = i
        · have bi : (x.index == i) = true := isT ci
          have E := hide (any_of (keyIs r i) HX.out (by unfold keyIs; rw [br, bi]; rfl))
          clear cr ci
          go_wp2_with fail
          go_quiet (fail)
          go_wp2_with fail
          go_ret
          exact ⟨by rw [E.out]; try rfl, (HJ.out.drewN _).tail⟩
        · have bi : (x.index == i) = false := isF ci
          have E := hide (show (l.take (k + 1)).any (keyIs r i) = false by rw [any_snoc _ HX.out, HNO.out]; unfold keyIs; rw [br, bi]; rfl)
          clear cr ci
          go_wp2_with fail
          go_quiet (fail)
          go_wp2_with fail
          go_roundg (n - (k + 1))
          case measure => have := HG.out; omega
          case rel => exact ⟨k + 1, rfl, by omega, by go_num, E.out, HJ.out.drewN _⟩
      · have br : (x.region == r) = false := isF cr
        have E := hide (show (l.take (k + 1)).any (keyIs r i) = false by rw [any_snoc _ HX.out, HNO.out]; unfold keyIs; rw [br]; rfl)
        clear cr
        go_wp2_with fail
        go_quiet (fail)
        go_wp2_with fail
        go_roundg (n - (k + 1))
        case measure => have := HG.out; omega
        case rel => exact ⟨k + 1, rfl, by omega, by go_num, E.out, HJ.out.drewN _⟩
    · obtain rfl : k = n := by omega
      have E := hide (show l.any (keyIs r i) = false by
        have := HNO.out
        rwa [List.take_of_length_le (by rw [← HN.out]; exact Nat.le_refl _)] at this)
      have H := hide h.tail
      clear h
      go_wp2_with fail
      go_ret
      exact ⟨by rw [E.out]; try rfl, H.out⟩
set_option maxHeartbeats 1000000 in
set_option maxRecDepth 100000 in
theorem without_st {M0 : Imm} {L : List Res} (l : List PU) (r i : Int) (A : Option Addr) (n c : Nat) (w : World) (m : Nat) (hm : L[m]? = some (rowsR 3 PutR (.slice A n c) l)) (hl : l.length ≤ 1000000) (h : St M0 w L) :
    Calls Try.prog 77 #[.slice A n c, .agg #[.int .i64 r, .int .i64 i]] w fun e w' => ∃ v, e = .returned v ∧ St M0 w' (growR 69 3 PutR v (l.filter (fun x => !keyIs r i x)) :: L) := by
  obtain ⟨A', c', e, hc, hcm⟩ := (h.getRows m hm).slice
  injection e with e1 e2 e3
  subst e1; subst e3
  have HN := hide e2
  have hnc : n ≤ c := by omega
  have hn1 : n ≤ 1000000 := by omega
  have H := hide ((h.alloc 53 #[.int .i64 r, .int .i64 i]).nilGrow 69 3 PutR)
  clear h e2 hl hc
  go_enter Try.func77, Try.ntmps77
  go_wp2_with fail
  generalize w.heap.size = y at *
  go_loopg [5, 6] n (fun gh ov iv wr => ∃ (k : Nat) (C : Option Addr) (q e : Nat), gh = n - k ∧ k ≤ n ∧ ov = .slice C q e ∧ iv = .int .i64 (k : Nat) ∧ q = ((l.take k).filter (fun x => !keyIs r i x)).length ∧ St M0 wr (growR 69 3 PutR (.slice C q e) ((l.take k).filter (fun x => !keyIs r i x)) :: blkR y 53 #[.int .i64 r, .int .i64 i] :: L))
  case atStart => exact ⟨0, none, 0, 0, rfl, by omega, rfl, rfl, rfl, H.out⟩
  case round =>
    clear H
    obtain ⟨k, C, q, e, hg, hk, rfl, rfl, hq, h⟩ := hrel
    have HG := hide hg
    have HJ := hide h
    have HQ := hide hq
    clear hg hq
    by_cases hlt : k < n
    · have hx := List.getElem?_eq_getElem (l := l) (i := k) (by rw [← HN.out]; exact hlt)
      generalize l[k]'(by rw [← HN.out]; exact hlt) = x at hx
      obtain ⟨ad, cs, rfl, _, hcs, ⟨v, rfl, hv⟩, h1⟩ := h.elem (m + 2) hm hx
      obtain ⟨X, xc, rfl, _, _, _⟩ := id hv
      obtain ⟨f0, f1, f2⟩ := cells3 hcs
      have y0 := (h.blk 1 rfl).cell 0
      have y1 := (h.blk 1 rfl).cell 1
      have hqn : q ≤ 1000000 := by
        have h8 := List.length_filter_le ((fun x => !keyIs r i x)) (l.take k)
        rw [List.length_take] at h8
        have h9 := HQ.out
        omega
      have i0 : (0 : Int) ≤ (k : Int) := by omega
      have i1 : (k : Int) < (n : Int) := by omega
      have HX := hide hx
      have H1 := hide (h1.pers1 (R' := fun w' => PutR w' [.int .i64 x.region, .int .i64 x.index, .slice X x.data.length xc] x) (fun w' hw => hw.2))
      clear hcs hv h hx h1
      by_cases cr : x.region = r
      · have br : (x.region == r) = true := isT cr
        by_cases ci : x.index = i
        · have bi : (x.index == i) = true := isT ci
          clear cr ci
          have E := hide (show (l.take (k + 1)).filter (fun x => !keyIs r i x) = (l.take k).filter (fun x => !keyIs r i x) by rw [filter_snoc _ HX.out, if_neg (by unfold keyIs; rw [br, bi]; decide), List.append_nil])
          go_wp2_with fail
          go_quiet (fail)
          go_wp2_with fail
          go_roundg (n - (k + 1))
          case measure => have := HG.out; omega
          case rel => exact ⟨k + 1, C, q, e, rfl, by omega, rfl, by go_num, by rw [E.out]; exact HQ.out, by rw [E.out]; exact HJ.out.drewN _⟩
        · have bi : (x.index == i) = false := isF ci
          clear cr ci
          have E := hide (show (l.take (k + 1)).filter (fun x => !keyIs r i x) = (l.take k).filter (fun x => !keyIs r i x) ++ [x] by rw [filter_snoc _ HX.out, if_pos (by unfold keyIs; rw [br, bi]; rfl)])
          clear H1
          go_wp2_with fail
          go_quiet (fail)
          have h5 := HJ.out.drewN nq
          generalize World.drewN _ _ = W at h5 ⊢
          obtain ⟨ad', cs, ea, _, hcs, ⟨v, rfl, hv⟩, h1⟩ := h5.elem (m + 2) hm HX.out
          injection ea with ea
          subst ea
          obtain ⟨X, xc, rfl, _, _, _⟩ := id hv
          obtain ⟨f0, f1, f2⟩ := cells3 hcs
          have H1 := hide (h1.pers1 (R' := fun w' => PutR w' [.int .i64 x.region, .int .i64 x.index, .slice X x.data.length xc] x) (fun w' hw => hw.2))
          clear h5 hcs hv h1
          have h6 := (H1.out.alloc 69 #[.int .i64 x.region, .int .i64 x.index, .slice X x.data.length xc]).pick (L' := growR 69 3 PutR (.slice C q e) ((l.take k).filter (fun x => !keyIs r i x)) :: blkR W.heap.size 69 #[.int .i64 x.region, .int .i64 x.index, .slice X x.data.length xc] :: persR (fun w' => PutR w' [.int .i64 x.region, .int .i64 x.index, .slice X x.data.length xc] x) :: blkR y 53 #[.int .i64 r, .int .i64 i] :: L) 3 [2, 0, 1]
          obtain ⟨vs, hq2, hxl, h7⟩ := h6.openGrowS
          have H7 := hide h7
          have HQ2 := hide hq2
          have HXL := hide hxl
          clear h6 h7 hq2 hxl H1
          go_wp2_with (at_builtin; refine St.app_step rput_elem H7.out rfl _ _ rfl rfl (some ⟨W.heap.size, 0, none⟩) 1 1 rfl [.int .i64 x.region, .int .i64 x.index, .slice X x.data.length xc] (sl_blkN (cs := [.int .i64 x.region, .int .i64 x.index, .slice X x.data.length xc]) (H7.out.blk 2 rfl)) (put_one _ _ _ _ _) (by omega) (by omega) ?_; intro A6 c6 w7 h9)
          have h10 := (h9.pick (L' := rowR 69 3 (.slice A6 (q + 1) c6) (q + 1) (vs ++ [.int .i64 x.region, .int .i64 x.index, .slice X x.data.length xc]) :: persR (fun w => ∀ (j : Nat) p, ((l.take k).filter (fun x => !keyIs r i x))[j]? = some p → PutR w ((vs.drop (j * 3)).take 3) p) :: persR (fun w' => PutR w' [.int .i64 x.region, .int .i64 x.index, .slice X x.data.length xc] x) :: blkR y 53 #[.int .i64 r, .int .i64 i] :: L) 4 [0, 1, 3]).snocGrow HQ2.out rfl HXL.out
          have H10 := hide h10
          clear h9 h10 H7
          go_roundg (n - (k + 1))
          case measure => have := HG.out; omega
          case rel => exact ⟨k + 1, A6, q + 1, c6, rfl, by omega, rfl, by go_num, by rw [E.out, List.length_append, ← HQ.out]; rfl, by rw [E.out]; exact H10.out⟩
      · have br : (x.region == r) = false := isF cr
        clear cr
        have E := hide (show (l.take (k + 1)).filter (fun x => !keyIs r i x) = (l.take k).filter (fun x => !keyIs r i x) ++ [x] by rw [filter_snoc _ HX.out, if_pos (by unfold keyIs; rw [br]; rfl)])
        clear H1
        go_wp2_with fail
        go_quiet (fail)
        have h5 := HJ.out.drewN nq
        generalize World.drewN _ _ = W at h5 ⊢
        obtain ⟨ad', cs, ea, _, hcs, ⟨v, rfl, hv⟩, h1⟩ := h5.elem (m + 2) hm HX.out
        injection ea with ea
        subst ea
        obtain ⟨X, xc, rfl, _, _, _⟩ := id hv
        obtain ⟨f0, f1, f2⟩ := cells3 hcs
        have H1 := hide (h1.pers1 (R' := fun w' => PutR w' [.int .i64 x.region, .int .i64 x.index, .slice X x.data.length xc] x) (fun w' hw => hw.2))
        clear h5 hcs hv h1
        have h6 := (H1.out.alloc 69 #[.int .i64 x.region, .int .i64 x.index, .slice X x.data.length xc]).pick (L' := growR 69 3 PutR (.slice C q e) ((l.take k).filter (fun x => !keyIs r i x)) :: blkR W.heap.size 69 #[.int .i64 x.region, .int .i64 x.index, .slice X x.data.length xc] :: persR (fun w' => PutR w' [.int .i64 x.region, .int .i64 x.index, .slice X x.data.length xc] x) :: blkR y 53 #[.int .i64 r, .int .i64 i] :: L) 3 [2, 0, 1]
        obtain ⟨vs, hq2, hxl, h7⟩ := h6.openGrowS
        have H7 := hide h7
        have HQ2 := hide hq2
        have HXL := hide hxl
        clear h6 h7 hq2 hxl H1
        go_wp2_with (at_builtin; refine St.app_step rput_elem H7.out rfl _ _ rfl rfl (some ⟨W.heap.size, 0, none⟩) 1 1 rfl [.int .i64 x.region, .int .i64 x.index, .slice X x.data.length xc] (sl_blkN (cs := [.int .i64 x.region, .int .i64 x.index, .slice X x.data.length xc]) (H7.out.blk 2 rfl)) (put_one _ _ _ _ _) (by omega) (by omega) ?_; intro A6 c6 w7 h9)
        have h10 := (h9.pick (L' := rowR 69 3 (.slice A6 (q + 1) c6) (q + 1) (vs ++ [.int .i64 x.region, .int .i64 x.index, .slice X x.data.length xc]) :: persR (fun w => ∀ (j : Nat) p, ((l.take k).filter (fun x => !keyIs r i x))[j]? = some p → PutR w ((vs.drop (j * 3)).take 3) p) :: persR (fun w' => PutR w' [.int .i64 x.region, .int .i64 x.index, .slice X x.data.length xc] x) :: blkR y 53 #[.int .i64 r, .int .i64 i] :: L) 4 [0, 1, 3]).snocGrow HQ2.out rfl HXL.out
        have H10 := hide h10
        clear h9 h10 H7
        go_roundg (n - (k + 1))
        case measure => have := HG.out; omega
        case rel => exact ⟨k + 1, A6, q + 1, c6, rfl, by omega, rfl, by go_num, by rw [E.out, List.length_append, ← HQ.out]; rfl, by rw [E.out]; exact H10.out⟩
    · obtain rfl : k = n := by omega
      have E := hide (show (l.take k).filter (fun x => !keyIs r i x) = l.filter (fun x => !keyIs r i x) by rw [List.take_of_length_le (by rw [← HN.out]; exact Nat.le_refl _)])
      rw [E.out] at h
      have H := hide h
      clear h
      go_wp2_with fail
      go_ret
      exact ⟨_, rfl, H.out.pick (L' := growR 69 3 PutR (.slice C q e) (l.filter (fun x => !keyIs r i x)) :: L) 2 [0]⟩
set_option maxHeartbeats 1000000 in
set_option maxRecDepth 100000 in
theorem others_st {M0 : Imm} {L : List Res} (l : List PU) (r : Int) (A : Option Addr) (n c : Nat) (w : World) (m : Nat) (hm : L[m]? = some (rowsR 3 PutR (.slice A n c) l)) (hl : l.length ≤ 1000000) (h : St M0 w L) :
    Calls Try.prog 86 #[.slice A n c, .int .i64 r] w fun e w' => ∃ v, e = .returned v ∧ St M0 w' (growR 69 3 PutR v (l.filter (fun x => !inReg r x)) :: L) := by
  obtain ⟨A', c', e, hc, hcm⟩ := (h.getRows m hm).slice
  injection e with e1 e2 e3
  subst e1; subst e3
  have HN := hide e2
  have hnc : n ≤ c := by omega
  have hn1 : n ≤ 1000000 := by omega
  have H := hide (h.nilGrow 69 3 PutR)
  clear h e2 hl hc
  go_enter Try.func86, Try.ntmps86
  go_wp2_with fail
  go_loopg [5, 6] n (fun gh ov iv wr => ∃ (k : Nat) (C : Option Addr) (q e : Nat), gh = n - k ∧ k ≤ n ∧ ov = .slice C q e ∧ iv = .int .i64 (k : Nat) ∧ q = ((l.take k).filter (fun x => !inReg r x)).length ∧ St M0 wr (growR 69 3 PutR (.slice C q e) ((l.take k).filter (fun x => !inReg r x)) :: L))
  case atStart => exact ⟨0, none, 0, 0, rfl, by omega, rfl, rfl, rfl, H.out⟩
  case round =>
    clear H
    obtain ⟨k, C, q, e, hg, hk, rfl, rfl, hq, h⟩ := hrel
    have HG := hide hg
    have HJ := hide h
    have HQ := hide hq
    clear hg hq
    by_cases hlt : k < n
    · have hx := List.getElem?_eq_getElem (l := l) (i := k) (by rw [← HN.out]; exact hlt)
      generalize l[k]'(by rw [← HN.out]; exact hlt) = x at hx
      obtain ⟨ad, cs, rfl, _, hcs, ⟨v, rfl, hv⟩, h1⟩ := h.elem (m + 1) hm hx
      obtain ⟨X, xc, rfl, _, _, _⟩ := id hv
      obtain ⟨f0, f1, f2⟩ := cells3 hcs
      have hqn : q ≤ 1000000 := by
        have h8 := List.length_filter_le ((fun x => !inReg r x)) (l.take k)
        rw [List.length_take] at h8
        have h9 := HQ.out
        omega
      have i0 : (0 : Int) ≤ (k : Int) := by omega
      have i1 : (k : Int) < (n : Int) := by omega
      have HX := hide hx
      have H1 := hide (h1.pers1 (R' := fun w' => PutR w' [.int .i64 x.region, .int .i64 x.index, .slice X x.data.length xc] x) (fun w' hw => hw.2))
      clear hcs hv h hx h1
      by_cases cr : x.region = r
      · have br : (x.region == r) = true := isT cr
        have bn : (x.region != r) = false := by rw [bne, br]; rfl
        clear cr
        have E := hide (show (l.take (k + 1)).filter (fun x => !inReg r x) = (l.take k).filter (fun x => !inReg r x) by rw [filter_snoc _ HX.out, if_neg (by unfold inReg; rw [br]; decide), List.append_nil])
        go_wp2_with fail
        go_roundg (n - (k + 1))
        case measure => have := HG.out; omega
        case rel => exact ⟨k + 1, C, q, e, rfl, by omega, rfl, by go_num, by rw [E.out]; exact HQ.out, by rw [E.out]; exact HJ.out⟩
      · have br : (x.region == r) = false := isF cr
        have bn : (x.region != r) = true := by rw [bne, br]; rfl
        clear cr
        have E := hide (show (l.take (k + 1)).filter (fun x => !inReg r x) = (l.take k).filter (fun x => !inReg r x) ++ [x] by rw [filter_snoc _ HX.out, if_pos (by unfold inReg; rw [br]; rfl)])
        have h6 := (H1.out.alloc 69 #[.int .i64 x.region, .int .i64 x.index, .slice X x.data.length xc]).pick (L' := growR 69 3 PutR (.slice C q e) ((l.take k).filter (fun x => !inReg r x)) :: blkR wr.heap.size 69 #[.int .i64 x.region, .int .i64 x.index, .slice X x.data.length xc] :: persR (fun w' => PutR w' [.int .i64 x.region, .int .i64 x.index, .slice X x.data.length xc] x) :: L) 3 [2, 0, 1]
        obtain ⟨vs, hq2, hxl, h7⟩ := h6.openGrowS
        have H7 := hide h7
        have HQ2 := hide hq2
        have HXL := hide hxl
        clear h6 h7 hq2 hxl H1
        go_wp2_with (at_builtin; refine St.app_step rput_elem H7.out rfl _ _ rfl rfl (some ⟨wr.heap.size, 0, none⟩) 1 1 rfl [.int .i64 x.region, .int .i64 x.index, .slice X x.data.length xc] (sl_blkN (cs := [.int .i64 x.region, .int .i64 x.index, .slice X x.data.length xc]) (H7.out.blk 2 rfl)) (put_one _ _ _ _ _) (by omega) (by omega) ?_; intro A6 c6 w7 h9)
        have h10 := (h9.pick (L' := rowR 69 3 (.slice A6 (q + 1) c6) (q + 1) (vs ++ [.int .i64 x.region, .int .i64 x.index, .slice X x.data.length xc]) :: persR (fun w => ∀ (j : Nat) p, ((l.take k).filter (fun x => !inReg r x))[j]? = some p → PutR w ((vs.drop (j * 3)).take 3) p) :: persR (fun w' => PutR w' [.int .i64 x.region, .int .i64 x.index, .slice X x.data.length xc] x) :: L) 4 [0, 1, 3]).snocGrow HQ2.out rfl HXL.out
        have H10 := hide h10
        clear h9 h10 H7
        go_roundg (n - (k + 1))
        case measure => have := HG.out; omega
        case rel => exact ⟨k + 1, A6, q + 1, c6, rfl, by omega, rfl, by go_num, by rw [E.out, List.length_append, ← HQ.out]; rfl, by rw [E.out]; exact H10.out⟩
    · obtain rfl : k = n := by omega
      have E := hide (show (l.take k).filter (fun x => !inReg r x) = l.filter (fun x => !inReg r x) by rw [List.take_of_length_le (by rw [← HN.out]; exact Nat.le_refl _)])
      rw [E.out] at h
      have H := hide h
      clear h
      go_wp2_with fail
      go_ret
      exact ⟨_, rfl, H.out⟩
set_option maxHeartbeats 1000000 in
set_option maxRecDepth 100000 in
theorem dirtyD_st {M0 : Imm} {L : List Res} (g : Nat) (bl l : List PU) (r : Int) (w : World) (hl : l.length ≤ 1000000) (h : St M0 w (docR g bl l :: L)) :
    Calls Try.prog 38 #[.pointer (some ⟨g, 0, none⟩), .int .i64 r] w fun e w' => ∃ v, e = .returned v ∧ St M0 w' (growR 69 3 PutR v (l.filter (inReg r)) :: docR g bl l :: L) := by
  obtain ⟨A0, c0, A, c, _, hc, _, hcm, h0⟩ := h.docO
  obtain ⟨n, hn⟩ : ∃ n, n = l.length := ⟨_, rfl⟩
  rw [← hn] at hc h0
  have HN := hide hn
  have hnc : n ≤ c := hc
  have hn1 : n ≤ 1000000 := by omega
  have k0 := (h0.blk 0 rfl).cell 1
  have H := hide (h0.nilGrow 69 3 PutR)
  clear h h0 hn hl hc
  go_enter Try.func38, Try.ntmps38
  go_wp2_with fail
  go_loopg [5, 6] n (fun gh ov iv wr => ∃ (k : Nat) (C : Option Addr) (q e : Nat), gh = n - k ∧ k ≤ n ∧ ov = .slice C q e ∧ iv = .int .i64 (k : Nat) ∧ q = ((l.take k).filter (inReg r)).length ∧ St M0 wr (growR 69 3 PutR (.slice C q e) ((l.take k).filter (inReg r)) :: blkR g 47 #[.slice A0 bl.length c0, .slice A n c] :: rowsR 3 PutR (.slice A0 bl.length c0) bl :: rowsR 3 PutR (.slice A n c) l :: L))
  case atStart => exact ⟨0, none, 0, 0, rfl, by omega, rfl, rfl, rfl, H.out⟩
  case round =>
    clear H k0
    obtain ⟨k, C, q, e, hg, hk, rfl, rfl, hq, h⟩ := hrel
    have HG := hide hg
    have HJ := hide h
    have HQ := hide hq
    clear hg hq
    have k0 := (h.blk 1 rfl).cell 1
    by_cases hlt : k < n
    · have hx := List.getElem?_eq_getElem (l := l) (i := k) (by rw [← HN.out]; exact hlt)
      generalize l[k]'(by rw [← HN.out]; exact hlt) = x at hx
      obtain ⟨ad, cs, rfl, _, hcs, ⟨v, rfl, hv⟩, h1⟩ := h.elem 3 rfl hx
      obtain ⟨X, xc, rfl, _, _, _⟩ := id hv
      obtain ⟨f0, f1, f2⟩ := cells3 hcs
      have hqn : q ≤ 1000000 := by
        have h8 := List.length_filter_le ((inReg r)) (l.take k)
        rw [List.length_take] at h8
        have h9 := HQ.out
        omega
      have i0 : (0 : Int) ≤ (k : Int) := by omega
      have i1 : (k : Int) < (n : Int) := by omega
      have HX := hide hx
      have H1 := hide (h1.pers1 (R' := fun w' => PutR w' [.int .i64 x.region, .int .i64 x.index, .slice X x.data.length xc] x) (fun w' hw => hw.2))
      clear hcs hv h hx h1
      by_cases cr : x.region = r
      · have br : (x.region == r) = true := isT cr
        clear cr
        have E := hide (show (l.take (k + 1)).filter (inReg r) = (l.take k).filter (inReg r) ++ [x] by rw [filter_snoc _ HX.out, if_pos (by unfold inReg; rw [br])])
        have h6 := (H1.out.alloc 69 #[.int .i64 x.region, .int .i64 x.index, .slice X x.data.length xc]).pick (L' := growR 69 3 PutR (.slice C q e) ((l.take k).filter (inReg r)) :: blkR wr.heap.size 69 #[.int .i64 x.region, .int .i64 x.index, .slice X x.data.length xc] :: persR (fun w' => PutR w' [.int .i64 x.region, .int .i64 x.index, .slice X x.data.length xc] x) :: blkR g 47 #[.slice A0 bl.length c0, .slice (some ad) n c] :: rowsR 3 PutR (.slice A0 bl.length c0) bl :: rowsR 3 PutR (.slice (some ad) n c) l :: L) 3 [2, 0, 1]
        obtain ⟨vs, hq2, hxl, h7⟩ := h6.openGrowS
        have H7 := hide h7
        have HQ2 := hide hq2
        have HXL := hide hxl
        clear h6 h7 hq2 hxl H1
        go_wp2_with (at_builtin; refine St.app_step rput_elem H7.out rfl _ _ rfl rfl (some ⟨wr.heap.size, 0, none⟩) 1 1 rfl [.int .i64 x.region, .int .i64 x.index, .slice X x.data.length xc] (sl_blkN (cs := [.int .i64 x.region, .int .i64 x.index, .slice X x.data.length xc]) (H7.out.blk 2 rfl)) (put_one _ _ _ _ _) (by omega) (by omega) ?_; intro A6 c6 w7 h9)
        have h10 := (h9.pick (L' := rowR 69 3 (.slice A6 (q + 1) c6) (q + 1) (vs ++ [.int .i64 x.region, .int .i64 x.index, .slice X x.data.length xc]) :: persR (fun w => ∀ (j : Nat) p, ((l.take k).filter (inReg r))[j]? = some p → PutR w ((vs.drop (j * 3)).take 3) p) :: persR (fun w' => PutR w' [.int .i64 x.region, .int .i64 x.index, .slice X x.data.length xc] x) :: blkR g 47 #[.slice A0 bl.length c0, .slice (some ad) n c] :: rowsR 3 PutR (.slice A0 bl.length c0) bl :: rowsR 3 PutR (.slice (some ad) n c) l :: L) 4 [0, 1, 3]).snocGrow HQ2.out rfl HXL.out
        have H10 := hide h10
        clear h9 h10 H7
        go_roundg (n - (k + 1))
        case measure => have := HG.out; omega
        case rel => exact ⟨k + 1, A6, q + 1, c6, rfl, by omega, rfl, by go_num, by rw [E.out, List.length_append, ← HQ.out]; rfl, by rw [E.out]; exact H10.out⟩
      · have br : (x.region == r) = false := isF cr
        clear cr
        have E := hide (show (l.take (k + 1)).filter (inReg r) = (l.take k).filter (inReg r) by rw [filter_snoc _ HX.out, if_neg (by unfold inReg; rw [br]; decide), List.append_nil])
        go_wp2_with fail
        go_roundg (n - (k + 1))
        case measure => have := HG.out; omega
        case rel => exact ⟨k + 1, C, q, e, rfl, by omega, rfl, by go_num, by rw [E.out]; exact HQ.out, by rw [E.out]; exact HJ.out⟩
    · obtain rfl : k = n := by omega
      have E := hide (show (l.take k).filter (inReg r) = l.filter (inReg r) by rw [List.take_of_length_le (by rw [← HN.out]; exact Nat.le_refl _)])
      rw [E.out] at h
      have H := hide h
      clear h
      go_wp2_with fail
      go_ret
      exact ⟨_, rfl, (H.out.pick (L' := blkR g 47 #[.slice A0 bl.length c0, .slice A k c] :: rowsR 3 PutR (.slice A0 bl.length c0) bl :: rowsR 3 PutR (.slice A k c) l :: growR 69 3 PutR (.slice C q e) (l.filter (inReg r)) :: L) 4 [1, 2, 3, 0]).docC.swap⟩
end Go.Proofs.Ytbgknfdaaffeaaa
