/- Locks: Pack. Printed by gen_lkp.py. -/
import Derived.Test.YtbgknfdaaffeaaaLkK
import Derived.Test.YtbgknfdaaffeaaaLkUm
import Derived.Test.YtbgknfdaaffeaaaPackN
import Derived.Deep.MidRow
namespace Go.Proofs.Ytbgknfdaaffeaaa
open Go.RowKit Go.Shelf

section
variable {P : Program} {ops : Array Oper} {rest : List Oper} {o : Oper} {ac : Act} {Q : Exit → Act → World → Prop} {w w' : World} {v : Value}
theorem at_indexL (hgd : o.guard = none) (t : TypeId) (x y : Operand) (p u : Value) (ho : o.op = .index t x y) (hx : ac.eval x = p) (hy : ac.eval y = u)
    (hrun : (Instr.index t p u).run P w = .ok v w') (h : wpList P ops Q rest (ac.put o.dst v) w') : wpList P ops Q (o :: rest) ac w := by
  refine wpList_plain hgd fun K hK => ?_
  unfold Oper.wp execOp
  simp only [ho, hx, hy, Sem.run_bind, Sem.run_pure, Result.andThen_ok, hrun]
  exact hK _ _ h
end
/-- the regions' slices, in a row -/
def regA (vs : Nat → RegV) : Array Value := #[.slice (vs 0).h.a (vs 0).h.n (vs 0).h.c, .slice (vs 0).w.a (vs 0).w.n (vs 0).w.c, .slice (vs 1).h.a (vs 1).h.n (vs 1).h.c, .slice (vs 1).w.a (vs 1).w.n (vs 1).w.c,
  .slice (vs 2).h.a (vs 2).h.n (vs 2).h.c, .slice (vs 2).w.a (vs 2).w.n (vs 2).w.c, .slice (vs 3).h.a (vs 3).h.n (vs 3).h.c, .slice (vs 3).w.a (vs 3).w.n (vs 3).w.c]
theorem regs_load {w : World} {g : Nat} {now last : Int} {vs : Nat → RegV} (h : Blk w g 79 (tabC now last vs)) : (Instr.loadAt 77 (.pointer (some ⟨g, 2, none⟩))).run Try.prog w = .ok (.agg (regA vs)) w := by
  have hr : w.rangeAt g 2 (regA vs).toList := fun j u hu => by
    rw [h.cell]
    match j, hu with
    | 0, hu => exact hu
    | 1, hu => exact hu
    | 2, hu => exact hu
    | 3, hu => exact hu
    | 4, hu => exact hu
    | 5, hu => exact hu
    | 6, hu => exact hu
    | 7, hu => exact hu
    | j + 8, hu => simp [regA] at hu
  have := run_loadAt_mid (P := Try.prog) w g 2 77 (regA vs).toList _ hr Try.underlying77 rfl (by kernel_rfl)
  simpa using this
theorem regs_index (vs : Nat → RegV) {k : Nat} (hk : k < 4) (w : World) : (Instr.index 77 (.agg (regA vs)) (.int .i64 (k : Nat))).run Try.prog w = .ok (.agg #[.slice (vs k).h.a (vs k).h.n (vs k).h.c, .slice (vs k).w.a (vs k).w.n (vs k).w.c]) w := by
  rcases lt4T hk with rfl | rfl | rfl | rfl <;> kernel_rfl
def big4 (vs : Nat → RegV) (r : Nat → RegM) : Res := bigR [regT vs r 0, regT vs r 1, regT vs r 2, regT vs r 3]
theorem St.flat4 {M0 : Imm} {w : World} {L : List Res} {vs : Nat → RegV} {r : Nat → RegM} (h : St M0 w (big4 vs r :: L)) {i : Nat} (hi : i < 4) : FlatP holdC 4 w (.slice (vs i).h.a (vs i).h.n (vs i).h.c) (r i).h ∧ FlatP wantC 2 w (.slice (vs i).w.a (vs i).w.n (vs i).w.c) (r i).w := by
  have h2 : St M0 w (regT vs r 0 :: regT vs r 1 :: regT vs r 2 :: regT vs r 3 :: L) := h.big
  have key : ∀ {X : Res} {L' : List Res}, St M0 w (X :: L') → X = regT vs r i → FlatP holdC 4 w (.slice (vs i).h.a (vs i).h.n (vs i).h.c) (r i).h ∧ FlatP wantC 2 w (.slice (vs i).w.a (vs i).w.n (vs i).w.c) (r i).w := fun h e => by
    subst e
    have h3 := h.star
    exact ⟨h3.flatO At.here, h3.swap.flatK At.here⟩
  rcases lt4T hi with rfl | rfl | rfl | rfl
  · exact key h2 rfl
  · exact key h2.tail rfl
  · exact key h2.tail.tail rfl
  · exact key h2.tail.tail.tail rfl
theorem St.tabBig {M0 : Imm} {w : World} {L : List Res} {g : Nat} {T : TabM} (h : St M0 w (tabR g T :: L)) : ∃ vs, St M0 w (tabB g T.now T.last vs :: big4 vs T.r :: L) := by
  obtain ⟨vs, h1⟩ := h.ex
  exact ⟨vs, h1.star⟩
theorem St.bigTab {M0 : Imm} {w : World} {L : List Res} {g : Nat} {T : TabM} {vs : Nat → RegV} (h : St M0 w (tabB g T.now T.last vs :: big4 vs T.r :: L)) : St M0 w (tabR g T :: L) :=
  St.addEx (f := fun vs => starR (tabB g T.now T.last vs) (bigR [regT vs T.r 0, regT vs T.r 1, regT vs T.r 2, regT vs T.r 3])) vs h.addStar
/-- a table whose numbers fit -/
structure PackOk (T : TabM) : Prop where
  h : ∀ i, i < 4 → ∀ x ∈ (T.r i).h, (0 ≤ x.c ∧ x.c ≤ 255) ∧ (0 ≤ x.m ∧ x.m ≤ 255) ∧ (0 ≤ x.t ∧ x.t ≤ 18446744073709551615) ∧ (0 ≤ x.u ∧ x.u ≤ 18446744073709551615)
  w : ∀ i, i < 4 → ∀ x ∈ (T.r i).w, (0 ≤ x.c ∧ x.c ≤ 255) ∧ (0 ≤ x.m ∧ x.m ≤ 255)
set_option maxHeartbeats 8000000 in
set_option maxRecDepth 100000 in
theorem packL_st {M0 : Imm} {L : List Res} (g : Nat) (T : TabM) (w : World) (hok : TabOk T) (hpk : PackOk T) (h : St M0 w (tabR g T :: L)) :
    Calls Try.prog 59 #[.pointer (some ⟨g, 0, none⟩)] w fun e w' => ∃ v, e = .returned v ∧ St M0 w' (rowR 5 1 v (packT T).length (bv (packT T)) :: tabR g T :: L) := by
  obtain ⟨vs, h0⟩ := h.tabBig
  have h1 := h0.nilRow 5 1
  have h2 := h1.alloc 194 #[.slice none 0 0]
  have h3 := St.addWr (xs := []) h2 rfl
  have c0 : (w.alloc (.cells #[.slice none 0 0] 194)).cell? ⟨g, 0, none⟩ = some (.int .u64 T.now) := (h3.blk 1 rfl).cell 0
  generalize hgw : w.heap.size = gw at h3
  have HGW := hide hgw
  have H := hide h3
  have HOK := hide hok
  have HPK := hide hpk
  clear h h0 h1 h2 h3 hok hpk hgw
  go_enter Try.func59, Try.ntmps59
  go_wp2_with fail
  rw [HGW.out]
  clear c0 HGW
  refine (num_st gw T.now 8 [] _ (by simp) H.out).mono ?_
  rintro e w1 ⟨rfl, h⟩
  have c1 : w1.cell? ⟨g, 1, none⟩ = some (.int .u64 T.last) := (h.blk 1 rfl).cell 1
  have H1 := hide h
  clear h H
  go_wp2_with fail
  refine (num_st gw T.last 8 _ _ (by have := numI_length T.now 8; simp only [List.nil_append]; omega) H1.out).mono ?_
  rintro e w2 ⟨rfl, h⟩
  obtain ⟨P0, hP0⟩ : ∃ P0, P0 = numI T.now 8 ++ numI T.last 8 := ⟨_, rfl⟩
  rw [List.nil_append, ← hP0] at h
  have HP0 := hide hP0
  have hpl : P0.length ≤ 16 := by have := numI_length T.now 8; have := numI_length T.last 8; rw [hP0, List.length_append]; omega
  have HLD := hide (regs_load (h.blk 1 rfl))
  have H2 := hide h
  clear h H1 c1 hP0
  go_wp2_with ((with_reducible apply at_load (t := 77)); (focus rfl); (focus rfl); (focus rfl); (focus exact HLD.out))
  clear HLD
  go_loopg [24] 4 (fun gh iv wr => ∃ (k : Nat) (xs : List Int), gh = 4 - k ∧ k ≤ 4 ∧ iv = .int .i64 (k : Nat) ∧ xs = P0 ++ lpackTo T.r k ∧ xs.length ≤ 16 + 1000 * k ∧ St M0 wr (wrR gw xs :: tabB g T.now T.last vs :: big4 vs T.r :: L))
  case atStart => exact ⟨0, P0, rfl, by omega, rfl, by simp [lpackTo], by omega, H2.out⟩
  case round =>
    clear H2
    obtain ⟨k, xs, hgh, hk, rfl, hxs, hxl, h⟩ := hrel
    have HG := hide hgh
    have HXS := hide hxs
    clear hgh hxs
    by_cases hk4 : k < 4
    · obtain ⟨⟨A, n, c⟩, ⟨B, m, d⟩, hvi⟩ : ∃ hv wv, vs k = ⟨hv, wv⟩ := ⟨_, _, rfl⟩
      have hidx := regs_index vs hk4
      rw [hvi] at hidx
      have HIDX := hide hidx
      obtain ⟨hs, hhs⟩ : ∃ hs, hs = (T.r k).h := ⟨_, rfl⟩
      obtain ⟨ws, hws⟩ : ∃ ws, ws = (T.r k).w := ⟨_, rfl⟩
      have hf := (h.front (X := big4 vs T.r) (by (repeat (first | with_reducible exact At.here | with_reducible apply At.there)))).flat4 hk4
      rw [hvi, ← hhs, ← hws] at hf
      obtain ⟨hn0, hnc, hcm, _⟩ := hf.1.sl
      obtain ⟨hmw0, hmd, hdm, _⟩ := hf.2.sl
      have hn : n = hs.length := hn0
      have hmw : m = ws.length := hmw0
      clear hn0 hmw0
      have hn4 : n ≤ 4 := by have := HOK.out.hl k hk4; rw [← hhs] at this; omega
      have hm4 : m ≤ 4 := by have := HOK.out.wl k hk4; rw [← hws] at this; omega
      have HPH := hide (show ∀ x ∈ hs, (0 ≤ x.c ∧ x.c ≤ 255) ∧ (0 ≤ x.m ∧ x.m ≤ 255) ∧ (0 ≤ x.t ∧ x.t ≤ 18446744073709551615) ∧ (0 ≤ x.u ∧ x.u ≤ 18446744073709551615) by rw [hhs]; exact HPK.out.h k hk4)
      have HPW := hide (show ∀ x ∈ ws, (0 ≤ x.c ∧ x.c ≤ 255) ∧ (0 ≤ x.m ∧ x.m ≤ 255) by rw [hws]; exact HPK.out.w k hk4)
      have HVI := hide hvi
      have HHS := hide hhs
      have HWS := hide hws
      have HN := hide hn
      have HNW := hide hmw
      have wn : IntKind.u64.wrap (n : Int) = n := IntWalk.u64_in _ (by omega)
      have wmm : IntKind.u64.wrap (m : Int) = m := IntWalk.u64_in _ (by omega)
      have h4 := (h.alloc 76 #[.slice A n c, .slice B m d]).swap
      generalize hy : wr.heap.size = y at h4
      have HY := hide hy
      have H1 := hide h4
      have k0 : (0 : Int) ≤ (k : Int) := by omega
      have k1 : (k : Int) < 4 := by omega
      clear h h4 hidx hvi hhs hws hf hn hmw hy
      go_wp2_with ((with_reducible apply at_indexL (t := 77)); (focus rfl); (focus rfl); (focus rfl); (focus rfl); (focus exact HIDX.out _))
      rw [HY.out]
      clear HIDX HY
      refine (num_st gw n 1 xs _ (by omega) H1.out).mono ?_
      rintro e w2 ⟨rfl, h⟩
      obtain ⟨ys, hys⟩ : ∃ ys, ys = xs ++ numI (n : Int) 1 := ⟨_, rfl⟩
      rw [← hys] at h
      have hyl : ys.length ≤ xs.length + 8 := by have := numI_length n 1; rw [hys, List.length_append]; omega
      have s0 : w2.cell? ⟨y, 0, none⟩ = some (.slice A n c) := (h.blk 1 rfl).cell 0
      have HYS := hide hys
      have H3 := hide h
      clear h H1 hys
      go_wp2_with fail
      clear s0
      go_loopg [35] n (fun gh jv wr => ∃ (j : Nat) (zs : List Int), gh = n - j ∧ j ≤ n ∧ jv = .int .i64 (j : Nat) ∧ zs = ys ++ (hs.take j).flatMap holdB ∧ zs.length ≤ ys.length + 32 * j ∧ St M0 wr (wrR gw zs :: blkR y 76 #[.slice A n c, .slice B m d] :: tabB g T.now T.last vs :: big4 vs T.r :: L))
      case atStart => exact ⟨0, ys, rfl, by omega, rfl, by simp, by omega, H3.out⟩
      case round =>
        clear H3
        obtain ⟨j, zs, hgj, hj, rfl, hzs, hzl, h⟩ := hrel
        have HGJ := hide hgj
        have HZS := hide hzs
        clear hgj hzs
        by_cases hlt : j < n
        · have hfl := ((h.front (X := big4 vs T.r) (by (repeat (first | with_reducible exact At.here | with_reducible apply At.there)))).flat4 hk4).1
          rw [HVI.out, ← HHS.out] at hfl
          have hx := List.getElem?_eq_getElem (l := hs) (i := j) (by rw [← HN.out]; exact hlt)
          generalize hs[j]'(by rw [← HN.out]; exact hlt) = z at hx
          have hzm := HPH.out z (List.mem_of_getElem? hx)
          obtain ⟨ad, hae, hcs⟩ := hfl.at_ holdC_len hx
          cases hae
          obtain ⟨e0, e1, e2, e3⟩ := cells4F hcs
          have HZ2 := hide (show zs ++ holdB z = ys ++ (hs.take (j + 1)).flatMap holdB by rw [HZS.out, List.take_add_one, hx]; simp)
          have j0 : (0 : Int) ≤ (j : Int) := by omega
          have j1 : (j : Int) < (n : Int) := by omega
          have h4 := (h.alloc 91 #[.int .i64 z.c, .int .i64 z.m, .int .u64 z.t, .int .u64 z.u]).swap
          generalize hy2 : wr.heap.size = y2 at h4
          have HY2 := hide hy2
          have H4 := hide h4
          have wc : IntKind.u64.wrap z.c = z.c := IntWalk.u64_in _ (by omega)
          have wm : IntKind.u64.wrap z.m = z.m := IntWalk.u64_in _ (by omega)
          clear h h4 hx hcs hfl hy2
          go_wp2_with fail
          rw [HY2.out]
          clear e0 e1 e2 e3
          refine (num_st gw z.c 1 (zs) _ (by  (try simp only [List.length_append]); omega) H4.out).mono ?_
          rintro e w0 ⟨rfl, h5⟩
          have x0 : w0.cell? ⟨y2, 1, none⟩ = some (.int .i64 z.m) := (h5.blk 1 rfl).cell 1
          have K0 := hide h5
          clear H4 h5
          go_wp2_with fail
          refine (num_st gw z.m 1 (zs ++ numI z.c 1) _ (by have := numI_length z.c 1; (try simp only [List.length_append]); omega) K0.out).mono ?_
          rintro e w1 ⟨rfl, h5⟩
          have x1 : w1.cell? ⟨y2, 2, none⟩ = some (.int .u64 z.t) := (h5.blk 1 rfl).cell 2
          have K1 := hide h5
          clear K0 h5
          go_wp2_with fail
          refine (num_st gw z.t 8 (zs ++ numI z.c 1 ++ numI z.m 1) _ (by have := numI_length z.c 1; have := numI_length z.m 1; (try simp only [List.length_append]); omega) K1.out).mono ?_
          rintro e w2 ⟨rfl, h5⟩
          have x2 : w2.cell? ⟨y2, 3, none⟩ = some (.int .u64 z.u) := (h5.blk 1 rfl).cell 3
          have K2 := hide h5
          clear K1 h5
          go_wp2_with fail
          refine (num_st gw z.u 8 (zs ++ numI z.c 1 ++ numI z.m 1 ++ numI z.t 8) _ (by have := numI_length z.c 1; have := numI_length z.m 1; have := numI_length z.t 8; (try simp only [List.length_append]); omega) K2.out).mono ?_
          rintro e w3 ⟨rfl, h5⟩
          have H9 := hide (show St M0 _ (wrR gw (zs ++ holdB z) :: blkR y 76 #[.slice (some ad) n c, .slice B m d] :: tabB g T.now T.last vs :: big4 vs T.r :: L) by
            have e : zs ++ holdB z = zs ++ numI z.c 1 ++ numI z.m 1 ++ numI z.t 8 ++ numI z.u 8 := by unfold holdB; simp only [List.append_assoc]
            rw [e]
            exact h5.sub (by (repeat (first | with_reducible exact Sub.refl _ | (with_reducible apply Sub.take; focus (repeat (first | with_reducible exact At.here | with_reducible apply At.there))) | with_reducible apply Sub.drop))))
          clear K2 h5
          go_wp2_with fail
          go_roundg (n - (j + 1))
          case measure => have := HGJ.out; omega
          case rel => exact ⟨j + 1, zs ++ holdB z, rfl, by omega, by go_num, HZ2.out, by have := numI_length z.c 1; have := numI_length z.m 1; have := numI_length z.t 8; have := numI_length z.u 8; unfold holdB; simp only [List.length_append]; omega, H9.out⟩
        · obtain rfl : n = j := by omega
          have HZF := hide (show zs = ys ++ hs.flatMap holdB by rw [HZS.out, List.take_of_length_le (by rw [← HN.out]; exact Nat.le_refl _)])
          have s1 : wr.cell? ⟨y, 1, none⟩ = some (.slice B m d) := (h.blk 1 rfl).cell 1
          have H5 := hide h
          clear h HZS HGJ
          go_wp2_with fail
          clear s1
          refine (num_st gw m 1 zs _ (by omega) H5.out).mono ?_
          rintro e w3 ⟨rfl, h⟩
          obtain ⟨ys2, hys2⟩ : ∃ ys2, ys2 = zs ++ numI (m : Int) 1 := ⟨_, rfl⟩
          rw [← hys2] at h
          have hyl2 : ys2.length ≤ zs.length + 8 := by have := numI_length m 1; rw [hys2, List.length_append]; omega
          have s1 : w3.cell? ⟨y, 1, none⟩ = some (.slice B m d) := (h.blk 1 rfl).cell 1
          have HY2S := hide hys2
          have H3 := hide h
          clear h H5 hys2
          go_wp2_with fail
          clear s1
          go_loopg [62] m (fun gh jv wr => ∃ (j : Nat) (us : List Int), gh = m - j ∧ j ≤ m ∧ jv = .int .i64 (j : Nat) ∧ us = ys2 ++ (ws.take j).flatMap wantB ∧ us.length ≤ ys2.length + 16 * j ∧ St M0 wr (wrR gw us :: blkR y 76 #[.slice A n c, .slice B m d] :: tabB g T.now T.last vs :: big4 vs T.r :: L))
          case atStart => exact ⟨0, ys2, rfl, by omega, rfl, by simp, by omega, H3.out⟩
          case round =>
            clear H3
            obtain ⟨j, us, hgj, hj, rfl, hus, hzl, h⟩ := hrel
            have HGJ := hide hgj
            have HUS := hide hus
            clear hgj hus
            by_cases hlt : j < m
            · have hfl := ((h.front (X := big4 vs T.r) (by (repeat (first | with_reducible exact At.here | with_reducible apply At.there)))).flat4 hk4).2
              rw [HVI.out, ← HWS.out] at hfl
              have hx := List.getElem?_eq_getElem (l := ws) (i := j) (by rw [← HNW.out]; exact hlt)
              generalize ws[j]'(by rw [← HNW.out]; exact hlt) = z at hx
              have hzm := HPW.out z (List.mem_of_getElem? hx)
              obtain ⟨ad, hae, hcs⟩ := hfl.at_ wantC_len hx
              cases hae
              obtain ⟨e0, e1⟩ := cells2F hcs
              have HU2 := hide (show us ++ wantB z = ys2 ++ (ws.take (j + 1)).flatMap wantB by rw [HUS.out, List.take_add_one, hx]; simp)
              have j0 : (0 : Int) ≤ (j : Int) := by omega
              have j1 : (j : Int) < (m : Int) := by omega
              have h4 := (h.alloc 87 #[.int .i64 z.c, .int .i64 z.m]).swap
              generalize hy2 : wr.heap.size = y2 at h4
              have HY2 := hide hy2
              have H4 := hide h4
              have wc : IntKind.u64.wrap z.c = z.c := IntWalk.u64_in _ (by omega)
              have wm : IntKind.u64.wrap z.m = z.m := IntWalk.u64_in _ (by omega)
              clear h h4 hx hcs hfl hy2
              go_wp2_with fail
              rw [HY2.out]
              clear e0 e1
              refine (num_st gw z.c 1 (us) _ (by  (try simp only [List.length_append]); omega) H4.out).mono ?_
              rintro e w0 ⟨rfl, h5⟩
              have x0 : w0.cell? ⟨y2, 1, none⟩ = some (.int .i64 z.m) := (h5.blk 1 rfl).cell 1
              have K0 := hide h5
              clear H4 h5
              go_wp2_with fail
              refine (num_st gw z.m 1 (us ++ numI z.c 1) _ (by have := numI_length z.c 1; (try simp only [List.length_append]); omega) K0.out).mono ?_
              rintro e w1 ⟨rfl, h5⟩
              have H9 := hide (show St M0 _ (wrR gw (us ++ wantB z) :: blkR y 76 #[.slice A n c, .slice (some ad) m d] :: tabB g T.now T.last vs :: big4 vs T.r :: L) by
                have e : us ++ wantB z = us ++ numI z.c 1 ++ numI z.m 1 := by unfold wantB; simp only [List.append_assoc]
                rw [e]
                exact h5.sub (by (repeat (first | with_reducible exact Sub.refl _ | (with_reducible apply Sub.take; focus (repeat (first | with_reducible exact At.here | with_reducible apply At.there))) | with_reducible apply Sub.drop))))
              clear K0 h5
              go_wp2_with fail
              go_roundg (m - (j + 1))
              case measure => have := HGJ.out; omega
              case rel => exact ⟨j + 1, us ++ wantB z, rfl, by omega, by go_num, HU2.out, by have := numI_length z.c 1; have := numI_length z.m 1; unfold wantB; simp only [List.length_append]; omega, H9.out⟩
            · obtain rfl : m = j := by omega
              have HXF := hide (show us = P0 ++ lpackTo T.r (k + 1) by
                rw [HUS.out, List.take_of_length_le (by rw [← HNW.out]; exact Nat.le_refl _), HY2S.out, HZF.out, HYS.out, HXS.out, lpackTo_succ]
                unfold lregB
                rw [← HHS.out, ← HWS.out, ← HN.out, ← HNW.out]
                simp only [List.append_assoc])
              have H6 := hide (h.sub (L' := wrR gw us :: tabB g T.now T.last vs :: big4 vs T.r :: L) (by (repeat (first | with_reducible exact Sub.refl _ | (with_reducible apply Sub.take; focus (repeat (first | with_reducible exact At.here | with_reducible apply At.there))) | with_reducible apply Sub.drop))))
              clear h HGJ
              go_wp2_with fail
              go_roundg (4 - (k + 1))
              case measure => have := HG.out; omega
              case rel => exact ⟨k + 1, us, rfl, by omega, by go_num, HXF.out, by omega, H6.out⟩
    · obtain rfl : k = 4 := by omega
      have E := hide (show xs = packT T by rw [HXS.out, HP0.out]; rfl)
      have H6 := hide h
      clear h
      go_wp2_with fail
      refine (out_st gw xs _ (by omega) H6.out).mono ?_
      rintro e w3 ⟨v, rfl, h⟩
      have H7 := hide ((h.sub (L' := tabB g T.now T.last vs :: big4 vs T.r :: rowR 5 1 v xs.length (bv xs) :: L) (by (repeat (first | with_reducible exact Sub.refl _ | (with_reducible apply Sub.take; focus (repeat (first | with_reducible exact At.here | with_reducible apply At.there))) | with_reducible apply Sub.drop)))).bigTab)
      clear h H6
      go_wp2_with fail
      go_ret
      exact ⟨v, rfl, by rw [← E.out]; exact H7.out.swap⟩
end Go.Proofs.Ytbgknfdaaffeaaa
