/- Locks: slices.DeleteFunc over holds. -/
import Derived.Test.YtbgknfdaaffeaaaLkE
namespace Go.Proofs.Ytbgknfdaaffeaaa
open Go.RowKit Go.Shelf

theorem at_storeF {P : Program} {w : World} {ops : Array Oper} {rest : List Oper} {o : Oper} {ac : Act} {Q : Exit → Act → World → Prop} {s x : Operand} {v u : Value} {w' : World} (t : TypeId) (hgd : o.guard = none)
    (ho : o.op = .store t s x) (hs : ac.eval s = v) (hx : ac.eval x = u)
    (hr : (Instr.storeAt t v u).run P w = .ok () w') (k : wpList P ops Q rest (ac.put o.dst undef) w') : wpList P ops Q (o :: rest) ac w := by
  refine wpList_plain hgd fun K hK => ?_
  unfold Oper.wp execOp
  simp only [ho, Sem.run_bind, Sem.run_pure, Result.andThen_ok, hs, hx, hr]
  exact hK _ _ k
theorem set_snocF {α : Type} (zs : List α) (i : Nat) (z : α) (h : i < zs.length) : (zs.set i z).take (i + 1) = zs.take i ++ [z] := by
  rw [List.take_add_one, List.getElem?_set_self (by omega), List.take_set_of_le (Nat.le_refl i)]
  rfl
/-- an element is written -/
theorem St.ownPut {α : Type} {C : α → List Value} {size : Nat} {M0 : Imm} {w : World} {L : List Res} {e : TypeId} {b n c k : Nat} {xs : List α} (hC : ∀ x, (C x).length = size) (h : St M0 w (ownR C e size (.slice (some ⟨b, 0, none⟩) n c) xs :: L)) (hk : k < xs.length) (y : α) :
    St M0 (w.setCells b (k * size) (C y)) (ownR C e size (.slice (some ⟨b, 0, none⟩) n c) (xs.set k y) :: L) ∧ w.there b (k * size) size := by
  obtain ⟨h0, h1⟩ := h.ownOpen
  have hle : (k + 1) * size ≤ n * size := Nat.mul_le_mul_right _ (by omega)
  rw [Nat.add_mul, Nat.one_mul] at hle
  have h2 := h1.rowSplice (k * size) (C y) (by rw [hC]; omega)
  have e1 : splice (xs.flatMap C) (k * size) (C y) = (xs.set k y).flatMap C := by
    have hz := flatZ_splice (xs.map fun x => (C x, x)) [(C y, y)] (flatC_sized hC xs) (fun p hp => (by simpa using hp : p = (C y, y)) ▸ hC y) k (by simp; omega)
    rw [flatC_Z, show flatZ [(C y, y)] = C y by simp [flatZ]] at hz
    have e2 : splice (xs.map fun x => (C x, x)) k [(C y, y)] = (xs.set k y).map fun x => (C x, x) := by
      unfold splice
      rw [List.map_set, List.set_eq_take_append_cons_drop, if_pos (by simpa using hk)]
      simp
    rw [hz, e2, flatC_Z]
  rw [e1] at h2
  exact ⟨h2.ownClose (by rw [List.length_set]; exact h0), own_there (h1.row 0 rfl) (k * size) size (by omega)⟩
set_option maxHeartbeats 2000000 in
set_option maxRecDepth 100000 in
theorem holdDelF_st {M0 : Imm} {L : List Res} (f : FuncId) (caps : Array Value) (p : HoldM → Bool) (l : List HoldM) (A : Option Addr) (n c : Nat) (w : World)
    (hC : ∀ (args : Array Value) (W : World), Sem.run Try.prog (callFunc f args) W = .ok (.enter f args) W)
    (hF : ∀ (X : Res) (x : HoldM) (W : World), x ∈ l → St M0 W (X :: L) → Calls Try.prog f (#[.agg (holdC x).toArray] ++ caps) W fun e W' => e = .returned (.bool (p x)) ∧ St M0 W' (X :: L))
    (h : St M0 w (ownR holdC 91 4 (.slice A n c) l :: L)) :
    Calls Try.prog 103 #[.slice A n c, .func (.func f) #[] caps] w fun e w' => ∃ v, e = .returned v ∧ St M0 w' (ownR holdC 91 4 v (l.filter (fun x => !p x)) :: L) := by
  have HI := hide (holdIdx_st f caps p l A n c w hC (fun W hW => hW.flatO At.here) (fun x W hx hW => hF _ x W hx hW) h)
  obtain ⟨e2, hnc, hcm, _⟩ := (h.flatO At.here).sl
  have HN := hide e2
  have HF := hide hF
  have HC := hide hC
  have HS := idxL_spec p l 0
  generalize idxL p 0 l = z at HI HS
  clear h e2 hF hC
  rcases HS with ⟨rfl, hk⟩ | ⟨k, x0, hk1, hkx, hpx, hkp⟩
  · have EK := hide (show l.filter (fun x => !p x) = l from List.filter_eq_self.2 (fun x hx => by have := List.any_eq_false.1 hk x hx; simpa using this))
    clear hk
    go_enter Try.func103, Try.ntmps103
    go_wp2_with fail
    refine HI.out.mono ?_
    rintro e w2 ⟨rfl, h⟩
    have H := hide h
    clear h HI
    go_wp2_with fail
    go_ret
    exact ⟨_, rfl, by rw [EK.out]; exact H.out⟩
  · rw [Nat.zero_add] at hk1
    subst hk1
    have hkl := (List.getElem?_eq_some_iff.1 hkx).1
    have hkn' : k < n := by have := HN.out; omega
    have EK := hide (show l.filter (fun x => !p x) = l.take k ++ (l.drop (k + 1)).filter (fun x => !p x) by
      conv => lhs; rw [← List.take_append_drop k l]
      rw [List.filter_append, List.drop_eq_getElem_cons hkl, (List.getElem?_eq_some_iff.1 hkx).2, List.filter_cons, hpx]
      rw [List.filter_eq_self.2 (fun x hx => by have := List.any_eq_false.1 hkp x hx; simpa using this)]
      rfl)
    have k0 : (0 : Int) ≤ (k : Int) := by omega
    have kne : ((k : Int) == -1) = false := isF (by omega)
    obtain ⟨j, hj⟩ : ∃ j, j = k + 1 := ⟨_, rfl⟩
    have jw : IntKind.i64.wrap ((k : Int) + 1) = (j : Int) := by rw [hj, IntWalk.i64_in _ (by omega)]; omega
    have HJ := hide hj
    clear hkx hpx hkp hj
    go_enter Try.func103, Try.ntmps103
    go_wp2_with fail
    refine HI.out.mono ?_
    rintro e w2 ⟨rfl, h⟩
    obtain ⟨b, rfl⟩ := own_form (h.ownOpen.2.row 0 rfl) (by omega)
    have H := hide h
    clear h HI
    go_wp2_with fail
    go_loopg [5, 6] (n - j) (fun gh v u wr => ∃ (i j : Nat) (zs : List HoldM), gh = n - j ∧ i < j ∧ j ≤ n ∧ v = .int .i64 (i : Nat) ∧ u = .int .i64 (j : Nat) ∧ zs.length = n ∧ zs.drop j = l.drop j ∧
      l.filter (fun x => !p x) = zs.take i ++ (l.drop j).filter (fun x => !p x) ∧ St M0 wr (ownR holdC 91 4 (.slice (some ⟨b, 0, none⟩) n c) zs :: L))
    case atStart =>
      have hj := HJ.out
      exact ⟨k, j, l, rfl, by omega, by omega, rfl, rfl, HN.out.symm, rfl, by rw [EK.out, hj], H.out⟩
    case round =>
      clear H EK HJ jw k0 kne hkn' hkl
      obtain ⟨i, j, zs, hg, hij, hj, rfl, rfl, hzn, hz, hK, h⟩ := hrel
      have HG := hide hg
      have HZN := hide hzn
      have i0 : (0 : Int) ≤ (i : Int) := by omega
      have j0 : (0 : Int) ≤ (j : Int) := by omega
      clear hg
      by_cases hlt : j < n
      · have i1 : (i : Int) < (n : Int) := by omega
        have j1 : (j : Int) < (n : Int) := by omega
        have hx := List.getElem?_eq_getElem (l := l) (i := j) (by rw [← HN.out]; exact hlt)
        have hdr := List.drop_eq_getElem_cons (l := l) (i := j) (by rw [← HN.out]; exact hlt)
        generalize l[j]'(by rw [← HN.out]; exact hlt) = x at hx hdr
        have hzd := List.drop_eq_getElem_cons (l := zs) (i := j) (by rw [hzn]; exact hlt)
        have hzx := List.getElem?_eq_getElem (l := zs) (i := j) (by rw [hzn]; exact hlt)
        have hzz := hz
        rw [hdr, hzd] at hzz
        injection hzz with hzx1 hzz
        rw [hzx1] at hzx
        obtain ⟨ad, hab, hcs⟩ := (h.flatO At.here).at_ holdC_len hzx
        injection hab with hab
        subst hab
        rw [show (⟨b, 0, none⟩ : Addr).add (j * 4) = ⟨b, j * 4, none⟩ by (generalize j * 4 = m; simp [Addr.add]; exact Eq.symm)] at hcs
        obtain ⟨e0, e1, e2, e3⟩ := cells4F hcs
        have hks : (l.drop j).filter (fun x => !p x) = if p x = true then (l.drop (j + 1)).filter (fun x => !p x) else x :: (l.drop (j + 1)).filter (fun x => !p x) := by
          rw [hdr, List.filter_cons]
          cases p x <;> rfl
        have HM := hide (List.mem_of_getElem? hx)
        have HZD := hide hzz
        have HK := hide (hK.trans (congrArg _ hks))
        have H1 := hide (h.alloc 91 #[.int .i64 x.c, .int .i64 x.m, .int .u64 x.t, .int .u64 x.u])
        clear hx hdr hzx hzd hz hzz hcs hks hK h hzn hzx1
        go_wp2_with fail
        generalize wr.heap.size = y at H1 ⊢
        have h3 := H1.out.addStar
        have H3 := hide h3
        clear h3 H1 e0 e1 e2 e3
        generalize wr.alloc _ = w3 at H3 ⊢
        rw [HC.out, Oper.upon_enter]
        refine (HF.out _ x _ HM.out H3.out).mono ?_
        rintro e w4 ⟨rfl, h4⟩
        have h5 := h4.star
        clear h4 H3
        have jw : IntKind.i64.wrap ((j : Int) + 1) = ((j + 1 : Nat) : Int) := by rw [IntWalk.i64_in _ (by omega)]; omega
        cases hp : p x with
        | true =>
          have EK := hide (HK.out.trans (by rw [if_pos hp]))
          have H5 := hide h5.tail
          clear h5 HK
          go_wp2_with fail
          go_roundg (n - (j + 1))
          case measure => have := HG.out; omega
          case rel => exact ⟨i, j + 1, zs, rfl, by omega, by omega, rfl, by go_num, HZN.out, HZD.out, EK.out, H5.out⟩
        | false =>
          have EK := hide (HK.out.trans (by rw [if_neg (by rw [hp]; exact Bool.false_ne_true)]))
          have y0 := (h5.blk 0 rfl).cell 0
          have y1 := (h5.blk 0 rfl).cell 1
          have y2 := (h5.blk 0 rfl).cell 2
          have y3 := (h5.blk 0 rfl).cell 3
          have iw : IntKind.i64.wrap ((i : Int) + 1) = ((i + 1 : Nat) : Int) := by rw [IntWalk.i64_in _ (by omega)]; omega
          obtain ⟨h6, hth⟩ := h5.tail.ownPut holdC_len (k := i) (by have := HZN.out; omega) x
          have hrun := hold_store w4 b (i * 4) x hth
          have H6 := hide h6
          have HIJ := hide hij
          clear h5 h6 hth HK
          go_wp2_with (refine at_storeF 91 rfl rfl rfl rfl hrun ?_)
          go_roundg (n - (j + 1))
          case measure => have := HG.out; omega
          case rel => exact ⟨i + 1, j + 1, _, rfl, by have := HIJ.out; omega, by omega, by go_num, by go_num, by rw [List.length_set]; exact HZN.out, by rw [List.drop_set_of_lt (by have := HIJ.out; omega)]; exact HZD.out, by
            rw [EK.out, set_snocF _ _ _ (by have := HZN.out; have := HIJ.out; omega), List.append_assoc]; rfl, H6.out⟩
      · obtain rfl : j = n := by omega
        have i1 : (i : Int) < (j : Int) := by omega
        have q1 : (i : Int) ≤ (j : Int) := by omega
        have q2 : (i : Int) ≤ (c : Int) := by omega
        have q3 : ¬ c = i := by omega
        have q4 : (j : Int) ≤ (c : Int) := by omega
        have hnil : l.drop j = [] := List.drop_of_length_le (by rw [← HN.out]; exact Nat.le_refl _)
        rw [hnil] at hK
        have EK := hide (hK.trans (List.append_nil _))
        have HIJ := hide hij
        obtain ⟨w3, ys, hr3, hy, h3⟩ := St.run_clear hold_elem hold_zero (by decide) h.ownOpen.2 i j (c - i) ⟨b, i * 4, none⟩ (fun _ => rfl) (by omega) (by omega)
        have hcl := hr3 0
        have H3 := hide h3
        have HY := hide hy
        clear h hr3 hy h3 hK hij hz hzn
        go_wp2_with fail
        go_ret
        refine ⟨_, rfl, ?_⟩
        rw [EK.out]
        have h4 := H3.out.rowLess (m := i) (by have := HIJ.out; omega)
        have e : (splice (zs.flatMap holdC) (i * 4) ys).take (i * 4) = (zs.take i).flatMap holdC := by
          have h1 := HIJ.out
          have h2 := HZN.out
          have f1 : (zs.flatMap holdC).take (i * 4) = (zs.take i).flatMap holdC := by
            rw [← flatC_Z, ← flatC_Z, List.map_take]
            exact flatZ_take _ (flatC_sized holdC_len zs) i (by simp; omega)
          unfold splice
          rw [f1, List.append_assoc, List.take_left']
          rw [flatC_len holdC_len, List.length_take, Nat.min_eq_left (by omega)]
        rw [e] at h4
        refine h4.ownClose ?_
        have h1 := HIJ.out
        have h2 := HZN.out
        rw [List.length_take]
        omega
end Go.Proofs.Ytbgknfdaaffeaaa
