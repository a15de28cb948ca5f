/- History: the document's Explain. -/
import Derived.Test.YtbgknfdaaffeaaaHiY
import Derived.Deep.CutRange
namespace Go.Proofs.Ytbgknfdaaffeaaa
open Go.RowKit Go.Shelf

section
variable {M0 : Imm} {w : World} {L : List Res} {e : TypeId} {n c : Nat} {xs : List Value}
theorem St.rowAt0 {size : Nat} {A : Option Addr} (h : St M0 w (rowR e size (.slice A n c) n xs :: L)) (hn : 0 < n) : ∃ b, A = some ⟨b, 0, none⟩ := by
  rcases (h.row 0 rfl).2 with ⟨_, h0⟩ | ⟨g, cap, cur, e1, _⟩
  · omega
  · injection e1 with e1 _ _
    exact ⟨g, e1⟩
theorem St.rowSet1 {b : Nat} (h : St M0 w (rowR e 1 (.slice (some ⟨b, 0, none⟩) n c) n xs :: L)) (i : Nat) (u : Value) (hi : i < n) : St M0 (w.setCell ⟨b, i, none⟩ u) (rowR e 1 (.slice (some ⟨b, 0, none⟩) n c) n (xs.set i u) :: L) ∧ (w.cell? ⟨b, i, none⟩).isSome = true ∧ w.frozen? ⟨b, i, none⟩ = false := by
  have hown := h.row 0 rfl
  have h1 := own_setCells (vs := [u]) hown i (by simp; omega)
  have hl := hown.1
  rw [show splice xs i [u] = xs.set i u by
    unfold splice
    rw [List.set_eq_take_append_cons_drop, if_pos (by omega)]
    simp] at h1
  have hf : Fr (fun x => (Value.slice (some ⟨b, 0, none⟩) n c).ownBlock = some x) w (w.setCell ⟨b, i, none⟩ u) := by
    refine Fr.setCell (Fr.refl _ _) ?_ u
    exact fun _ => rfl
  have ht := own_there hown i 1 (by omega) 0 (by omega)
  rw [Nat.add_zero] at ht
  exact ⟨h.app h1 hf (.inl rfl), ht.1, ht.2⟩
end
theorem add_at0 (b i : Nat) : (⟨b, 0, none⟩ : Addr).add i = ⟨b, i, none⟩ := by simp [Addr.add]; exact Eq.symm
theorem ints_set (K : List Nat) (i u : Nat) : ((K.map Int.ofNat).map (Value.int .i64)).set i (.int .i64 (u : Int)) = ((K.set i u).map Int.ofNat).map (Value.int .i64) := by
  rw [List.map_set, List.map_set]
  rfl
set_option maxHeartbeats 4000000 in
set_option maxRecDepth 100000 in
theorem explD_st {M0 : Imm} {L R : List Res} (A : Option Addr) (n c : Nat) (l : List SecX) (w : World) (hl : l.length ≤ 100) (hp : ∀ x ∈ l, x.s.p.length ≤ 100) (hw : waysI 1099511627776 (l.map SecX.s) 1 ≤ 1099511627776) (hat : At (rowsR 4 SecXR (.slice A n c) l) L R) (h : St M0 w L) :
    Calls Try.prog 17 #[.slice A n c] w fun e w' => ∃ v, e = .returned (.tuple #[v, .bool (explM (l.map SecX.s)).isSome]) ∧ St M0 w' (intsR .i64 v (keptE (explM (l.map SecX.s))) :: L) := by
  obtain ⟨q, hq⟩ := hat.idx
  obtain ⟨A', c', e, hc, hmx⟩ := (h.getRows q hq).slice
  injection e with e1 e2 e3
  subst e1; subst e3
  have hnc : n ≤ c := by omega
  have HN := hide e2
  have HP := hide hp
  have H := hide h
  have hn100 : n ≤ 100 := by omega
  obtain ⟨N, hN⟩ : ∃ N, N = waysI 1099511627776 (l.map SecX.s) 1 := ⟨_, rfl⟩
  have HW := hide (waysI_small (l.map SecX.s) 1 (by omega) hw)
  have HWN := hide hN
  clear h e2 hc hp
  go_enter Try.func17, Try.ntmps17
  go_wp2_with fail
  refine (ways_st A n c l 1099511627776 _ (by omega) (by omega) (fun x hx => by have := HP.out x hx; omega) hat H.out).mono ?_
  rintro e w1 ⟨rfl, h1⟩
  rw [← HWN.out]
  have H1 := hide (h1.nilRow 3 1)
  clear h1 H hN
  go_wp2_with fail
  go_loopg [5, 6] n (fun gh kv iv wr => ∃ (i : Nat) (B : Option Addr) (d : Nat), gh = n - i ∧ i ≤ n ∧ kv = .slice B i d ∧ iv = .int .i64 (i : Nat) ∧ St M0 wr (rowR 3 1 (.slice B i d) i (((lensB (l.map SecX.s)).take i).map (fun k => .int .i64 (k : Nat))) :: L))
  case atStart => exact ⟨0, none, 0, rfl, by omega, rfl, rfl, H1.out⟩
  case round =>
    clear H1
    obtain ⟨i, B, d, hg, hi, rfl, rfl, h⟩ := hrel
    have HG := hide hg
    clear hg
    by_cases hlt : i < n
    · have hx := List.getElem?_eq_getElem (l := l) (i := i) (by rw [← HN.out]; exact hlt)
      generalize l[i]'(by rw [← HN.out]; exact hlt) = x at hx
      obtain ⟨ad, cs, rfl, _, hcs, ⟨rfl, _, _⟩, _⟩ := h.tail.elem q hq hx
      have HT := hide (show ((lensB (l.map SecX.s)).take i).map (fun k : Nat => Value.int .i64 (k : Int)) ++ [.int .i64 (x.s.p.length : Nat)] = ((lensB (l.map SecX.s)).take (i + 1)).map (fun k : Nat => Value.int .i64 (k : Int)) by
        rw [List.take_add_one, show (lensB (l.map SecX.s))[i]? = some x.s.p.length by unfold lensB; rw [List.getElem?_map, List.getElem?_map, hx]; rfl, List.map_append]
        rfl)
      obtain ⟨⟨st, sp, ss, sk⟩, pA, pc, pcs, kA, kc, kcs⟩ := x
      obtain ⟨e0, e1, e2, e3⟩ := cells4 hcs
      have i0 : (0 : Int) ≤ (i : Int) := by omega
      have i1 : (i : Int) < (n : Int) := by omega
      have H2 := hide ((h.alloc 3 #[.int .i64 (sp.length : Nat)]).swap)
      clear hx hcs h
      go_wp2_with (at_builtin; refine St.app_step inti_row H2.out rfl _ _ rfl rfl (some ⟨wr.heap.size, 0, none⟩) 1 1 rfl [.int .i64 (sp.length : Nat)] (sl_blkM (cs := [.int .i64 (sp.length : Nat)]) (H2.out.blk 1 rfl)) (by intro u hu; simp at hu; subst hu; rfl) (by omega) (by omega) ?_; intro A6 c6 w7 h9)
      have HT2 : Hid (((lensB (l.map SecX.s)).take i).map (fun k : Nat => Value.int .i64 (k : Int)) ++ [.int .i64 (sp.length : Nat)] = ((lensB (l.map SecX.s)).take (i + 1)).map (fun k : Nat => Value.int .i64 (k : Int))) := HT
      have h10 := h9.sub (L' := rowR 3 1 (.slice A6 (i + 1) c6) (i + 1) (((lensB (l.map SecX.s)).take i).map (fun k : Nat => Value.int .i64 (k : Int)) ++ [.int .i64 (sp.length : Nat)]) :: L) (by (repeat (first | with_reducible exact Sub.refl _ | (with_reducible apply Sub.take; focus (repeat (first | with_reducible exact At.here | with_reducible apply At.there))) | with_reducible apply Sub.drop)))
      rw [HT2.out] at h10
      have H10 := hide h10
      clear h9 h10 e0 e1 e2 e3
      go_wp2_with fail
      go_roundg (n - (i + 1))
      case measure => have := HG.out; omega
      case rel => exact ⟨i + 1, A6, c6, rfl, by omega, rfl, by go_num, H10.out⟩
    · obtain rfl : n = i := by omega
      rw [List.take_of_length_le (by unfold lensB; rw [List.length_map, List.length_map, ← HN.out]; exact Nat.le_refl _)] at h
      obtain ⟨ll, hll⟩ : ∃ ll, ll = l.map SecX.s := ⟨_, rfl⟩
      rw [← hll] at h HWN HW
      rw [← wayB_zero, show wayB ll 0 = wayB ll (0 % waysB ll) by rw [Nat.zero_mod], show ((wayB ll (0 % waysB ll)).map fun k : Nat => Value.int .i64 (k : Int)) = ((wayB ll (0 % waysB ll)).map Int.ofNat).map (Value.int .i64) by rw [List.map_map]; rfl] at h
      have HLL := hide hll
      have H3 := hide h
      obtain ⟨NN, hNN⟩ : ∃ NN : Nat, NN = if ll.any badH = true then 0 else waysB ll := ⟨_, rfl⟩
      have hNI : N = (NN : Int) := by
        rw [HWN.out, HW.out, hNN]
        split
        · rfl
        · rw [Int.one_mul]
      have hNb : (NN : Int) ≤ 1099511627776 := by rw [← hNI, HWN.out, hll]; exact hw
      have HNN := hide hNN
      have hnl : n = ll.length := by rw [hll, List.length_map]; exact HN.out
      have HNL := hide hnl
      subst hNI
      clear h hll hNN hnl HWN HW hlt HG
      go_wp2_with fail
      go_loopg [7] NN (fun gh iv wr => ∃ (v : Nat), gh = NN - v ∧ v ≤ NN ∧ iv = .int .i64 (v : Nat) ∧ (∀ u, u < v → rightB ll (wayB ll u) noB = false) ∧ St M0 wr (rowR 3 1 (.slice B n d) n (((wayB ll (v % waysB ll)).map Int.ofNat).map (Value.int .i64)) :: L))
      case atStart => exact ⟨0, rfl, by omega, rfl, fun u hu => by omega, H3.out⟩
      case round =>
        clear H3
        obtain ⟨v, hgv, hv, rfl, hno, h⟩ := hrel
        have HGV := hide hgv
        have HNO := hide hno
        clear hgv hno
        by_cases hlv : v < NN
        · have hgood : ll.any badH = false := by
            cases hb : ll.any badH with
            | false => rfl
            | true => have := HNN.out; rw [hb, if_pos rfl] at this; omega
          have hNW : NN = waysB ll := by have := HNN.out; rw [hgood, if_neg (by simp)] at this; exact this
          rw [Nat.mod_eq_of_lt (by omega)] at h
          obtain ⟨ks, hks⟩ : ∃ ks, ks = wayB ll v := ⟨_, rfl⟩
          rw [← hks] at h
          have hkl : ks.length = ll.length := by rw [hks]; exact wayB_length _ _
          have hkn : ks.length = n := by rw [hkl]; exact HNL.out.symm
          have HKS := hide hks
          have HKL := hide hkl
          have HKN := hide hkn
          have HGD := hide hgood
          have HNW := hide hNW
          have H4 := hide h
          have v0 : (v : Int) < (NN : Int) := by omega
          clear h hks hkl hgood hNW hkn
          go_wp2_with fail
          refine (right_st A n c l B n d ks _ (by rw [HKN.out]; exact Nat.le_refl _) (At.there hat) (fun w' h' => Ints.of_own (h'.row 0 rfl)) H4.out).mono ?_
          rintro e w5 ⟨t, rfl, ht, h5⟩
          have hts : t = true ↔ rightB ll ks noB = true := by
            rw [ht, HLL.out.symm]
            rw [show n = ll.length from HNL.out]
            exact rightP_iff ll ks
          have HT := hide hts
          have H5 := hide h5
          clear h5 ht hts H4
          cases t with
          | true =>
            have E := hide (show explM (l.map SecX.s) = some ks by
              rw [← HLL.out, explM_of HGD.out, HKS.out]
              exact expl_first (by rw [← HNW.out]; exact hlv) (by rw [← HKS.out]; exact HT.out.1 rfl) HNO.out)
            have H6 := hide (St.ints (xs := ks.map Int.ofNat) H5.out)
            clear H5
            go_wp2_with fail
            go_ret2
            exact ⟨_, by rw [E.out]; try rfl, by rw [E.out]; exact H6.out⟩
          | false =>
            have HNO2 := hide (show ∀ u, u < v + 1 → rightB ll (wayB ll u) noB = false from fun u hu => by
              rcases Nat.lt_succ_iff_lt_or_eq.1 hu with hu | rfl
              · exact HNO.out u hu
              · rw [← HKS.out]
                cases hr : rightB ll ks noB with
                | false => rfl
                | true => have := HT.out.2 hr; cases this)
            have w1 : IntKind.i64.wrap ((n : Int) - 1) = (n : Int) - 1 := IntWalk.i64_in _ (by omega)
            go_wp2_with fail
            clear w1
            go_loopg [9] n (fun gh zv wr => ∃ (a : Nat) (z : Int), gh = a ∧ a ≤ n ∧ zv = .int .i64 z ∧ z = (a : Int) - 1 ∧ allS ll ks a ∧ St M0 wr (rowR 3 1 (.slice B n d) n (((ks.take a ++ lensB (ll.drop a)).map Int.ofNat).map (Value.int .i64)) :: L))
            case atStart =>
              refine ⟨n, (n : Int) - 1, rfl, by omega, rfl, rfl, allS_end _ _ (by rw [← HNL.out]; exact Nat.le_refl _), ?_⟩
              rw [List.take_of_length_le (by rw [HKN.out]; exact Nat.le_refl _), List.drop_of_length_le (by rw [← HNL.out]; exact Nat.le_refl _)]
              rw [show ks ++ lensB [] = ks by unfold lensB; simp]
              exact H5.out
            case round =>
              clear H5
              obtain ⟨a, z, hga, ha, rfl, hz, hS, h⟩ := hrel
              have HGA := hide hga
              have HS := hide hS
              clear hga hS
              have HST := hide (stepB_way ll (fun s hs => (good_of HGD.out s hs).2) v (by rw [← HNW.out]; exact hlv))
              cases a with
              | zero =>
                obtain rfl : z = -1 := by omega
                have hnew : ([] ++ lensB (ll.drop 0) : List Nat) = wayB ll ((v + 1) % waysB ll) := by
                  have h1 := HS.out
                  unfold allS at h1
                  rw [List.drop_zero, List.drop_zero, HKS.out, HST.out] at h1
                  rw [List.nil_append, List.drop_zero]
                  exact (congrArg Prod.snd h1).symm
                have h6 : St M0 wr (rowR 3 1 (.slice B n d) n (((([] ++ lensB (ll.drop 0) : List Nat)).map Int.ofNat).map (Value.int .i64)) :: L) := h
                rw [hnew] at h6
                have H6 := hide h6
                clear h h6 hnew hz
                go_wp2_with fail
                go_quiet (fail)
                go_wp2_with fail
                go_roundg (NN - (v + 1))
                case measure => have := HGV.out; omega
                case rel => exact ⟨v + 1, rfl, by omega, by go_num, HNO2.out, H6.out.drewN _⟩
              | succ i =>
                obtain rfl : z = (i : Int) := by omega
                have hin : i < n := by omega
                have hx := List.getElem?_eq_getElem (l := l) (i := i) (by rw [← HN.out]; exact hin)
                generalize l[i]'(by rw [← HN.out]; exact hin) = x at hx
                have hxl : ll[i]? = some x.s := by rw [HLL.out, List.getElem?_map, hx]; rfl
                have hki := List.getElem?_eq_getElem (l := ks) (i := i) (by rw [HKN.out]; exact hin)
                generalize ks[i]'(by rw [HKN.out]; exact hin) = kk at hki
                have hbnd := wayB_bounds ll (fun s hs => (good_of HGD.out s hs).2) v (by rw [← HNW.out]; exact hlv) i x.s kk hxl (by rw [← HKS.out]; exact hki)
                have hs0 := (good_of HGD.out x.s (List.mem_of_getElem? hxl)).1
                have hpx := HP.out x (List.mem_of_getElem? hx)
                obtain ⟨b, rfl⟩ := h.rowAt0 (by omega)
                obtain ⟨ad, cs, rfl, _, hcs, ⟨rfl, _, _⟩, _⟩ := h.tail.elem q hq hx
                have hKi : (ks.take (i + 1) ++ lensB (ll.drop (i + 1)))[i]? = some kk := by
                  rw [List.getElem?_append_left (by rw [List.length_take, HKN.out]; omega), List.getElem?_take, if_pos (by omega)]
                  exact hki
                obtain ⟨bd, eb, hkc⟩ := int_at (x := (kk : Int)) (Ints.of_own (h.row 0 rfl)) (by rw [List.getElem?_map, hKi]; rfl)
                injection eb with eb
                subst eb
                rw [add_at0] at hkc
                have hld := lensB_drop hxl
                have hset : ∀ u : Nat, (ks.take (i + 1) ++ lensB (ll.drop (i + 1))).set i u = ks.take i ++ u :: lensB (ll.drop (i + 1)) := fun u => set_take hki
                obtain ⟨⟨st, sp, ss, sk⟩, pA, pc, pcs, kA, kc, kcs⟩ := x
                obtain ⟨e0, e1, e2, e3⟩ := cells4 hcs
                have hbnd : ss.toNat ≤ kk ∧ kk ≤ sp.length := hbnd
                have hs0 : 0 ≤ ss := hs0
                have hpx : sp.length ≤ 100 := hpx
                have i0 : (0 : Int) ≤ (i : Int) := by omega
                have i1 : (i : Int) < (n : Int) := by omega
                have g0 : decide ((i : Int) ≥ 0) = true := decide_eq_true i0
                have g1 : decide (0 ≤ (i : Int)) = true := g0
                by_cases hke : kk = ss.toNat
                · have b1 : ((kk : Int) == ss) = true := isT (by omega)
                  have h6 := fun m => (h.drewN m).rowSet1 i (.int .i64 (sp.length : Nat)) hin
                  simp only [ints_set, hset, ← hld] at h6
                  have HS2 := hide (allS_more HS.out hxl hki hke)
                  have w1 : IntKind.i64.wrap ((i : Int) - 1) = (i : Int) - 1 := IntWalk.i64_in _ (by omega)
                  have H6 := hide h6
                  clear h h6 hx hxl hki hKi hld hset hcs hke hbnd hz
                  go_wp2_with fail
                  go_quiet (fail)
                  obtain ⟨H7, hc1, hc2⟩ := H6.out nq
                  have H8 := hide H7
                  clear H7 hc1 H6
                  go_wp2_with fail
                  go_roundg i
                  case measure => have := HGA.out; omega
                  case rel => exact ⟨i, _, rfl, by omega, rfl, by omega, HS2.out, H8.out⟩
                · have b1 : ((kk : Int) == ss) = false := isF (by omega)
                  have h6 := fun m => (h.drewN m).rowSet1 i (.int .i64 ((kk - 1 : Nat) : Int)) hin
                  simp only [ints_set, hset] at h6
                  have hnew : ks.take i ++ (kk - 1) :: lensB (ll.drop (i + 1)) = wayB ll ((v + 1) % waysB ll) := by
                    have h1 := stepB_front (by rw [HKL.out]) i _ (by rw [← HNL.out]; omega) (allS_stop HS.out hxl hki hke)
                    rw [HKS.out, HST.out] at h1
                    rw [HKS.out]
                    exact (congrArg Prod.snd h1).symm
                  simp only [hnew] at h6
                  have w1 : IntKind.i64.wrap ((kk : Int) - 1) = ((kk - 1 : Nat) : Int) := by rw [IntWalk.i64_in _ (by omega)]; omega
                  have H6 := hide h6
                  clear h h6 hx hxl hki hKi hld hset hcs hke hbnd hz hnew
                  go_wp2_with fail
                  go_quiet (fail)
                  obtain ⟨H7, hc1, hc2⟩ := H6.out nq
                  have H8 := hide H7
                  clear H7 hc1 H6
                  go_wp2_with fail
                  go_roundg (NN - (v + 1))
                  case measure => have := HGV.out; omega
                  case rel => exact ⟨v + 1, rfl, by omega, by go_num, HNO2.out, H8.out⟩
        · obtain rfl : NN = v := by omega
          have E := hide (show explM (l.map SecX.s) = none by
            rw [← HLL.out]
            cases hb : ll.any badH with
            | true => unfold explM; rw [if_pos hb]
            | false =>
              rw [explM_of hb]
              refine expl_never (fun u hu => HNO.out u ?_)
              rw [HNN.out, hb]
              exact hu)
          have H4 := hide h.tail
          clear h
          go_wp2_with fail
          go_ret2
          exact ⟨_, by rw [E.out]; try rfl, by rw [E.out]; exact H4.out.pers0 (fun w' _ => Ints.none_ w' _)⟩
end Go.Proofs.Ytbgknfdaaffeaaa
