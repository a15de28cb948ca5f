/- History: the document's block. -/
import Derived.Test.YtbgknfdaaffeaaaHiW
namespace Go.Proofs.Ytbgknfdaaffeaaa
open Go.RowKit Go.Shelf

/-- blocks behind the first so many sections -/
def behN (l : List SecH) (ks : List Nat) : Nat → BlH
  | 0 => noB
  | i + 1 => behB (behN l ks i) (((l[i]?).elim [] SecH.p).take ((ks[i]?).getD 0))
def blockM (l : List SecH) (ks : List Nat) (s : Nat) (a i : Int) : List Int := atB (behB (behN l ks s) (((l[s]?).elim [] SecH.p).take a.toNat)) i
theorem atB_put (b : BlH) (p : PutH) {i : Int} (h0 : 0 ≤ i) (h1 : i < 4) : atB (putB b p) i = if p.i = i then p.d else atB b i := by
  have e1 : ∀ b : BlH, atB b i = b i.toNat := fun b => if_pos ⟨h0, h1⟩
  rw [e1, e1]
  by_cases e : p.i = i
  · rw [if_pos e]
    unfold putB
    rw [if_pos ⟨by omega, by omega⟩]
    unfold upd
    rw [if_pos (by rw [e])]
  · rw [if_neg e]
    unfold putB
    split
    · unfold upd
      rw [if_neg (by omega)]
    · rfl
theorem int_at {w : World} {k : IntKind} {A : Option Addr} {n c : Nat} {xs : List Int} {i : Nat} {x : Int} (h : Ints w k (.slice A n c) xs) (hi : xs[i]? = some x) : ∃ ad, A = some ad ∧ w.cell? (ad.add i) = some (.int k x) := by
  obtain ⟨h0, _, _, hs⟩ := h.sl
  have hlt := (List.getElem?_eq_some_iff.1 hi).1
  obtain ⟨ad, u, e, _, _, hu, hc⟩ := hs.at_ (k := i) (by omega)
  rw [List.getElem?_map, hi] at hu
  obtain rfl : Value.int k x = u := by simpa using hu
  exact ⟨ad, e, hc⟩
theorem take_stop {α : Type} {l : List α} {j : Nat} {a : Int} (h0 : j = 0 ∨ (j : Int) ≤ a) (h : ¬ ((j : Int) < a ∧ j < l.length)) : l.take j = l.take a.toNat := by
  by_cases h1 : (j : Int) < a
  · have h2 : ¬ j < l.length := fun h2 => h ⟨h1, h2⟩
    rw [List.take_of_length_le (by omega), List.take_of_length_le (by omega)]
  · congr 1
    omega
set_option maxHeartbeats 4000000 in
set_option maxRecDepth 100000 in
theorem blockD_st {M0 : Imm} {L R : List Res} (A : Option Addr) (n c : Nat) (l : List SecX) (B : Option Addr) (m d : Nat) (ks : List Nat) (s : Nat) (a idx : Int) (w : World) (hs : s < n) (hm : s ≤ ks.length) (hat : At (rowsR 4 SecXR (.slice A n c) l) L R)
    (hK : ∀ w', St M0 w' L → Ints w' .i64 (.slice B m d) (ks.map Int.ofNat)) (h : St M0 w L) :
    Calls Try.prog 73 #[.slice A n c, .slice B m d, .int .i64 (s : Nat), .int .i64 a, .int .i64 idx] w fun e w' => ∃ v, e = .returned v ∧ St M0 w' (intsR .u8 v (blockM (l.map SecX.s) ks s a idx) :: L) := by
  obtain ⟨q, hq⟩ := hat.idx
  obtain ⟨A', c', e, hc, hmx⟩ := (h.getRows q hq).slice
  injection e with e1 e2 e3
  subst e1; subst e3
  have hnc : n ≤ c := by omega
  obtain ⟨hm0, hmd, hmdx, _⟩ := (hK w h).sl
  rw [List.length_map] at hm0
  have HN := hide e2
  have HK := hide hK
  have HM := hide hm0
  have H := hide h
  clear h e2 hc hK hm0
  by_cases hi0 : idx < 0
  · have d1 : decide (idx < 0) = true := decide_eq_true hi0
    have E := hide (show blockM (l.map SecX.s) ks s a idx = [] from if_neg (by omega))
    go_enter Try.func73, Try.ntmps73
    go_wp2_with fail
    go_ret
    exact ⟨_, rfl, by rw [E.out]; exact H.out.pers0 (fun w' _ => Ints.none_ w' _)⟩
  · have d1 : decide (idx < 0) = false := decide_eq_false hi0
    by_cases hi3 : idx > 3
    · have d2 : decide (idx > 3) = true := decide_eq_true hi3
      have d3 : decide (3 < idx) = true := d2
      have E := hide (show blockM (l.map SecX.s) ks s a idx = [] from if_neg (by omega))
      go_enter Try.func73, Try.ntmps73
      go_wp2_with fail
      go_ret
      exact ⟨_, rfl, by rw [E.out]; exact H.out.pers0 (fun w' _ => Ints.none_ w' _)⟩
    · have d2 : decide (idx > 3) = false := decide_eq_false hi3
      have d3 : decide (3 < idx) = false := d2
      go_enter Try.func73, Try.ntmps73
      go_wp2_with fail
      have H0 := hide (H.out.pers0 (R := fun w' => Ints w' .u8 (.slice none 0 0) []) (fun w' _ => Ints.none_ w' _))
      clear H
      go_loopg [11, 12] (s + 1) (fun gh ov iv wr => ∃ (i : Nat) (C : Option Addr) (z cz : Nat) (xs : List Int), gh = s + 1 - i ∧ i ≤ s + 1 ∧ ov = .slice C z cz ∧ iv = .int .i64 (i : Nat) ∧ (i ≤ s → xs = atB (behN (l.map SecX.s) ks i) idx) ∧ (i = s + 1 → xs = blockM (l.map SecX.s) ks s a idx) ∧ St M0 wr (intsR .u8 (.slice C z cz) xs :: L))
      case atStart => exact ⟨0, none, 0, 0, [], rfl, by omega, rfl, rfl, fun _ => (if_pos (by omega) : atB noB idx = _).symm, fun h => by omega, H0.out⟩
      case round =>
        clear H0
        obtain ⟨i, C, z, cz, xs, hg, hi, rfl, rfl, hx1, hx2, h⟩ := hrel
        have HG := hide hg
        clear hg
        by_cases hlt : i ≤ s
        · have hxs := hx1 hlt
          have hx := List.getElem?_eq_getElem (l := l) (i := i) (by rw [← HN.out]; omega)
          generalize l[i]'(by rw [← HN.out]; omega) = x at hx
          obtain ⟨ad, cs, rfl, _, hcs, ⟨rfl, hp, hk⟩, h1⟩ := h.tail.elem q hq hx
          have HX := hide hx
          have HS := hide (show (((l.map SecX.s)[i]?).elim [] SecH.p) = x.s.p by rw [List.getElem?_map, hx]; rfl)
          obtain ⟨⟨st, sp, ss, sk⟩, pA, pc, pcs, kA, kc, kcs⟩ := x
          have HS2 : Hid ((((l.map SecX.s)[i]?).elim [] SecH.p) = sp) := HS
          have H1 := hide h
          have HXS := hide hxs
          clear h h1 hx hcs hp hk hx1 hx2 hxs HS
          by_cases his : i < s
          case' pos =>
            have hki := List.getElem?_eq_getElem (l := ks) (i := i) (by omega)
            generalize ks[i]'(by omega) = kk at hki
            obtain ⟨kad, hka, hkc⟩ := int_at (x := (kk : Int)) (HK.out _ H1.out.tail) (by rw [List.getElem?_map, hki]; rfl)
            obtain ⟨nn, hnn⟩ : ∃ nn : Int, nn = (kk : Int) := ⟨_, rfl⟩
            have HE := hide (show ∀ ys : List Int, ys = atB (behB (behN (l.map SecX.s) ks i) (sp.take nn.toNat)) idx → (i + 1 ≤ s → ys = atB (behN (l.map SecX.s) ks (i + 1)) idx) ∧ (i + 1 = s + 1 → ys = blockM (l.map SecX.s) ks s a idx) from fun ys hy => ⟨fun _ => by
              rw [hy, hnn]
              show _ = atB (behB (behN (l.map SecX.s) ks i) _) idx
              rw [HS2.out, hki]
              rfl, fun h => by omega⟩)
            rw [← hnn] at hkc
            subst hka
            have i0 : (0 : Int) ≤ (i : Int) := by omega
            have i1 : (i : Int) < (m : Int) := by rw [HM.out]; omega
            have l0 : (i : Int) < (n : Int) := by omega
            have l1 : (i : Int) ≤ (s : Int) := by omega
            clear hnn hki
            go_wp2_with fail
            clear hkc i1
          case' neg =>
            have hie : i = s := by omega
            obtain ⟨nn, hnn⟩ : ∃ nn : Int, nn = a := ⟨_, rfl⟩
            have HE := hide (show ∀ ys : List Int, ys = atB (behB (behN (l.map SecX.s) ks i) (sp.take nn.toNat)) idx → (i + 1 ≤ s → ys = atB (behN (l.map SecX.s) ks (i + 1)) idx) ∧ (i + 1 = s + 1 → ys = blockM (l.map SecX.s) ks s a idx) from fun ys hy => ⟨fun h => by omega, fun _ => by
              rw [hy, hnn, ← hie]
              unfold blockM
              rw [HS2.out]⟩)
            have i0 : (0 : Int) ≤ (i : Int) := by omega
            have l0 : (i : Int) < (n : Int) := by omega
            have l1 : (i : Int) ≤ (s : Int) := by omega
            have l2 : decide ((i : Int) < (s : Int)) = false := decide_eq_false (by omega)
            subst hnn
            clear hie
            go_wp2_with fail
            clear l2
          all_goals
            clear l1
            go_loopg [11, 14] sp.length (fun gh ov jv wr => ∃ (j : Nat) (C : Option Addr) (z cz : Nat) (ys : List Int), gh = sp.length - j ∧ j ≤ sp.length ∧ ov = .slice C z cz ∧ jv = .int .i64 (j : Nat) ∧ (j = 0 ∨ (j : Int) ≤ nn) ∧ ys = atB (behB (behN (l.map SecX.s) ks i) (sp.take j)) idx ∧ St M0 wr (intsR .u8 (.slice C z cz) ys :: L))
            case atStart => exact ⟨0, C, z, cz, xs, rfl, by omega, rfl, rfl, .inl rfl, HXS.out, H1.out⟩
            case round =>
              clear H1 HXS
              obtain ⟨j, C', z', cz', ys, hgj, hj, rfl, rfl, hjn, hys, h⟩ := hrel
              have HGJ := hide hgj
              have HYS := hide hys
              obtain ⟨ad2, cs2, e, _, hcs, ⟨rfl, hp, hk⟩, h1⟩ := h.tail.elem q hq HX.out
              injection e with e
              subst e
              obtain ⟨e0, e1, e2, e3⟩ := cells4 hcs
              have H2 := hide (show St M0 wr (intsR .u8 (.slice C' z' cz') ys :: L) from h)
              clear hgj hys hcs hp hk
              by_cases hin : (j : Int) < nn ∧ j < sp.length
              · obtain ⟨hjn2, hjl⟩ := hin
                have hy := List.getElem?_eq_getElem (l := sp) (i := j) hjl
                generalize sp[j]'hjl = y at hy
                have h3 : St M0 wr (rowsR 2 PutHR (.slice pA sp.length pc) sp :: L) := St.addEx (f := fun css => persR (fun w => RowsC w 2 PutHR (.slice pA sp.length pc) css sp)) pcs (h1.pers1 (fun w' hw => hw.2.2.1))
                obtain ⟨pd, cs, rfl, _, hyc, ⟨v, rfl, hv⟩, h4⟩ := h3.elem 0 rfl hy
                obtain ⟨Y, yd, rfl, _, _, _⟩ := id hv
                obtain ⟨y0, y1⟩ := cells2H hyc
                have HSN := hide (behB_snoc (behN (l.map SecX.s) ks i) hy)
                have j0 : (0 : Int) ≤ (j : Int) := by omega
                have j1 : (j : Int) < (sp.length : Int) := by omega
                have d4 : decide ((j : Int) < nn) = true := decide_eq_true hjn2
                obtain ⟨_, _, _, hpc, _⟩ := (h3.getRows 0 rfl).slice
                have H6 := hide (((h4.pers1 (R' := fun w' => Ints w' .u8 (.slice Y y.d.length yd) y.d) (fun w' hw => by
                  obtain ⟨v', hv', hi'⟩ := hw.2
                  simp only [List.cons.injEq, and_true, true_and] at hv'
                  rw [hv']
                  exact hi')).sub (L' := intsR .u8 (.slice Y y.d.length yd) y.d :: L) (by (repeat (first | with_reducible exact Sub.refl _ | (with_reducible apply Sub.take; focus (repeat (first | with_reducible exact At.here | with_reducible apply At.there))) | with_reducible apply Sub.drop)))))
                by_cases hyi : y.i = idx
                · have b1 := isT hyi
                  have HY2 := hide (show y.d = atB (behB (behN (l.map SecX.s) ks i) (sp.take (j + 1))) idx by rw [HSN.out, atB_put _ _ (by omega) (by omega), if_pos hyi])
                  clear h h1 h3 h4 hy hyc hv hyi HSN
                  go_wp2_with fail
                  go_roundg (sp.length - (j + 1))
                  case measure => have := HGJ.out; omega
                  case rel => exact ⟨j + 1, _, _, _, y.d, rfl, by omega, rfl, by go_num, .inr (by omega), HY2.out, H6.out⟩
                · have b1 := isN hyi
                  have HY2 := hide (show ys = atB (behB (behN (l.map SecX.s) ks i) (sp.take (j + 1))) idx by rw [HSN.out, atB_put _ _ (by omega) (by omega), if_neg hyi]; exact HYS.out)
                  clear h h1 h3 h4 hy hyc hv hyi HSN
                  go_wp2_with fail
                  go_roundg (sp.length - (j + 1))
                  case measure => have := HGJ.out; omega
                  case rel => exact ⟨j + 1, _, _, _, ys, rfl, by omega, rfl, by go_num, .inr (by omega), HY2.out, H2.out⟩
              · have HYE := hide (HE.out ys (by rw [← take_stop hjn hin]; exact HYS.out))
                clear h h1
                by_cases hjn2 : (j : Int) < nn
                · have d4 : decide ((j : Int) < nn) = true := decide_eq_true hjn2
                  have hjl : ¬ j < sp.length := fun h => hin ⟨hjn2, h⟩
                  go_wp2_with fail
                  go_roundg (s + 1 - (i + 1))
                  case measure => have := HG.out; omega
                  case rel => exact ⟨i + 1, _, _, _, ys, rfl, by omega, rfl, by go_num, HYE.out.1, HYE.out.2, H2.out⟩
                · have d4 : decide ((j : Int) < nn) = false := decide_eq_false hjn2
                  go_wp2_with fail
                  go_roundg (s + 1 - (i + 1))
                  case measure => have := HG.out; omega
                  case rel => exact ⟨i + 1, _, _, _, ys, rfl, by omega, rfl, by go_num, HYE.out.1, HYE.out.2, H2.out⟩
        · obtain rfl : i = s + 1 := by omega
          have E := hx2 rfl
          rw [E] at h
          have H := hide h
          clear h hx1 hx2 E
          go_wp2_with fail
          go_ret
          exact ⟨_, rfl, H.out⟩
end Go.Proofs.Ytbgknfdaaffeaaa
