/- History: the document's Right. -/
import Derived.Test.YtbgknfdaaffeaaaHiV
import Derived.Test.YtbgknfdaaffeaaaEqSt
namespace Go.Proofs.Ytbgknfdaaffeaaa
open Go.RowKit Go.Shelf

def RightP (l : List SecH) (ks : List Nat) (s : Nat) : Prop := ∀ (j : Nat) (y : LookH), (((l[s]?).elim [] SecH.k))[j]? = some y → blockM l ks s y.a y.i = y.d
set_option maxHeartbeats 4000000 in
set_option maxRecDepth 100000 in
theorem right_st {M0 : Imm} {L R : List Res} (A : Option Addr) (n c : Nat) (l : List SecX) (B : Option Addr) (m d : Nat) (ks : List Nat) (w : World) (hm : n ≤ ks.length) (hat : At (rowsR 4 SecXR (.slice A n c) l) L R)
    (hK : ∀ w', St M0 w' L → Ints w' .i64 (.slice B m d) (ks.map Int.ofNat)) (h : St M0 w L) :
    Calls Try.prog 21 #[.slice A n c, .slice B m d] w fun e w' => ∃ t : Bool, e = .returned (.bool t) ∧ (t = true ↔ ∀ s, s < n → RightP (l.map SecX.s) ks s) ∧ St M0 w' L := by
  obtain ⟨q, hq⟩ := hat.idx
  obtain ⟨A', c', e, hc, hmx⟩ := (h.getRows q hq).slice
  injection e with e1 e2 e3
  subst e1; subst e3
  have hnc : n ≤ c := by omega
  have HN := hide e2
  have HK := hide hK
  have H := hide h
  clear h e2 hc hK
  go_enter Try.func21, Try.ntmps21
  go_wp2_with fail
  go_loopg [5] n (fun gh iv wr => ∃ (s : Nat), gh = n - s ∧ s ≤ n ∧ iv = .int .i64 (s : Nat) ∧ (∀ s', s' < s → RightP (l.map SecX.s) ks s') ∧ St M0 wr L)
  case atStart => exact ⟨0, rfl, by omega, rfl, fun s' h => by omega, H.out⟩
  case round =>
    clear H
    obtain ⟨s, hg, hs, rfl, hr, h⟩ := hrel
    have HG := hide hg
    have HR := hide hr
    clear hg hr
    by_cases hlt : s < n
    · have hx := List.getElem?_eq_getElem (l := l) (i := s) (by rw [← HN.out]; exact hlt)
      generalize l[s]'(by rw [← HN.out]; exact hlt) = x at hx
      have hA : ∃ ad, A = some ad := by
        obtain ⟨ad, _, e, _⟩ := h.elem q hq hx
        exact ⟨ad, e⟩
      obtain ⟨ad, rfl⟩ := hA
      have HX := hide hx
      have HS := hide (show (((l.map SecX.s)[s]?).elim [] SecH.k) = x.s.k by rw [List.getElem?_map, hx]; rfl)
      obtain ⟨⟨st, sp, ss, sk⟩, pA, pc, pcs, kA, kc, kcs⟩ := x
      have HS2 : Hid ((((l.map SecX.s)[s]?).elim [] SecH.k) = sk) := HS
      have H1 := hide h
      have i0 : (0 : Int) ≤ (s : Int) := by omega
      have l0 : (s : Int) < (n : Int) := by omega
      clear h hx HS
      go_wp2_with fail
      go_loopg [6] sk.length (fun gh jv wr => ∃ (j : Nat), gh = sk.length - j ∧ j ≤ sk.length ∧ jv = .int .i64 (j : Nat) ∧ (∀ (j' : Nat) (y : LookH), j' < j → sk[j']? = some y → blockM (l.map SecX.s) ks s y.a y.i = y.d) ∧ St M0 wr L)
      case atStart => exact ⟨0, rfl, by omega, rfl, fun j' y h => by omega, H1.out⟩
      case round =>
        clear H1
        obtain ⟨j, hgj, hj, rfl, hrj, h⟩ := hrel
        have HGJ := hide hgj
        have HRJ := hide hrj
        clear hgj hrj
        obtain ⟨ad2, cs2, e, _, hcs, ⟨rfl, hp, hk⟩, h1⟩ := h.elem q hq HX.out
        injection e with e
        subst e
        obtain ⟨e0, e1, e2, e3⟩ := cells4 hcs
        have H2 := hide h
        clear hcs hp hk h
        by_cases hjl : j < sk.length
        · have hy := List.getElem?_eq_getElem (l := sk) (i := j) hjl
          generalize sk[j]'hjl = y at hy
          have h3 : St M0 wr (rowsR 3 LookHR (.slice kA sk.length kc) sk :: L) := St.addEx (f := fun css => persR (fun w => RowsC w 3 LookHR (.slice kA sk.length kc) css sk)) kcs (h1.pers1 (fun w' hw => hw.2.2.2))
          obtain ⟨pd, cs, rfl, _, hyc, ⟨v, rfl, hv⟩, h4⟩ := h3.elem 0 rfl hy
          obtain ⟨Y, yd, rfl, _, _, _⟩ := id hv
          obtain ⟨y0, y1, y2⟩ := cells3 hyc
          have j0 : (0 : Int) ≤ (j : Int) := by omega
          have j1 : (j : Int) < (sk.length : Int) := by omega
          obtain ⟨_, _, _, hpc, _⟩ := (h3.getRows 0 rfl).slice
          have h6 := (((h4.pers1 (R' := fun w' => Ints w' .u8 (.slice Y y.d.length yd) y.d) (fun w' hw => by
            obtain ⟨v', hv', hi'⟩ := hw.2
            simp only [List.cons.injEq, and_true, true_and] at hv'
            rw [hv']
            exact hi')).sub (L' := intsR .u8 (.slice Y y.d.length yd) y.d :: L) (by (repeat (first | with_reducible exact Sub.refl _ | (with_reducible apply Sub.take; focus (repeat (first | with_reducible exact At.here | with_reducible apply At.there))) | with_reducible apply Sub.drop))))).alloc 148 #[.int .i64 y.a, .int .i64 y.i, .slice Y y.d.length yd]
          have z0 := (h6.blk 0 rfl).cell 0
          have z1 := (h6.blk 0 rfl).cell 1
          have z2 := (h6.blk 0 rfl).cell 2
          have H6 := hide h6
          have HY := hide hy
          clear h1 h3 h4 hyc hv hy h6 H2
          go_wp2_with fail
          refine (blockD_st (some ad) n c l B m d ks s y.a y.i _ hlt (by omega) (At.there (At.there hat)) (fun w' h' => HK.out w' h'.tail.tail) H6.out).mono ?_
          rintro e w4 ⟨v, rfl, h7⟩
          clear z0 z1 z2
          have z2 := (h7.blk 1 rfl).cell 2
          have H7 := hide h7
          clear h7 H6
          go_wp2_with fail
          refine (same_q v (.slice Y y.d.length yd) _ y.d _ (H7.out.get 0 rfl) (H7.out.get 2 rfl)).mono ?_
          rintro e w5 ⟨rfl, n2, rfl⟩
          have H8 := hide (H7.out.tail.tail.tail.drewN n2)
          clear H7 z2
          by_cases he : blockM (l.map SecX.s) ks s y.a y.i = y.d
          · have b1 : decide (blockM (l.map SecX.s) ks s y.a y.i = y.d) = true := decide_eq_true he
            rw [b1]
            have HE := hide (show ∀ (j' : Nat) (y : LookH), j' < j + 1 → sk[j']? = some y → blockM (l.map SecX.s) ks s y.a y.i = y.d from fun j' y' h' hy' => by
              rcases Nat.lt_succ_iff_lt_or_eq.1 h' with h' | rfl
              · exact HRJ.out j' y' h' hy'
              · rw [HY.out] at hy'
                obtain rfl : y = y' := by simpa using hy'
                exact he)
            clear he b1
            go_wp2_with fail
            go_roundg (sk.length - (j + 1))
            case measure => have := HGJ.out; omega
            case rel => exact ⟨j + 1, rfl, by omega, by go_num, HE.out, H8.out⟩
          · have b1 : decide (blockM (l.map SecX.s) ks s y.a y.i = y.d) = false := decide_eq_false he
            rw [b1]
            have HE := hide he
            clear he b1
            go_wp2_with fail
            go_ret
            exact ⟨false, rfl, ⟨fun h => Bool.noConfusion h, fun h => absurd (h s hlt j y (by rw [HS2.out]; exact HY.out)) HE.out⟩, H8.out⟩
        · obtain rfl : j = sk.length := by omega
          have HR2 := hide (show ∀ s', s' < s + 1 → RightP (l.map SecX.s) ks s' from fun s' h' => by
            rcases Nat.lt_succ_iff_lt_or_eq.1 h' with h' | rfl
            · exact HR.out s' h'
            · intro j' y hy
              rw [HS2.out] at hy
              exact HRJ.out j' y (List.getElem?_eq_some_iff.1 hy).1 hy)
          clear h1
          go_wp2_with fail
          go_roundg (n - (s + 1))
          case measure => have := HG.out; omega
          case rel => exact ⟨s + 1, rfl, by omega, by go_num, HR2.out, H2.out⟩
    · obtain rfl : s = n := by omega
      have H := hide h
      clear h
      go_wp2_with fail
      go_ret
      exact ⟨true, rfl, ⟨fun _ => HR.out, fun _ => rfl⟩, H.out⟩
end Go.Proofs.Ytbgknfdaaffeaaa
