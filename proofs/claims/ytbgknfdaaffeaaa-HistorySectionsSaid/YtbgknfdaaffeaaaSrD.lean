/- Sorting sections by their tokens: slices.SortStableFunc. -/
import Derived.Test.YtbgknfdaaffeaaaSrC
namespace Go.Proofs.Ytbgknfdaaffeaaa
open Go.RowKit Go.Shelf

theorem symMerge_st {M0 : Imm} {L : List Res} (b n c a m e : Nat) (P F G Q : List SecV) (w : World) (hmx : n ≤ 1000000) (ha : P.length = a) (hm : a + F.length = m) (he : m + G.length = e) (hF : 0 < F.length) (hG : 0 < G.length) (sF : SortedT F) (sG : SortedT G) (h : St M0 w (ownR secC 37 4 (.slice (some ⟨b, 0, none⟩) n c) (P ++ (F ++ (G ++ Q))) :: L)) :
    Calls Try.prog 165 #[.slice (some ⟨b, 0, none⟩) n c, .int .i64 (a : Nat), .int .i64 (m : Nat), .int .i64 (e : Nat), .func (.func 113) #[] #[]] w fun u w' => u = .returned (.tuple #[]) ∧ ∃ S, S.Perm (F ++ G) ∧ SortedT S ∧ St M0 w' (ownR secC 37 4 (.slice (some ⟨b, 0, none⟩) n c) (P ++ (S ++ Q)) :: L) :=
  symMerge_all M0 L b n c e hmx a m e P F G Q w (by omega) ha hm he hF hG sF sG h
set_option maxHeartbeats 4000000 in
set_option maxRecDepth 100000 in
theorem stable_st {M0 : Imm} {L : List Res} (b n c : Nat) (xs : List SecV) (w : World) (hmx : n ≤ 1000000) (h : St M0 w (ownR secC 37 4 (.slice (some ⟨b, 0, none⟩) n c) xs :: L)) :
    Calls Try.prog 149 #[.slice (some ⟨b, 0, none⟩) n c, .int .i64 (n : Nat), .func (.func 113) #[] #[]] w fun u w' => u = .returned (.tuple #[]) ∧ ∃ ys, ys.Perm xs ∧ SortedT ys ∧ St M0 w' (ownR secC 37 4 (.slice (some ⟨b, 0, none⟩) n c) ys :: L) := by
  have hn := (h.flatO At.here).sl.1
  have HN := hide hn
  have H := hide h
  clear h hn
  go_enter Try.func149, Try.ntmps149
  go_wp2_with fail
  go_loopg [7, 8] (n + 20) (fun gh av bw wr => ∃ (K a bb : Nat) (pre rest : List SecV), gh = n + 20 - a ∧ av = .int .i64 (a : Nat) ∧ bw = .int .i64 (bb : Nat) ∧ bb = a + 20 ∧ a = K * 20 ∧ pre.length = a ∧ a + rest.length = n ∧ Ch 20 pre ∧ (pre ++ rest).Perm xs ∧ St M0 wr (ownR secC 37 4 (.slice (some ⟨b, 0, none⟩) n c) (pre ++ rest) :: L))
  case atStart => exact ⟨0, 0, 20, [], xs, rfl, rfl, rfl, rfl, rfl, rfl, by rw [Nat.zero_add]; exact HN.out.symm, Ch.nil _, List.Perm.refl _, H.out⟩
  case round =>
    clear H
    obtain ⟨K, a, bb, pre, rest, hg, rfl, rfl, hb, ha, hpl, hrl, hch, hp, h⟩ := hrel
    have HG := hide hg
    have HCH := hide hch
    have HP := hide hp
    have HPL := hide hpl
    have HB := hide hb
    have HK := hide ha
    clear hg hch hp hpl
    by_cases hle : bb ≤ n
    · have d1 : decide ((bb : Int) ≤ (n : Int)) = true := decide_eq_true (by omega)
      have wb : IntKind.i64.wrap ((bb : Int) + 20) = ((bb + 20 : Nat) : Int) := (IntWalk.i64_in _ (by omega)).trans (by omega)
      have HR := hide (show rest = rest.take 20 ++ rest.drop 20 from (List.take_append_drop 20 rest).symm)
      have HT := hide (show (rest.take 20).length = 20 ∧ bb + (rest.drop 20).length = n by rw [List.length_take, List.length_drop]; omega)
      rw [HR.out] at h
      have H1 := hide h
      clear h hb ha hrl
      go_wp2_with fail
      refine (insertion_st b n c a bb pre (rest.take 20) (rest.drop 20) _ hmx HPL.out (by have := HT.out; have := HB.out; omega) H1.out).mono ?_
      rintro e w2 ⟨rfl, S', hp, hs, h2⟩
      rw [← List.append_assoc] at h2
      have H2 := hide h2
      have HPS := hide hp
      have HS := hide hs
      clear h2 H1 hp hs
      go_wp2_with fail
      go_roundg (n + 20 - bb)
      case measure => have := HG.out; have := HB.out; omega
      case rel =>
        have hl : S'.length = 20 := HPS.out.length_eq.trans HT.out.1
        refine ⟨K + 1, bb, bb + 20, pre ++ S', rest.drop 20, rfl, rfl, by go_num, rfl, by have := HB.out; have := HK.out; omega, by rw [List.length_append, HPL.out, hl, HB.out], HT.out.2, Ch.snoc HCH.out (by rw [HPL.out, HK.out]) HS.out (by omega), ?_, H2.out⟩
        refine List.Perm.trans ?_ HP.out
        conv => rhs; rw [HR.out]
        rw [List.append_assoc]
        exact List.Perm.append_left _ (List.Perm.append_right _ HPS.out)
    · have d1 : decide ((bb : Int) ≤ (n : Int)) = false := decide_eq_false (by omega)
      have HRL := hide (show rest.length < 20 ∧ a + rest.length = n by omega)
      have H1 := hide (show St M0 wr (ownR secC 37 4 (.slice (some ⟨b, 0, none⟩) n c) (pre ++ (rest ++ [])) :: L) by rw [List.append_nil]; exact h)
      clear h hb ha hrl
      go_wp2_with fail
      refine (insertion_st b n c a n pre rest [] _ hmx HPL.out HRL.out.2 H1.out).mono ?_
      rintro e w2 ⟨rfl, S', hp, hs, h2⟩
      rw [List.append_nil] at h2
      have HY := hide (show Ch 20 (pre ++ S') ∧ (pre ++ S').Perm xs from ⟨Ch.snoc HCH.out (by rw [HPL.out, HK.out]) hs (by have := hp.length_eq; have := HRL.out; omega), (List.Perm.append_left _ hp).trans HP.out⟩)
      obtain ⟨ys, hys⟩ : ∃ ys, ys = pre ++ S' := ⟨_, rfl⟩
      rw [← hys] at h2 HY
      have H2 := hide h2
      clear h2 H1 hp hs hys HCH HP HPL HB HK HRL HG hle d1
      go_wp2_with fail
      go_loopg [6] (n - 20) (fun gh sv wr => ∃ (s : Nat) (ys : List SecV), gh = n - s ∧ sv = .int .i64 (s : Nat) ∧ 0 < s ∧ s ≤ 20 + 2 * n ∧ Ch s ys ∧ ys.Perm xs ∧ St M0 wr (ownR secC 37 4 (.slice (some ⟨b, 0, none⟩) n c) ys :: L))
      case atStart => exact ⟨20, ys, rfl, rfl, by omega, by omega, HY.out.1, HY.out.2, H2.out⟩
      case round =>
        clear H2 HY
        obtain ⟨s, ys, hg, rfl, hs0, hsm, hch, hp, h⟩ := hrel
        have HG := hide hg
        have HCH := hide hch
        have HP := hide hp
        clear hg hch hp
        by_cases hlt : s < n
        · have d1 : decide ((s : Int) < (n : Int)) = true := decide_eq_true (by omega)
          obtain ⟨s2, hs2⟩ : ∃ s2, s2 = 2 * s := ⟨_, rfl⟩
          have w2s : IntKind.i64.wrap (2 * (s : Int)) = (s2 : Int) := (IntWalk.i64_in _ (by omega)).trans (by omega)
          have ws2 : IntKind.i64.wrap ((s : Int) * 2) = (s2 : Int) := (IntWalk.i64_in _ (by omega)).trans (by omega)
          have HS2 := hide hs2
          have H1 := hide h
          clear h hs2
          go_wp2_with fail
          go_loopg [7, 8] (n + s2) (fun gh av bw wr => ∃ (K a bb : Nat) (pre rest : List SecV), gh = n + s2 - a ∧ av = .int .i64 (a : Nat) ∧ bw = .int .i64 (bb : Nat) ∧ bb = a + s2 ∧ a = K * s2 ∧ pre.length = a ∧ a + rest.length = n ∧ Ch s2 pre ∧ Ch s rest ∧ (pre ++ rest).Perm xs ∧ St M0 wr (ownR secC 37 4 (.slice (some ⟨b, 0, none⟩) n c) (pre ++ rest) :: L))
          case atStart => exact ⟨0, 0, s2, [], ys, by omega, rfl, rfl, by omega, by omega, rfl, by rw [Nat.zero_add]; exact HP.out.length_eq.trans HN.out.symm, Ch.nil _, HCH.out, HP.out, H1.out⟩
          case round =>
            clear H1 HP HCH
            obtain ⟨K, a, bb, pre, rest, hg, rfl, rfl, hb, ha, hpl, hrl, hch, hcr, hp, h⟩ := hrel
            have HGI := hide hg
            have HCH := hide hch
            have HCR := hide hcr
            have HP := hide hp
            have HPL := hide hpl
            have HB := hide hb
            have HK := hide ha
            have wam : IntKind.i64.wrap ((a : Int) + (s : Int)) = ((a + s : Nat) : Int) := (IntWalk.i64_in _ (by omega)).trans (by omega)
            obtain ⟨mm, hmm⟩ : ∃ mm, mm = a + s := ⟨_, rfl⟩
            rw [← hmm] at wam
            have HMM := hide hmm
            clear hg hch hcr hp hpl hmm
            by_cases hle : bb ≤ n
            · have d2 : decide ((bb : Int) ≤ (n : Int)) = true := decide_eq_true (by omega)
              have wb : IntKind.i64.wrap ((bb : Int) + (s2 : Int)) = ((bb + s2 : Nat) : Int) := (IntWalk.i64_in _ (by have := HS2.out; omega)).trans (by omega)
              have HR := hide (show rest = rest.take s ++ ((rest.drop s).take s ++ rest.drop s2) by
                have e : (rest.drop s).drop s = rest.drop s2 := by rw [List.drop_drop, HS2.out]; congr 1; omega
                rw [← e, List.take_append_drop, List.take_append_drop])
              have HT := hide (show (rest.take s).length = s ∧ ((rest.drop s).take s).length = s ∧ bb + (rest.drop s2).length = n by have := HS2.out; rw [List.length_take, List.length_take, List.length_drop, List.length_drop]; omega)
              have HSO := hide (show SortedT (rest.take s) ∧ SortedT ((rest.drop s).take s) ∧ Ch s (rest.drop s2) by
                refine ⟨HCR.out.head, ?_, ?_⟩
                · have := (HCR.out.drop 1).head
                  rwa [Nat.one_mul] at this
                · have := HCR.out.drop 2
                  rwa [← HS2.out] at this)
              rw [HR.out] at h
              have H1 := hide h
              clear h hb ha hrl
              go_wp2_with fail
              refine (symMerge_st b n c a mm bb pre (rest.take s) ((rest.drop s).take s) (rest.drop s2) _ hmx HPL.out (by have := HT.out; have := HMM.out; omega) (by have := HT.out; have := HB.out; have := HMM.out; have := HS2.out; omega) (by have := HT.out; omega) (by have := HT.out; omega) HSO.out.1 HSO.out.2.1 H1.out).mono ?_
              rintro e w2 ⟨rfl, S', hp, hs, h2⟩
              rw [← List.append_assoc] at h2
              have H2 := hide h2
              have HPS := hide hp
              have HS := hide hs
              clear h2 H1 hp hs
              go_wp2_with fail
              go_roundg (n + s2 - bb)
              case measure => have := HGI.out; have := HB.out; have := HS2.out; omega
              case rel =>
                have hl : S'.length = s2 := by have := HPS.out.length_eq; rw [List.length_append, HT.out.1, HT.out.2.1] at this; have := HS2.out; omega
                refine ⟨K + 1, bb, bb + s2, pre ++ S', rest.drop s2, rfl, rfl, by go_num, rfl, by rw [HB.out, HK.out, Nat.add_mul, Nat.one_mul], by rw [List.length_append, HPL.out, hl, HB.out], HT.out.2.2, Ch.snoc HCH.out (by rw [HPL.out, HK.out]) HS.out (by omega), HSO.out.2.2, ?_, H2.out⟩
                refine List.Perm.trans ?_ HP.out
                conv => rhs; rw [HR.out]
                rw [List.append_assoc]
                refine List.Perm.append_left _ ?_
                rw [← List.append_assoc]
                exact List.Perm.append_right _ HPS.out
            · have d2 : decide ((bb : Int) ≤ (n : Int)) = false := decide_eq_false (by omega)
              have HRL := hide (show rest.length < s2 ∧ a + rest.length = n by omega)
              by_cases hm : mm < n
              · have d3 : decide ((mm : Int) < (n : Int)) = true := decide_eq_true (by omega)
                have HR := hide (show rest = rest.take s ++ (rest.drop s ++ []) by rw [List.append_nil, List.take_append_drop])
                have HT := hide (show (rest.take s).length = s ∧ s + (rest.drop s).length = rest.length ∧ 0 < (rest.drop s).length ∧ (rest.drop s).length ≤ s by have := HS2.out; have := HRL.out; have := HMM.out; rw [List.length_take, List.length_drop]; omega)
                have HSO := hide (show SortedT (rest.take s) ∧ SortedT (rest.drop s) by
                  refine ⟨HCR.out.head, ?_⟩
                  have := HCR.out.drop 1
                  rw [Nat.one_mul] at this
                  exact this.all HT.out.2.2.2)
                rw [HR.out] at h
                have H1 := hide h
                clear h hb ha hrl
                go_wp2_with fail
                refine (symMerge_st b n c a mm n pre (rest.take s) (rest.drop s) [] _ hmx HPL.out (by have := HT.out; have := HMM.out; omega) (by have := HT.out; have := HRL.out; have := HMM.out; omega) (by have := HT.out; omega) HT.out.2.2.1 HSO.out.1 HSO.out.2 H1.out).mono ?_
                rintro e w2 ⟨rfl, S', hp, hs, h2⟩
                rw [List.append_nil] at h2
                have H2 := hide h2
                have HPS := hide hp
                have HS := hide hs
                clear h2 H1 hp hs
                go_wp2_with fail
                go_roundg (n - s2)
                case measure => have := HG.out; have := HS2.out; omega
                case rel =>
                  have hl : S'.length ≤ s2 := by have := HPS.out.length_eq; rw [List.length_append, HT.out.1] at this; have := HS2.out; have := HT.out; omega
                  refine ⟨s2, pre ++ S', rfl, by go_num, by have := HS2.out; omega, by have := HS2.out; omega, Ch.snoc HCH.out (by rw [HPL.out, HK.out]) HS.out hl, ?_, H2.out⟩
                  refine List.Perm.trans ?_ HP.out
                  refine List.Perm.append_left _ ?_
                  have := HPS.out
                  rwa [List.take_append_drop] at this
              · have d3 : decide ((mm : Int) < (n : Int)) = false := decide_eq_false (by omega)
                have HSO := hide (show SortedT rest from HCR.out.all (by have := HMM.out; omega))
                have H1 := hide h
                clear h hb ha hrl
                go_wp2_with fail
                go_roundg (n - s2)
                case measure => have := HG.out; have := HS2.out; omega
                case rel => exact ⟨s2, pre ++ rest, rfl, by go_num, by have := HS2.out; omega, by have := HS2.out; omega, Ch.snoc HCH.out (by rw [HPL.out, HK.out]) HSO.out (by have := HRL.out; omega), HP.out, H1.out⟩
        · have d1 : decide ((s : Int) < (n : Int)) = false := decide_eq_false (by omega)
          have H1 := hide h
          have HSO := hide (show SortedT ys from HCH.out.all (by rw [HP.out.length_eq, ← HN.out]; omega))
          clear h
          go_wp2_with fail
          go_end0
          exact ⟨rfl, ys, HP.out, HSO.out, H1.out⟩
set_option maxHeartbeats 1000000 in
theorem sortStable_st {M0 : Imm} {L : List Res} (A : Option Addr) (n c : Nat) (xs : List SecV) (w : World) (hmx : n ≤ 1000000) (hb : ∃ b, A = some ⟨b, 0, none⟩) (h : St M0 w (ownR secC 37 4 (.slice A n c) xs :: L)) :
    Calls Try.prog 112 #[.slice A n c, .func (.func 113) #[] #[]] w fun u w' => u = .returned (.tuple #[]) ∧ ∃ ys, ys.Perm xs ∧ SortedT ys ∧ St M0 w' (ownR secC 37 4 (.slice A n c) ys :: L) := by
  obtain ⟨b, rfl⟩ := hb
  have H := hide h
  clear h
  go_enter Try.func112, Try.ntmps112
  go_wp2_with fail
  refine (stable_st b n c xs _ hmx H.out).mono ?_
  rintro e w2 ⟨rfl, ys, hp, hs, h2⟩
  have H2 := hide h2
  clear h2 H
  go_wp2_with fail
  go_end0
  exact ⟨rfl, ys, hp, hs, H2.out⟩
end Go.Proofs.Ytbgknfdaaffeaaa
