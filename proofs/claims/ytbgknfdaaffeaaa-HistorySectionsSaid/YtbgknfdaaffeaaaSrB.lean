/- Sorting sections by their tokens: rotateCmpFunc, insertionSortCmpFunc. Printed by gen_srb.py. -/
import Derived.Test.YtbgknfdaaffeaaaSrA
namespace Go.Proofs.Ytbgknfdaaffeaaa
open Go.RowKit Go.Shelf

set_option maxHeartbeats 4000000 in
set_option maxRecDepth 100000 in
/-- two neighbouring parts change places -/
theorem rotate_st {M0 : Imm} {L : List Res} (b n c a m e : Nat) (P F G Q : List SecV) (fv : Value) (w : World) (ha : P.length = a) (hm : a + F.length = m) (he : m + G.length = e) (hF : 0 < F.length) (hG : 0 < G.length) (h : St M0 w (ownR secC 37 4 (.slice (some ⟨b, 0, none⟩) n c) (P ++ (F ++ (G ++ Q))) :: L)) :
    Calls Try.prog 167 #[.slice (some ⟨b, 0, none⟩) n c, .int .i64 (a : Nat), .int .i64 (m : Nat), .int .i64 (e : Nat), fv] w fun u w' => u = .returned (.tuple #[]) ∧ St M0 w' (ownR secC 37 4 (.slice (some ⟨b, 0, none⟩) n c) (P ++ (G ++ (F ++ Q))) :: L) := by
  obtain ⟨hn, hnc, hcm, _⟩ := (h.flatO At.here).sl
  have hn2 : n = a + F.length + G.length + Q.length := by rw [hn, ← ha]; simp only [List.length_append]; omega
  obtain ⟨ys, hys⟩ : ∃ ys, ys = P ++ (G ++ (F ++ Q)) := ⟨_, rfl⟩
  have hly : ys.length = n := by rw [hys, hn2, ← ha]; simp only [List.length_append]; omega
  rw [← hys]
  have H := hide h
  have HN := hide hn2
  have HYS := hide hys
  have HLY := hide hly
  have wi : IntKind.i64.wrap ((m : Int) - (a : Int)) = (F.length : Int) := (IntWalk.i64_in _ (by omega)).trans (by omega)
  have wj : IntKind.i64.wrap ((e : Int) - (m : Int)) = (G.length : Int) := (IntWalk.i64_in _ (by omega)).trans (by omega)
  obtain ⟨fl, hfl⟩ : ∃ fl, fl = F.length := ⟨_, rfl⟩
  obtain ⟨gl, hgl⟩ : ∃ gl, gl = G.length := ⟨_, rfl⟩
  have HM := hide hm
  have HA := hide ha
  rw [← hfl] at wi hF
  rw [← hgl] at wj hG
  have HFL := hide hfl
  have HGL := hide hgl
  clear h hn hn2 hys hly hm he ha hfl hgl
  go_enter Try.func167, Try.ntmps167
  go_wp2_with fail
  go_loopg [10, 11] (fl + gl) (fun gh iv jv wr => ∃ (i j : Nat) (P' F' G' Q' : List SecV), gh = i + j ∧ iv = .int .i64 (i : Nat) ∧ jv = .int .i64 (j : Nat) ∧ F'.length = i ∧ G'.length = j ∧ 0 < i ∧ 0 < j ∧ P'.length + i = m ∧ P' ++ (G' ++ (F' ++ Q')) = ys ∧ St M0 wr (ownR secC 37 4 (.slice (some ⟨b, 0, none⟩) n c) (P' ++ (F' ++ (G' ++ Q'))) :: L))
  case atStart => exact ⟨fl, gl, P, F, G, Q, rfl, rfl, rfl, HFL.out.symm, HGL.out.symm, hF, hG, by rw [HA.out, HFL.out]; exact HM.out, HYS.out.symm, H.out⟩
  case round =>
    clear H HYS HFL HGL HA HM wi wj
    obtain ⟨i, j, P', F', G', Q', hg, rfl, rfl, hi, hj, hi0, hj0, hP, hys, h⟩ := hrel
    have hln : P'.length + i + j + Q'.length = n := by rw [← HLY.out, ← hys]; simp only [List.length_append]; omega
    have HG := hide hg
    have HYS := hide hys
    have HP := hide hP
    have HLN := hide hln
    have wmi : IntKind.i64.wrap ((m : Int) - (i : Int)) = (P'.length : Int) := (IntWalk.i64_in _ (by omega)).trans (by omega)
    obtain ⟨pl, hpl⟩ : ∃ pl, pl = P'.length := ⟨_, rfl⟩
    rw [← hpl] at wmi
    have HPL := hide hpl
    clear hg hys hP hln hpl
    by_cases hij : i = j
    · subst hij
      have d1 : ((i : Int) != (i : Int)) = false := isNF rfl
      have H1 := hide h
      clear h
      go_wp2_with fail
      refine (swapRange_st b n c pl m i P' F' [] G' Q' fv _ HPL.out.symm hi hj (by have := HP.out; rw [HPL.out]; simp; omega) H1.out).mono ?_
      rintro e w2 ⟨rfl, h2⟩
      rw [List.nil_append, HYS.out] at h2
      have H2 := hide h2
      clear h2 H1
      go_wp2_with fail
      go_end0
      exact ⟨rfl, H2.out⟩
    · have d1 : ((i : Int) != (j : Int)) = true := isN (by omega)
      by_cases hgt : j < i
      · have d2 : decide ((i : Int) > (j : Int)) = true := decide_eq_true (by omega)
        have d2' : decide ((j : Int) < (i : Int)) = true := d2
        have wij : IntKind.i64.wrap ((i : Int) - (j : Int)) = ((i - j : Nat) : Int) := (IntWalk.i64_in _ (by have := HLN.out; omega)).trans (by omega)
        obtain ⟨X, Y, hX, hXY⟩ : ∃ X Y, X.length = j ∧ F' = X ++ Y := ⟨F'.take j, F'.drop j, by rw [List.length_take]; omega, (List.take_append_drop j F').symm⟩
        have hY : Y.length = i - j := by rw [hXY, List.length_append] at hi; omega
        rw [hXY, List.append_assoc] at h
        have HYS2 := hide (show (P' ++ G') ++ (X ++ (Y ++ Q')) = ys by rw [← HYS.out, hXY]; simp)
        have H1 := hide h
        clear h HYS
        go_wp2_with fail
        refine (swapRange_st b n c pl m j P' X Y G' Q' fv _ HPL.out.symm hX hj (by have := HP.out; rw [HPL.out]; omega) H1.out).mono ?_
        rintro e w2 ⟨rfl, h2⟩
        rw [show P' ++ (G' ++ (Y ++ (X ++ Q'))) = (P' ++ G') ++ (Y ++ (X ++ Q')) by simp] at h2
        have H2 := hide h2
        clear h2 H1
        go_wp2_with fail
        go_roundg (i - j + j)
        case measure => have := HG.out; omega
        case rel => exact ⟨i - j, j, P' ++ G', Y, X, Q', rfl, by go_num, rfl, hY, hX, by omega, hj0, by have := HP.out; rw [List.length_append]; omega, HYS2.out, H2.out⟩
      · have d2 : decide ((i : Int) > (j : Int)) = false := decide_eq_false (by omega)
        have d2' : decide ((j : Int) < (i : Int)) = false := d2
        have wji : IntKind.i64.wrap ((j : Int) - (i : Int)) = ((j - i : Nat) : Int) := (IntWalk.i64_in _ (by have := HLN.out; omega)).trans (by omega)
        have wmj : IntKind.i64.wrap ((m : Int) + (j : Int)) = ((m + j : Nat) : Int) := (IntWalk.i64_in _ (by have := HLN.out; have := HP.out; omega)).trans (by omega)
        have wmji : IntKind.i64.wrap (((m + j : Nat) : Int) - (i : Int)) = ((m + j - i : Nat) : Int) := (IntWalk.i64_in _ (by have := HLN.out; have := HP.out; omega)).trans (by omega)
        obtain ⟨mj, hmj⟩ : ∃ mj, mj = m + j := ⟨_, rfl⟩
        rw [← hmj] at wmj wmji
        obtain ⟨mi, hmi⟩ : ∃ mi, mi = mj - i := ⟨_, rfl⟩
        rw [← hmi] at wmji
        obtain ⟨Y, X, hY, hXY⟩ : ∃ Y X, Y.length = j - i ∧ G' = Y ++ X := ⟨G'.take (j - i), G'.drop (j - i), by rw [List.length_take]; omega, (List.take_append_drop _ G').symm⟩
        have hX : X.length = i := by rw [hXY, List.length_append] at hj; omega
        rw [hXY, List.append_assoc] at h
        have HYS2 := hide (show P' ++ (Y ++ (X ++ (F' ++ Q'))) = ys by rw [← HYS.out, hXY]; simp)
        have HMI := hide (show mi = m + j - i by rw [hmi, hmj])
        have H1 := hide h
        clear h HYS hmj hmi
        go_wp2_with fail
        refine (swapRange_st b n c pl mi i P' F' Y X Q' fv _ HPL.out.symm hi hX (by have := HP.out; have := HMI.out; rw [HPL.out]; omega) H1.out).mono ?_
        rintro e w2 ⟨rfl, h2⟩
        have H2 := hide h2
        clear h2 H1
        go_wp2_with fail
        go_roundg (i + (j - i))
        case measure => have := HG.out; omega
        case rel => exact ⟨i, j - i, P', X, Y, F' ++ Q', rfl, rfl, by go_num, hX, hY, hi0, by omega, HP.out, HYS2.out, H2.out⟩
set_option maxHeartbeats 4000000 in
set_option maxRecDepth 100000 in
theorem insertion_st {M0 : Imm} {L : List Res} (b n c a ez : Nat) (P S Q : List SecV) (w : World) (hmx : n ≤ 1000000) (ha : P.length = a) (he : a + S.length = ez) (h : St M0 w (ownR secC 37 4 (.slice (some ⟨b, 0, none⟩) n c) (P ++ (S ++ Q)) :: L)) :
    Calls Try.prog 164 #[.slice (some ⟨b, 0, none⟩) n c, .int .i64 (a : Nat), .int .i64 (ez : Nat), .func (.func 113) #[] #[]] w fun u w' => u = .returned (.tuple #[]) ∧ ∃ S', S'.Perm S ∧ SortedT S' ∧ St M0 w' (ownR secC 37 4 (.slice (some ⟨b, 0, none⟩) n c) (P ++ (S' ++ Q)) :: L) := by
  obtain ⟨hn, hnc, hcm, _⟩ := (h.flatO At.here).sl
  have hn2 : n = a + S.length + Q.length := by rw [hn, ← ha]; simp only [List.length_append]; omega
  have hen := fun args W => enters_of Try.func113 (by kernel_rfl) rfl (P := Try.prog) args W
  have w1 : IntKind.i64.wrap ((a : Int) + 1) = ((a + 1 : Nat) : Int) := (IntWalk.i64_in _ (by omega)).trans (by omega)
  cases S with
  | nil =>
    have hae : a = ez := by simpa using he
    subst hae
    have d1 : decide (((a + 1 : Nat) : Int) < (a : Int)) = false := decide_eq_false (by omega)
    have H := hide h
    clear h
    go_enter Try.func164, Try.ntmps164
    go_wp2_with fail
    go_loopg [8] 1 (fun gh iv wr => iv = .int .i64 ((a + 1 : Nat) : Int) ∧ gh = 1 ∧ St M0 wr (ownR secC 37 4 (.slice (some ⟨b, 0, none⟩) n c) (P ++ ([] ++ Q)) :: L))
    case atStart => exact ⟨rfl, rfl, H.out⟩
    case round =>
      obtain ⟨rfl, _, h⟩ := hrel
      have H1 := hide h
      clear h H
      go_wp2_with fail
      go_end0
      exact ⟨rfl, [], List.Perm.nil, SortedT.nil, H1.out⟩
  | cons s0 S =>
    have H := hide (show St M0 w (ownR secC 37 4 (.slice (some ⟨b, 0, none⟩) n c) (P ++ ([s0] ++ (S ++ Q))) :: L) from h)
    have HN := hide hn2
    have HA := hide ha
    have HE := hide (show a + (S.length + 1) = ez from he)
    clear h hn hn2 ha he
    go_enter Try.func164, Try.ntmps164
    go_wp2_with fail
    go_loopg [8] (S.length + 1) (fun gh iv wr => ∃ (i : Nat) (D R : List SecV), gh = ez + 1 - i ∧ iv = .int .i64 (i : Nat) ∧ i = a + D.length ∧ 0 < D.length ∧ a + D.length + R.length = ez ∧ SortedT D ∧ (D ++ R).Perm (s0 :: S) ∧ St M0 wr (ownR secC 37 4 (.slice (some ⟨b, 0, none⟩) n c) (P ++ (D ++ (R ++ Q))) :: L))
    case atStart => exact ⟨a + 1, [s0], S, by have := HE.out; omega, rfl, rfl, by simp, by have := HE.out; simp; omega, SortedT.one _, List.Perm.refl _, H.out⟩
    case round =>
      clear H w1
      obtain ⟨i, D, R, hg, rfl, hi, hD, hR, hs, hp, h⟩ := hrel
      have HG := hide hg
      have HI := hide hi
      have HPM := hide hp
      have HS := hide hs
      clear hg hp hs
      cases R with
      | nil =>
        have hie : i = ez := by rw [hi, ← hR]; simp
        subst hie
        have d1 : decide ((i : Int) < (i : Int)) = false := decide_eq_false (by omega)
        have H1 := hide h
        clear h
        go_wp2_with fail
        go_end0
        exact ⟨rfl, D, by simpa using HPM.out, HS.out, H1.out⟩
      | cons x R =>
        have hie : i < ez := by rw [hi, ← hR]; simp
        have d1 : decide ((i : Int) < (ez : Int)) = true := decide_eq_true (by omega)
        have HR := hide (show i + 1 + R.length = ez by rw [← hR, hi]; simp; omega)
        have H1 := hide (show St M0 wr (ownR secC 37 4 (.slice (some ⟨b, 0, none⟩) n c) (P ++ (D ++ (x :: (R ++ Q)))) :: L) from h)
        clear h hR hi
        go_wp2_with fail
        go_loopg [9] D.length (fun gh jv wr => ∃ (j : Nat) (U V : List SecV), gh = U.length ∧ j = a + U.length ∧ jv = .int .i64 (j : Nat) ∧ SortedT (U ++ V) ∧ (∀ z ∈ V, x.t ≤ z.t) ∧ ((U ++ x :: V) ++ R).Perm (s0 :: S) ∧ St M0 wr (ownR secC 37 4 (.slice (some ⟨b, 0, none⟩) n c) (P ++ (U ++ (x :: (V ++ (R ++ Q))))) :: L))
        case atStart => exact ⟨i, D, [], rfl, HI.out, rfl, by simpa using HS.out, fun z hz => absurd hz List.not_mem_nil, by simpa using HPM.out, by simpa using H1.out⟩
        case round =>
          clear H1 HPM HS
          obtain ⟨j, U, V, hgj, hj, rfl, hs, hv, hp, h⟩ := hrel
          have HJ := hide hgj
          have HPM := hide hp
          have HS := hide hs
          have HV := hide hv
          have HLU0 := hide hj
          have HUV := hide (show U.length + V.length = D.length ∧ a + U.length + 1 + V.length + R.length + Q.length = n from by
            have l1 := hp.length_eq
            simp only [List.length_append, List.length_cons] at l1
            have := HN.out
            simp only [List.length_cons] at this
            have := HR.out
            have := HI.out
            have := HE.out
            omega)
          clear hgj hp hs hv
          rcases list_last U with rfl | ⟨U', u, rfl⟩
          · have hja : j = a := by simpa using hj
            subst hja
            have d2 : decide ((j : Int) > (j : Int)) = false := decide_eq_false (by omega)
            have HSD := hide (show SortedT (x :: V) from List.pairwise_cons.2 ⟨HV.out, by have := HS.out; rw [List.nil_append] at this; exact this⟩)
            have wj : IntKind.i64.wrap ((i : Int) + 1) = ((i + 1 : Nat) : Int) := (IntWalk.i64_in _ (by have := HR.out; have := HN.out; have := HE.out; simp only [List.length_cons] at *; omega)).trans (by omega)
            have H2 := hide h
            clear h hj
            go_wp2_with fail
            go_quiet (fail)
            have H3 := hide (H2.out.drewN nq)
            clear H2
            go_wp2_with fail
            go_roundg (ez + 1 - (i + 1))
            case measure => have := HG.out; have := HR.out; omega
            case rel => exact ⟨i + 1, x :: V, R, rfl, by go_num, by have := HUV.out; have := HI.out; simp at *; omega, by simp, by have := HUV.out; have := HR.out; have := HI.out; simp at *; omega, HSD.out, HPM.out, by simpa using H3.out⟩
          · obtain ⟨q, hq⟩ : ∃ q, q = a + U'.length := ⟨_, rfl⟩
            have hjq : j = q + 1 := by rw [hj, hq]; simp; omega
            have d2 : decide ((j : Int) > (a : Int)) = true := decide_eq_true (by omega)
            have d2' : decide ((a : Int) < (j : Int)) = true := d2
            have hja : a < j := by omega
            have wq : IntKind.i64.wrap ((j : Int) - 1) = (q : Int) := (IntWalk.i64_in _ (by have := HUV.out; simp at this; omega)).trans (by omega)
            have lq : (P ++ U').length = q := by rw [List.length_append, HA.out, hq]
            obtain ⟨xs, hxs⟩ : ∃ xs, xs = (P ++ U') ++ u :: x :: (V ++ (R ++ Q)) := ⟨_, rfl⟩
            have exs : P ++ ((U' ++ [u]) ++ (x :: (V ++ (R ++ Q)))) = xs := by rw [hxs]; simp
            rw [exs] at h
            have HX := hide (show xs[j]? = some x by rw [hxs, hjq, ← lq]; exact at_mid' _ _ _ _)
            have HY := hide (show xs[q]? = some u by rw [hxs, ← lq]; exact at_mid _ _ _)
            have HLI := hide ((List.getElem?_eq_some_iff.1 HX.out).1)
            have HLJ := hide ((List.getElem?_eq_some_iff.1 HY.out).1)
            have j0 : (0 : Int) ≤ (j : Int) := by omega
            have j1 : (j : Int) < (n : Int) := by have := HUV.out; simp at this; omega
            have q0 : (0 : Int) ≤ (q : Int) := by omega
            have q1 : (q : Int) < (n : Int) := by omega
            have HLU := hide (show j = a + U'.length + 1 by omega)
            have HQQ := hide hq
            by_cases hlt : x.t < u.t
            · have hd : decide (cmpI x.t u.t < 0) = true := by rw [cmpI_lt]; exact decide_eq_true hlt
              have HSW := hide (show (xs.set j u).set q x = P ++ (U' ++ (x :: ((u :: V) ++ (R ++ Q)))) by rw [hxs, hjq, ← lq, swap_adj]; simp)
              have HS2 := hide (show SortedT (U' ++ (u :: V)) by have := HS.out; rwa [List.append_assoc] at this)
              have HV2 := hide (show ∀ z ∈ u :: V, x.t ≤ z.t from fun z hz => (List.mem_cons.1 hz).elim (fun e => by rw [e]; omega) (HV.out z))
              have HPM2 := hide (show ((U' ++ x :: (u :: V)) ++ R).Perm (s0 :: S) from by
                refine List.Perm.trans ?_ HPM.out
                refine List.Perm.append_right _ ?_
                rw [List.append_assoc]
                exact List.Perm.append_left _ (List.Perm.swap u x V))
              have H1 := hide h
              clear h hj hq hjq lq hxs exs hlt
              go_wp2_with fail
              have h0 := H1.out
              clear H1
              refine region_flow (M0 := M0) (L0 := L) [⟨none, none, fun e => ownR secC 37 4 (.slice (some ⟨b, 0, none⟩) n c) (xs)⟩] [[], [], [0, 1], [0, 1, 2], [0, 1, 2, 3], [0, 1, 2, 3], [0, 1, 2, 3], [0, 1, 2, 3, 5, 6], [0, 1, 2, 3, 5, 6, 7], [0, 1, 2, 3], [0, 1, 2, 3], [0, 1, 2, 3, 10], [0, 1, 2, 3, 9, 10, 11], [0, 1, 2, 3, 9, 10, 11, 12], [0, 1, 2, 3, 4, 5, 6, 7, 8, 9, 10, 11, 12, 13], [0, 1, 2, 3, 4, 5, 6, 7, 8, 9, 10, 11, 12, 13, 14], [0, 1, 2, 3, 4, 5, 6, 7, 8, 9, 10, 11, 12, 13, 14, 15]] [0, 1, 2, 3, 4, 5, 6, 7, 8, 9, 10, 11, 12, 13, 14, 15, 16] rfl (by kernel_rfl) (by kernel_rfl) (by kernel_rfl) (by rfl) (fun _ => rfl) (show St M0 _ (ownR secC 37 4 (.slice (some ⟨b, 0, none⟩) n c) (xs) :: L) from h0) ?_
              refine flow_run _ rfl (fun _ => rfl) (fun e wx Lx h => by (go_simp; try rfl)) (by intro e; rfl) (by intro e; rfl) (by intro e x; rfl) ?_
              (simp only [Act.put, List.setIfInBounds_toArray, List.set_cons_succ, List.set_cons_zero])
              refine flow_run _ rfl (fun _ => rfl) (fun e wx Lx h => by (go_simp; try rfl)) (by intro e; rfl) (by intro e; rfl) (by intro e x; rfl) ?_
              (simp only [Act.put, List.setIfInBounds_toArray, List.set_cons_succ, List.set_cons_zero])
              refine flow_run (fun e => .bool true) rfl (fun _ => rfl) (fun e wx Lx h => by (go_simp; try rfl)) (by intro e; rfl) (by intro e; rfl) (by intro e x; rfl) ?_
              (simp only [Act.put, List.setIfInBounds_toArray, List.set_cons_succ, List.set_cons_zero])
              refine flow_run _ rfl (fun _ => rfl) (fun e wx Lx h => by (go_simp; try rfl)) (by intro e; rfl) (by intro e; rfl) (by intro e x; rfl) ?_
              (simp only [Act.put, List.setIfInBounds_toArray, List.set_cons_succ, List.set_cons_zero])
              refine flow_run _ rfl (fun _ => rfl) (fun e wx Lx h => by (go_simp; try rfl)) (by intro e; rfl) (by intro e; rfl) (by intro e x; rfl) ?_
              (simp only [Act.put, List.setIfInBounds_toArray, List.set_cons_succ, List.set_cons_zero])
              refine flow_run _ rfl (fun _ => rfl) (fun e wx Lx h => by (go_simp; try rfl)) (by intro e; rfl) (by intro e; rfl) (by intro e x; rfl) ?_
              (simp only [Act.put, List.setIfInBounds_toArray, List.set_cons_succ, List.set_cons_zero])
              refine flow_run _ rfl (fun _ => rfl) (fun e wx Lx h => by (go_simp; try rfl)) (by intro e; rfl) (by intro e; rfl) (by intro e x; rfl) ?_
              (simp only [Act.put, List.setIfInBounds_toArray, List.set_cons_succ, List.set_cons_zero])
              refine flow_run _ rfl (fun _ => rfl) (fun e wx Lx h => by (go_simp; try rfl)) (by intro e; rfl) (by intro e; rfl) (by intro e x; rfl) ?_
              (simp only [Act.put, List.setIfInBounds_toArray, List.set_cons_succ, List.set_cons_zero])
              refine flow_run _ rfl (fun _ => rfl) (fun e wx Lx h => by (have h : St M0 wx (ownR secC 37 4 (.slice (some ⟨b, 0, none⟩) n c) (xs) :: Lx) := h; have hf := h.flatO (C := secC) (e := 37) (size := 4) (v := .slice (some ⟨b, 0, none⟩) n c) (xs := xs) (by (repeat (first | with_reducible exact At.here | with_reducible apply At.there))); obtain ⟨x0, x1, x2, x3⟩ := cellsSec hf HX.out; obtain ⟨y0, y1, y2, y3⟩ := cellsSec hf HY.out; go_simp; try rfl)) (by intro e; rfl) (by intro e; rfl) (by intro e x; rfl) ?_
              (simp only [Act.put, List.setIfInBounds_toArray, List.set_cons_succ, List.set_cons_zero])
              refine flow_run _ rfl (fun _ => rfl) (fun e wx Lx h => by (go_simp; try rfl)) (by intro e; rfl) (by intro e; rfl) (by intro e x; rfl) ?_
              (simp only [Act.put, List.setIfInBounds_toArray, List.set_cons_succ, List.set_cons_zero])
              refine flow_run _ rfl (fun _ => rfl) (fun e wx Lx h => by (go_simp; try rfl)) (by intro e; rfl) (by intro e; rfl) (by intro e x; rfl) ?_
              (simp only [Act.put, List.setIfInBounds_toArray, List.set_cons_succ, List.set_cons_zero])
              refine flow_run _ rfl (fun _ => rfl) (fun e wx Lx h => by (go_simp; try rfl)) (by intro e; rfl) (by intro e; rfl) (by intro e x; rfl) ?_
              (simp only [Act.put, List.setIfInBounds_toArray, List.set_cons_succ, List.set_cons_zero])
              refine flow_run _ rfl (fun _ => rfl) (fun e wx Lx h => by (go_simp; try rfl)) (by intro e; rfl) (by intro e; rfl) (by intro e x; rfl) ?_
              (simp only [Act.put, List.setIfInBounds_toArray, List.set_cons_succ, List.set_cons_zero])
              refine flow_run _ rfl (fun _ => rfl) (fun e wx Lx h => by (have h : St M0 wx (ownR secC 37 4 (.slice (some ⟨b, 0, none⟩) n c) (xs) :: Lx) := h; have hf := h.flatO (C := secC) (e := 37) (size := 4) (v := .slice (some ⟨b, 0, none⟩) n c) (xs := xs) (by (repeat (first | with_reducible exact At.here | with_reducible apply At.there))); obtain ⟨x0, x1, x2, x3⟩ := cellsSec hf HX.out; obtain ⟨y0, y1, y2, y3⟩ := cellsSec hf HY.out; go_simp; try rfl)) (by intro e; rfl) (by intro e; rfl) (by intro e x; rfl) ?_
              (simp only [Act.put, List.setIfInBounds_toArray, List.set_cons_succ, List.set_cons_zero])
              refine flow_call 113 (fun e => #[.agg #[.int .u64 x.t, .slice x.p.a x.p.n x.p.c, .int .i64 x.s, .slice x.k.a x.k.n x.k.c], .agg #[.int .u64 u.t, .slice u.p.a u.p.n u.p.c, .int .i64 u.s, .slice u.k.a u.k.n u.k.c]]) (fun e => .int .i64 (cmpI x.t u.t)) rfl (fun _ => rfl) (by intro e; rfl) (fun e wx => by (first | (go_simp; done) | (go_simp; exact hen _ _) | exact hen _ _)) (fun e wx Lx h => by (
                have h : St M0 wx (ownR secC 37 4 (.slice (some ⟨b, 0, none⟩) n c) (xs) :: Lx) := h
                refine (cmpSec_st x u _ h).mono ?_
                rintro u wy ⟨rfl, h1⟩
                have hk : St M0 wy (ownR secC 37 4 (.slice (some ⟨b, 0, none⟩) n c) (xs) :: Lx) := h1
                exact ⟨⟨none, 0, default⟩, rfl, hk⟩)) ?_
              (simp only [Act.put, List.setIfInBounds_toArray, List.set_cons_succ, List.set_cons_zero])
              refine flow_run (fun e => .bool true) rfl (fun _ => rfl) (fun e wx Lx h => by (go_simp; try rfl)) (by intro e; rfl) (by intro e; rfl) (by intro e x; rfl) ?_
              (simp only [Act.put, List.setIfInBounds_toArray, List.set_cons_succ, List.set_cons_zero])
              refine flow_run (fun e => .bool true) rfl (fun _ => rfl) (fun e wx Lx h => by (go_simp; try rfl)) (by intro e; rfl) (by intro e; rfl) (by intro e x; rfl) ?_
              (simp only [Act.put, List.setIfInBounds_toArray, List.set_cons_succ, List.set_cons_zero])
              refine flow_nil ?_
              intro e w1 h
              have h : St M0 w1 (ownR secC 37 4 (.slice (some ⟨b, 0, none⟩) n c) (xs) :: L) := h
              have H2 := hide h
              clear h h0
              go_wp2_with fail
              have h0 := H2.out
              clear H2
              refine region_flow (M0 := M0) (L0 := L) [⟨none, some 15, fun e => ownR secC 37 4 (.slice (some ⟨b, 0, none⟩) n c) (xs)⟩, ⟨some 15, some 17, fun e => ownR secC 37 4 (.slice (some ⟨b, 0, none⟩) n c) ((xs).set j u)⟩, ⟨some 17, none, fun e => ownR secC 37 4 (.slice (some ⟨b, 0, none⟩) n c) (((xs).set j u).set q x)⟩] [[], [], [], [], [3], [], [], [6], [5, 6, 7], [5, 6, 7, 8], [], [], [10, 11], [10, 11, 12], [0, 1, 5, 6, 7, 8, 9, 10, 11, 12, 13], [0, 1, 5, 6, 7, 8, 9, 10, 11, 12, 13, 14], [0, 1, 2, 3, 4, 5, 6, 7, 8, 9, 10, 11, 12, 13, 14, 15], [0, 1, 2, 3, 4, 5, 6, 7, 8, 9, 10, 11, 12, 13, 14, 15, 16]] [0, 1, 2, 3, 4, 5, 6, 7, 8, 9, 10, 11, 12, 13, 14, 15, 16, 17] rfl (by kernel_rfl) (by kernel_rfl) (by kernel_rfl) (by rfl) (fun _ => rfl) (show St M0 _ (ownR secC 37 4 (.slice (some ⟨b, 0, none⟩) n c) (xs) :: L) from h0) ?_
              refine flow_run _ rfl (fun _ => rfl) (fun e wx Lx h => by (go_simp; try rfl)) (by intro e; rfl) (by intro e; rfl) (by intro e x; rfl) ?_
              (simp only [Act.put, List.setIfInBounds_toArray, List.set_cons_succ, List.set_cons_zero])
              refine flow_run _ rfl (fun _ => rfl) (fun e wx Lx h => by (go_simp; try rfl)) (by intro e; rfl) (by intro e; rfl) (by intro e x; rfl) ?_
              (simp only [Act.put, List.setIfInBounds_toArray, List.set_cons_succ, List.set_cons_zero])
              refine flow_run _ rfl (fun _ => rfl) (fun e wx Lx h => by (go_simp; try rfl)) (by intro e; rfl) (by intro e; rfl) (by intro e x; rfl) ?_
              (simp only [Act.put, List.setIfInBounds_toArray, List.set_cons_succ, List.set_cons_zero])
              refine flow_run _ rfl (fun _ => rfl) (fun e wx Lx h => by (go_simp; try rfl)) (by intro e; rfl) (by intro e; rfl) (by intro e x; rfl) ?_
              (simp only [Act.put, List.setIfInBounds_toArray, List.set_cons_succ, List.set_cons_zero])
              refine flow_run _ rfl (fun _ => rfl) (fun e wx Lx h => by (go_simp; try rfl)) (by intro e; rfl) (by intro e; rfl) (by intro e x; rfl) ?_
              (simp only [Act.put, List.setIfInBounds_toArray, List.set_cons_succ, List.set_cons_zero])
              refine flow_run _ rfl (fun _ => rfl) (fun e wx Lx h => by (go_simp; try rfl)) (by intro e; rfl) (by intro e; rfl) (by intro e x; rfl) ?_
              (simp only [Act.put, List.setIfInBounds_toArray, List.set_cons_succ, List.set_cons_zero])
              refine flow_run _ rfl (fun _ => rfl) (fun e wx Lx h => by (go_simp; try rfl)) (by intro e; rfl) (by intro e; rfl) (by intro e x; rfl) ?_
              (simp only [Act.put, List.setIfInBounds_toArray, List.set_cons_succ, List.set_cons_zero])
              refine flow_run _ rfl (fun _ => rfl) (fun e wx Lx h => by (go_simp; try rfl)) (by intro e; rfl) (by intro e; rfl) (by intro e x; rfl) ?_
              (simp only [Act.put, List.setIfInBounds_toArray, List.set_cons_succ, List.set_cons_zero])
              refine flow_run _ rfl (fun _ => rfl) (fun e wx Lx h => by (go_simp; try rfl)) (by intro e; rfl) (by intro e; rfl) (by intro e x; rfl) ?_
              (simp only [Act.put, List.setIfInBounds_toArray, List.set_cons_succ, List.set_cons_zero])
              refine flow_run _ rfl (fun _ => rfl) (fun e wx Lx h => by (have h : St M0 wx (ownR secC 37 4 (.slice (some ⟨b, 0, none⟩) n c) (xs) :: Lx) := h; have hf := h.flatO (C := secC) (e := 37) (size := 4) (v := .slice (some ⟨b, 0, none⟩) n c) (xs := xs) (by (repeat (first | with_reducible exact At.here | with_reducible apply At.there))); obtain ⟨x0, x1, x2, x3⟩ := cellsSec hf HX.out; obtain ⟨y0, y1, y2, y3⟩ := cellsSec hf HY.out; go_simp; try rfl)) (by intro e; rfl) (by intro e; rfl) (by intro e x; rfl) ?_
              (simp only [Act.put, List.setIfInBounds_toArray, List.set_cons_succ, List.set_cons_zero])
              refine flow_run _ rfl (fun _ => rfl) (fun e wx Lx h => by (go_simp; try rfl)) (by intro e; rfl) (by intro e; rfl) (by intro e x; rfl) ?_
              (simp only [Act.put, List.setIfInBounds_toArray, List.set_cons_succ, List.set_cons_zero])
              refine flow_run _ rfl (fun _ => rfl) (fun e wx Lx h => by (go_simp; try rfl)) (by intro e; rfl) (by intro e; rfl) (by intro e x; rfl) ?_
              (simp only [Act.put, List.setIfInBounds_toArray, List.set_cons_succ, List.set_cons_zero])
              refine flow_run _ rfl (fun _ => rfl) (fun e wx Lx h => by (go_simp; try rfl)) (by intro e; rfl) (by intro e; rfl) (by intro e x; rfl) ?_
              (simp only [Act.put, List.setIfInBounds_toArray, List.set_cons_succ, List.set_cons_zero])
              refine flow_run _ rfl (fun _ => rfl) (fun e wx Lx h => by (have h : St M0 wx (ownR secC 37 4 (.slice (some ⟨b, 0, none⟩) n c) (xs) :: Lx) := h; have hf := h.flatO (C := secC) (e := 37) (size := 4) (v := .slice (some ⟨b, 0, none⟩) n c) (xs := xs) (by (repeat (first | with_reducible exact At.here | with_reducible apply At.there))); obtain ⟨x0, x1, x2, x3⟩ := cellsSec hf HX.out; obtain ⟨y0, y1, y2, y3⟩ := cellsSec hf HY.out; go_simp; try rfl)) (by intro e; rfl) (by intro e; rfl) (by intro e x; rfl) ?_
              (simp only [Act.put, List.setIfInBounds_toArray, List.set_cons_succ, List.set_cons_zero])
              refine flow_run _ rfl (fun _ => rfl) (fun e wx Lx h => by (go_simp; try rfl)) (by intro e; rfl) (by intro e; rfl) (by intro e x; rfl) ?_
              (simp only [Act.put, List.setIfInBounds_toArray, List.set_cons_succ, List.set_cons_zero])
              refine flow_store _ _ _ (fun e => .pointer (some ⟨b, j * 4, none⟩)) (fun e => .agg #[.int .u64 u.t, .slice u.p.a u.p.n u.p.c, .int .i64 u.s, .slice u.k.a u.k.n u.k.c]) rfl (fun _ => rfl) rfl (fun _ => rfl) (fun _ => rfl) (fun e wx Lx h => by (
                have h : St M0 wx (ownR secC 37 4 (.slice (some ⟨b, 0, none⟩) n c) (xs) :: Lx) := h
                have h1 := (h.front (X := ownR secC 37 4 (.slice (some ⟨b, 0, none⟩) n c) (xs)) (by (repeat (first | with_reducible exact At.here | with_reducible apply At.there)))).ownPut secC_len (k := j) (by exact HLI.out) u
                have hk : St M0 _ (ownR secC 37 4 (.slice (some ⟨b, 0, none⟩) n c) ((xs).set j u) :: Lx) := h1.1.sub (by (repeat (first | with_reducible exact Sub.refl _ | (with_reducible apply Sub.take; focus (repeat (first | with_reducible exact At.here | with_reducible apply At.there))) | with_reducible apply Sub.drop)))
                exact ⟨_, (sec_store _ _ _ _ h1.2), hk⟩)) ?_
              simp only [Act.put]
              refine flow_run _ rfl (fun _ => rfl) (fun e wx Lx h => by (go_simp; try rfl)) (by intro e; rfl) (by intro e; rfl) (by intro e x; rfl) ?_
              (simp only [Act.put, List.setIfInBounds_toArray, List.set_cons_succ, List.set_cons_zero])
              refine flow_store _ _ _ (fun e => .pointer (some ⟨b, q * 4, none⟩)) (fun e => .agg #[.int .u64 x.t, .slice x.p.a x.p.n x.p.c, .int .i64 x.s, .slice x.k.a x.k.n x.k.c]) rfl (fun _ => rfl) rfl (fun _ => rfl) (fun _ => rfl) (fun e wx Lx h => by (
                have h : St M0 wx (ownR secC 37 4 (.slice (some ⟨b, 0, none⟩) n c) ((xs).set j u) :: Lx) := h
                have h1 := (h.front (X := ownR secC 37 4 (.slice (some ⟨b, 0, none⟩) n c) ((xs).set j u)) (by (repeat (first | with_reducible exact At.here | with_reducible apply At.there)))).ownPut secC_len (k := q) (by rw [List.length_set]; exact HLJ.out) x
                have hk : St M0 _ (ownR secC 37 4 (.slice (some ⟨b, 0, none⟩) n c) (((xs).set j u).set q x) :: Lx) := h1.1.sub (by (repeat (first | with_reducible exact Sub.refl _ | (with_reducible apply Sub.take; focus (repeat (first | with_reducible exact At.here | with_reducible apply At.there))) | with_reducible apply Sub.drop)))
                exact ⟨_, (sec_store _ _ _ _ h1.2), hk⟩)) ?_
              simp only [Act.put]
              refine flow_nil ?_
              intro e w1 h
              have h : St M0 w1 (ownR secC 37 4 (.slice (some ⟨b, 0, none⟩) n c) (((xs).set j u).set q x) :: L) := h
              rw [HSW.out] at h
              have H3 := hide h
              clear h h0
              go_wp2_with fail
              go_roundg U'.length
              case measure => have := HJ.out; simp at this; omega
              case rel => exact ⟨q, U', u :: V, rfl, HQQ.out, by go_num, HS2.out, HV2.out, HPM2.out, H3.out⟩
            · have hd : decide (cmpI x.t u.t < 0) = false := by rw [cmpI_lt]; exact decide_eq_false hlt
              have HSD := hide (show SortedT ((U' ++ [u]) ++ x :: V) from SortedT.put HS.out (SortedT.last_le (sortedT_app.1 HS.out).1 (by omega)) HV.out)
              have wj : IntKind.i64.wrap ((i : Int) + 1) = ((i + 1 : Nat) : Int) := (IntWalk.i64_in _ (by have := HR.out; have := HN.out; have := HE.out; simp only [List.length_cons] at *; omega)).trans (by omega)
              have HXS := hide exs
              have H1 := hide h
              clear h hj hq hjq lq hxs exs hlt
              go_wp2_with fail
              have h0 := H1.out
              clear H1
              refine region_flow (M0 := M0) (L0 := L) [⟨none, none, fun e => ownR secC 37 4 (.slice (some ⟨b, 0, none⟩) n c) (xs)⟩] [[], [], [0, 1], [0, 1, 2], [0, 1, 2, 3], [0, 1, 2, 3], [0, 1, 2, 3], [0, 1, 2, 3, 5, 6], [0, 1, 2, 3, 5, 6, 7], [0, 1, 2, 3], [0, 1, 2, 3], [0, 1, 2, 3, 10], [0, 1, 2, 3, 9, 10, 11], [0, 1, 2, 3, 9, 10, 11, 12], [0, 1, 2, 3, 4, 5, 6, 7, 8, 9, 10, 11, 12, 13], [0, 1, 2, 3, 4, 5, 6, 7, 8, 9, 10, 11, 12, 13, 14], [0, 1, 2, 3, 4, 5, 6, 7, 8, 9, 10, 11, 12, 13, 14, 15]] [0, 1, 2, 3, 4, 5, 6, 7, 8, 9, 10, 11, 12, 13, 14, 15, 16] rfl (by kernel_rfl) (by kernel_rfl) (by kernel_rfl) (by rfl) (fun _ => rfl) (show St M0 _ (ownR secC 37 4 (.slice (some ⟨b, 0, none⟩) n c) (xs) :: L) from h0) ?_
              refine flow_run _ rfl (fun _ => rfl) (fun e wx Lx h => by (go_simp; try rfl)) (by intro e; rfl) (by intro e; rfl) (by intro e x; rfl) ?_
              (simp only [Act.put, List.setIfInBounds_toArray, List.set_cons_succ, List.set_cons_zero])
              refine flow_run _ rfl (fun _ => rfl) (fun e wx Lx h => by (go_simp; try rfl)) (by intro e; rfl) (by intro e; rfl) (by intro e x; rfl) ?_
              (simp only [Act.put, List.setIfInBounds_toArray, List.set_cons_succ, List.set_cons_zero])
              refine flow_run (fun e => .bool true) rfl (fun _ => rfl) (fun e wx Lx h => by (go_simp; try rfl)) (by intro e; rfl) (by intro e; rfl) (by intro e x; rfl) ?_
              (simp only [Act.put, List.setIfInBounds_toArray, List.set_cons_succ, List.set_cons_zero])
              refine flow_run _ rfl (fun _ => rfl) (fun e wx Lx h => by (go_simp; try rfl)) (by intro e; rfl) (by intro e; rfl) (by intro e x; rfl) ?_
              (simp only [Act.put, List.setIfInBounds_toArray, List.set_cons_succ, List.set_cons_zero])
              refine flow_run _ rfl (fun _ => rfl) (fun e wx Lx h => by (go_simp; try rfl)) (by intro e; rfl) (by intro e; rfl) (by intro e x; rfl) ?_
              (simp only [Act.put, List.setIfInBounds_toArray, List.set_cons_succ, List.set_cons_zero])
              refine flow_run _ rfl (fun _ => rfl) (fun e wx Lx h => by (go_simp; try rfl)) (by intro e; rfl) (by intro e; rfl) (by intro e x; rfl) ?_
              (simp only [Act.put, List.setIfInBounds_toArray, List.set_cons_succ, List.set_cons_zero])
              refine flow_run _ rfl (fun _ => rfl) (fun e wx Lx h => by (go_simp; try rfl)) (by intro e; rfl) (by intro e; rfl) (by intro e x; rfl) ?_
              (simp only [Act.put, List.setIfInBounds_toArray, List.set_cons_succ, List.set_cons_zero])
              refine flow_run _ rfl (fun _ => rfl) (fun e wx Lx h => by (go_simp; try rfl)) (by intro e; rfl) (by intro e; rfl) (by intro e x; rfl) ?_
              (simp only [Act.put, List.setIfInBounds_toArray, List.set_cons_succ, List.set_cons_zero])
              refine flow_run _ rfl (fun _ => rfl) (fun e wx Lx h => by (have h : St M0 wx (ownR secC 37 4 (.slice (some ⟨b, 0, none⟩) n c) (xs) :: Lx) := h; have hf := h.flatO (C := secC) (e := 37) (size := 4) (v := .slice (some ⟨b, 0, none⟩) n c) (xs := xs) (by (repeat (first | with_reducible exact At.here | with_reducible apply At.there))); obtain ⟨x0, x1, x2, x3⟩ := cellsSec hf HX.out; obtain ⟨y0, y1, y2, y3⟩ := cellsSec hf HY.out; go_simp; try rfl)) (by intro e; rfl) (by intro e; rfl) (by intro e x; rfl) ?_
              (simp only [Act.put, List.setIfInBounds_toArray, List.set_cons_succ, List.set_cons_zero])
              refine flow_run _ rfl (fun _ => rfl) (fun e wx Lx h => by (go_simp; try rfl)) (by intro e; rfl) (by intro e; rfl) (by intro e x; rfl) ?_
              (simp only [Act.put, List.setIfInBounds_toArray, List.set_cons_succ, List.set_cons_zero])
              refine flow_run _ rfl (fun _ => rfl) (fun e wx Lx h => by (go_simp; try rfl)) (by intro e; rfl) (by intro e; rfl) (by intro e x; rfl) ?_
              (simp only [Act.put, List.setIfInBounds_toArray, List.set_cons_succ, List.set_cons_zero])
              refine flow_run _ rfl (fun _ => rfl) (fun e wx Lx h => by (go_simp; try rfl)) (by intro e; rfl) (by intro e; rfl) (by intro e x; rfl) ?_
              (simp only [Act.put, List.setIfInBounds_toArray, List.set_cons_succ, List.set_cons_zero])
              refine flow_run _ rfl (fun _ => rfl) (fun e wx Lx h => by (go_simp; try rfl)) (by intro e; rfl) (by intro e; rfl) (by intro e x; rfl) ?_
              (simp only [Act.put, List.setIfInBounds_toArray, List.set_cons_succ, List.set_cons_zero])
              refine flow_run _ rfl (fun _ => rfl) (fun e wx Lx h => by (have h : St M0 wx (ownR secC 37 4 (.slice (some ⟨b, 0, none⟩) n c) (xs) :: Lx) := h; have hf := h.flatO (C := secC) (e := 37) (size := 4) (v := .slice (some ⟨b, 0, none⟩) n c) (xs := xs) (by (repeat (first | with_reducible exact At.here | with_reducible apply At.there))); obtain ⟨x0, x1, x2, x3⟩ := cellsSec hf HX.out; obtain ⟨y0, y1, y2, y3⟩ := cellsSec hf HY.out; go_simp; try rfl)) (by intro e; rfl) (by intro e; rfl) (by intro e x; rfl) ?_
              (simp only [Act.put, List.setIfInBounds_toArray, List.set_cons_succ, List.set_cons_zero])
              refine flow_call 113 (fun e => #[.agg #[.int .u64 x.t, .slice x.p.a x.p.n x.p.c, .int .i64 x.s, .slice x.k.a x.k.n x.k.c], .agg #[.int .u64 u.t, .slice u.p.a u.p.n u.p.c, .int .i64 u.s, .slice u.k.a u.k.n u.k.c]]) (fun e => .int .i64 (cmpI x.t u.t)) rfl (fun _ => rfl) (by intro e; rfl) (fun e wx => by (first | (go_simp; done) | (go_simp; exact hen _ _) | exact hen _ _)) (fun e wx Lx h => by (
                have h : St M0 wx (ownR secC 37 4 (.slice (some ⟨b, 0, none⟩) n c) (xs) :: Lx) := h
                refine (cmpSec_st x u _ h).mono ?_
                rintro u wy ⟨rfl, h1⟩
                have hk : St M0 wy (ownR secC 37 4 (.slice (some ⟨b, 0, none⟩) n c) (xs) :: Lx) := h1
                exact ⟨⟨none, 0, default⟩, rfl, hk⟩)) ?_
              (simp only [Act.put, List.setIfInBounds_toArray, List.set_cons_succ, List.set_cons_zero])
              refine flow_run (fun e => .bool false) rfl (fun _ => rfl) (fun e wx Lx h => by (go_simp; try rfl)) (by intro e; rfl) (by intro e; rfl) (by intro e x; rfl) ?_
              (simp only [Act.put, List.setIfInBounds_toArray, List.set_cons_succ, List.set_cons_zero])
              refine flow_run (fun e => .bool false) rfl (fun _ => rfl) (fun e wx Lx h => by (go_simp; try rfl)) (by intro e; rfl) (by intro e; rfl) (by intro e x; rfl) ?_
              (simp only [Act.put, List.setIfInBounds_toArray, List.set_cons_succ, List.set_cons_zero])
              refine flow_nil ?_
              intro e w1 h
              have h : St M0 w1 (ownR secC 37 4 (.slice (some ⟨b, 0, none⟩) n c) (xs) :: L) := h
              have H2 := hide h
              clear h h0
              go_wp2_with fail
              go_roundg (ez + 1 - (i + 1))
              case measure => have := HG.out; have := HR.out; omega
              case rel => exact ⟨i + 1, (U' ++ [u]) ++ x :: V, R, rfl, by go_num, by have := HUV.out; have := HI.out; simp at *; omega, by simp; omega, by have := HUV.out; have := HR.out; have := HI.out; simp at *; omega, HSD.out, HPM.out, by have := H2.out; rw [← HXS.out] at this; simpa using this⟩
end Go.Proofs.Ytbgknfdaaffeaaa
