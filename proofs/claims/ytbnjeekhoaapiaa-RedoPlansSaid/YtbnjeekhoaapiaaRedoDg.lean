/- Redo: the document's Merge. -/
import Derived.Test.YtbnjeekhoaapiaaRedoPu
import Derived.Test.YtbnjeekhoaapiaaRedoG
import Derived.Deep.LoopGhost
import Derived.Deep.DeepCutAuto
namespace Go.Proofs.Ytbnjeekhoaapiaa
open Go.RowKit

set_option maxHeartbeats 2000000 in
set_option maxRecDepth 100000 in
theorem rmerge_st {M0 : Imm} {L : List Res} (l : List PU) (A : Option Addr) (n c : Nat) (w : World) (hl : l.length ≤ 1000) (h : St M0 w (rowsR 3 PutR (.slice A n c) l :: L)) :
    Calls Try.prog 29 #[.slice A n c] w fun e w' => ∃ v, e = .returned v ∧ St M0 w' (growR 65 3 PutR v (mergeP l) :: L) := by
  obtain ⟨A', c', e, hc, hm⟩ := (h.getRows 0 rfl).slice
  injection e with e1 e2 e3
  subst e1; subst e3
  have HN := hide e2
  have hn : n ≤ 1000 := by omega
  have H := hide (h.nilGrow 65 3 PutR)
  clear h e2 hl hm
  go_enter Try.func29, Try.ntmps29
  go_wp2_with fail
  go_loopg [3, 4] n (fun gh v i wr => ∃ (k : Nat) (B : Option Addr) (q d : Nat) (o : List PU), gh = n - k ∧ k ≤ n ∧ v = .slice B q d ∧ i = .int .i64 (k : Nat) ∧ q ≤ k ∧ mergeP l = o ++ mergeP (l.drop k) ∧ St M0 wr (growR 65 3 PutR (.slice B q d) o :: rowsR 3 PutR (.slice A n c) l :: L))
  case atStart => exact ⟨0, none, 0, 0, [], rfl, by omega, rfl, rfl, by omega, rfl, H.out⟩
  case round =>
    clear H
    obtain ⟨k, B, q, d, o, hg, hk, rfl, rfl, hqk, ho, h⟩ := hrel
    have HG := hide hg
    have ql : q ≤ 1000 := by omega
    have HQK := hide hqk
    clear hg hqk
    by_cases hlt : k < n
    · have hx := List.getElem?_eq_getElem (l := l) (i := k) (by rw [← HN.out]; exact hlt)
      have hdr := List.drop_eq_getElem_cons (l := l) (i := k) (by rw [← HN.out]; exact hlt)
      generalize l[k]'(by rw [← HN.out]; exact hlt) = x at hx hdr
      have hstep : mergeP (l.drop k) = if (l.drop (k + 1)).any (keyP x) = true then mergeP (l.drop (k + 1)) else x :: mergeP (l.drop (k + 1)) := by rw [hdr]; rfl
      rw [hstep] at ho
      have HO := hide ho
      have HX := hide hx
      have H1 := hide h
      clear hx h hdr hstep ho
      have i0 : (0 : Int) ≤ (k : Int) := by omega
      have i1 : (k : Int) < (n : Int) := by omega
      go_wp2_with fail
      go_loopg [5, 6] (n - (k + 1)) (fun gh t i wr => ∃ m : Nat, gh = n - (k + 1 + m) ∧ k + 1 + m ≤ n ∧ t = .bool (!((l.drop (k + 1)).take m).any (keyP x)) ∧ i = .int .i64 (k + 1 + m : Nat) ∧ St M0 wr (growR 65 3 PutR (.slice B q d) o :: rowsR 3 PutR (.slice A n c) l :: L))
      case atStart => exact ⟨0, by omega, by omega, by simp, by go_num, H1.out⟩
      case round =>
        clear H1
        obtain ⟨m, hgm, hm, rfl, hi, h⟩ := hrel
        obtain ⟨z, hz⟩ : ∃ z, z = k + 1 + m := ⟨_, rfl⟩
        rw [← hz] at hgm hm hi
        subst hi
        have HGM := hide hgm
        have HZ := hide hz
        clear hgm hz
        by_cases hltz : z < n
        · have hy := List.getElem?_eq_getElem (l := l) (i := z) (by rw [← HN.out]; exact hltz)
          generalize l[z]'(by rw [← HN.out]; exact hltz) = y at hy
          have hty : (l.drop (k + 1)).take (m + 1) = (l.drop (k + 1)).take m ++ [y] := by
            rw [List.take_add_one, List.getElem?_drop, ← HZ.out, hy]; rfl
          have hany : ((l.drop (k + 1)).take (m + 1)).any (keyP x) = (((l.drop (k + 1)).take m).any (keyP x) || keyP x y) := by rw [hty]; simp
          obtain ⟨ad, cs, rfl, _, hcs, ⟨v, rfl, hv⟩, h1⟩ := h.elem 1 rfl HX.out
          obtain ⟨ad', cs, e, _, hcs', ⟨v', rfl, hv'⟩, h2⟩ := h1.elem 2 rfl hy
          injection e with e
          subst e
          have HANY := hide hany
          have H2 := hide h2
          clear hy hty hany h h1 h2 hcs hcs' hv hv'
          have j0 : (0 : Int) ≤ (z : Int) := by omega
          have j1 : (z : Int) < (n : Int) := by omega
          generalize ((l.drop (k + 1)).take m).any (keyP x) = b0 at *
          go_upto_region 9 with (fail)
          go_cut [31] (fun t wx => t = .bool (keyP x y) ∧ St M0 wx (growR 65 3 PutR (.slice B q d) o :: rowsR 3 PutR (.slice (some ad) n c) l :: L))
          case first =>
            refine region_mix (fun W => (W.cell? (ad.add (k * 3)) = some (.int .i64 x.region) ∧ W.cell? ⟨(ad.add (k * 3)).block, (ad.add (k * 3)).off + 1, none⟩ = some (.int .i64 x.index)) ∧ W.cell? (ad.add (z * 3)) = some (.int .i64 y.region) ∧ W.cell? ⟨(ad.add (z * 3)).block, (ad.add (z * 3)).off + 1, none⟩ = some (.int .i64 y.index)) 11 [0, 1, 2, 3, 4, 5, 6, 7, 8, 9, 10] [] (by kernel_rfl) (by kernel_rfl) (fun d => by cases d <;> exact fun _ _ _ _ h => h) (fun W hW => ?_)
            have hS : St M0 W _ := hW ▸ H2.out.drew
            have hc1 := cells3 (hS.get 1 rfl).1
            have hc2 := cells3 (hS.get 0 rfl).1
            have HS := hide hS.tail.tail
            clear hW H2 hS
            refine ⟨⟨⟨hc1.1, hc1.2.1⟩, ⟨hc2.1, hc2.2.1⟩⟩, ?_⟩
            clear hc1 hc2
            iterate 10 (refine take_run rfl rfl (fun W hW => by (rcases hW with ⟨⟨_, _⟩, ⟨_, _⟩⟩; go_simp; try rfl)) ?_; (simp only [Act.put, List.setIfInBounds_toArray, List.set_cons_succ, List.set_cons_zero]))
            by_cases e1 : y.region = x.region
            · by_cases e2 : y.index = x.index
              · have hk2 : keyP x y = true := by simp [keyP, e1, e2]
                rw [e1, e2]
                refine take_run rfl rfl (fun W hW => by (clear hW; go_simp; try rfl)) ?_
                (simp only [Act.put, List.setIfInBounds_toArray, List.set_cons_succ, List.set_cons_zero])
                refine take_nil (seq_nil ?_)
                go_wp2_with fail
                go_meet
                exact ⟨by rw [hk2]; try rfl, HS.out⟩
              · have hk2 : keyP x y = false := by simp [keyP, e2]
                have b2 : (y.index == x.index) = false := isF e2
                refine take_run rfl rfl (fun W hW => by (clear hW; go_simp; try rfl)) ?_
                (simp only [Act.put, List.setIfInBounds_toArray, List.set_cons_succ, List.set_cons_zero])
                refine take_nil (seq_nil ?_)
                go_wp2_with fail
                go_meet
                exact ⟨by rw [hk2]; try rfl, HS.out⟩
            · have hk2 : keyP x y = false := by simp [keyP, e1]
              have b2 : (y.region == x.region) = false := isF e1
              refine take_run rfl rfl (fun W hW => by (clear hW; go_simp; try rfl)) ?_
              (simp only [Act.put, List.setIfInBounds_toArray, List.set_cons_succ, List.set_cons_zero])
              refine take_nil (seq_nil ?_)
              go_wp2_with fail
              go_meet
              exact ⟨by rw [hk2]; try rfl, HS.out⟩
          case rest =>
            obtain ⟨rfl, h⟩ := hcut
            have H := hide h
            clear h H2
            cases hk2 : keyP x y with
            | true =>
              have HB := hide (show ((l.drop (k + 1)).take (m + 1)).any (keyP x) = true by rw [HANY.out, hk2, Bool.or_true])
              go_wp2_with fail
              go_roundg (n - (z + 1))
              case measure => have := HGM.out; omega
              case rel => exact ⟨m + 1, by have := HZ.out; omega, by have := HZ.out; omega, by rw [HB.out]; rfl, by rw [show k + 1 + (m + 1) = z + 1 by have := HZ.out; omega]; go_num, H.out⟩
            | false =>
              have HB := hide (show ((l.drop (k + 1)).take (m + 1)).any (keyP x) = b0 by rw [HANY.out, hk2, Bool.or_false])
              go_wp2_with fail
              go_roundg (n - (z + 1))
              case measure => have := HGM.out; omega
              case rel => exact ⟨m + 1, by have := HZ.out; omega, by have := HZ.out; omega, by rw [HB.out], by rw [show k + 1 + (m + 1) = z + 1 by have := HZ.out; omega]; go_num, H.out⟩
        · obtain rfl : z = n := by omega
          have htk : (l.drop (k + 1)).take m = l.drop (k + 1) := List.take_of_length_le (by rw [List.length_drop, ← HN.out]; have := HZ.out; omega)
          rw [htk]
          have HX2 := hide (h.elem 1 rfl HX.out)
          clear htk
          cases hany : (l.drop (k + 1)).any (keyP x) with
          | true =>
            have HO2 := hide (HO.out.trans (by rw [if_pos hany]))
            have H2 := hide h
            clear h hany HO HX2
            go_wp2_with fail
            go_roundg (z - (k + 1))
            case measure => have := HG.out; omega
            case rel => exact ⟨k + 1, B, q, d, o, rfl, by omega, rfl, by go_num, by have := HQK.out; omega, HO2.out, H2.out⟩
          | false =>
            have HO2 := hide (show mergeP l = (o ++ [x]) ++ mergeP (l.drop (k + 1)) by rw [HO.out, if_neg (by rw [hany]; exact Bool.false_ne_true), List.append_assoc]; rfl)
            obtain ⟨ad, cs, rfl, _, hcs, ⟨v, rfl, hv⟩, h1⟩ := HX2.out
            obtain ⟨X, xc, rfl, _, _, _⟩ := id hv
            obtain ⟨e0, e1, e2⟩ := cells3 hcs
            obtain ⟨xs, hq, hxl, hz⟩ := ((h1.pers1 (R' := fun w' => PutR w' [.int .i64 x.region, .int .i64 x.index, .slice X x.data.length xc] x) (fun w' hr => hr.2)).swap).openGrowS
            have HQ := hide hq
            have HXL := hide hxl
            have HH := hide hz
            clear h hq hxl hz hany HO HX2 h1 hcs hv
            go_wp2_with (at_builtin; refine St.app_step doc_elem (HH.out.junk _) rfl _ _ rfl rfl (some ⟨wr.heap.size, 0, none⟩) 1 1 rfl [.int .i64 x.region, .int .i64 x.index, .slice X x.data.length xc] (sl_newG (by simp)) (by intro u hu; simp at hu; rcases hu with rfl | rfl | rfl <;> rfl) (by omega) (by omega) ?_; intro A4 c4 w4 h4)
            have H7 := hide (h4.snocGrow HQ.out rfl HXL.out)
            clear h4 HH
            go_roundg (z - (k + 1))
            case measure => have := HG.out; omega
            case rel => exact ⟨k + 1, A4, q + 1, c4, o ++ [x], rfl, by omega, rfl, by go_num, by have := HQK.out; omega, HO2.out, H7.out⟩
    · obtain rfl : k = n := by omega
      have htk : l.drop k = [] := List.drop_of_length_le (by rw [← HN.out]; exact Nat.le_refl _)
      rw [htk, show mergeP [] = [] from rfl, List.append_nil] at ho
      have HO := hide ho
      have H := hide (h.pick (L' := growR 65 3 PutR (.slice B q d) o :: L) 2 [0])
      clear h ho htk
      go_wp2_with fail
      go_ret
      exact ⟨.slice B q d, rfl, by rw [HO.out]; exact H.out⟩
end Go.Proofs.Ytbnjeekhoaapiaa
