/- Redo: Merge. -/
import Derived.Test.YtbnjeekhoaapiaaRedoG
import Derived.Deep.LoopGhost
import Derived.Shelf.Abstract
import Derived.Deep.DeepCutAuto
namespace Go.Proofs.Ytbnjeekhoaapiaa
open Go.RowKit Go.Shelf

set_option maxHeartbeats 2000000 in
set_option maxRecDepth 100000 in
theorem merge_st {M0 : Imm} {L : List Res} (l : List PU) (A : Option Addr) (n c : Nat) (w : World) (hl : l.length ≤ 1000) (h : St M0 w (rowsR 3 PutR (.slice A n c) l :: L)) :
    Calls Try.prog 28 #[.slice A n c] w fun e w' => ∃ v, e = .returned v ∧ St M0 w' (growR 62 3 PutR v (mergeP l) :: L) := by
  obtain ⟨A', c', e, hc, hm⟩ := (h.getRows 0 rfl).slice
  injection e with e1 e2 e3
  subst e1; subst e3
  have HN := hide e2
  have hn : n ≤ 1000 := by omega
  have hnc : n ≤ c := by omega
  have HM := hide hm
  have H := hide (h.nilGrow 62 3 PutR)
  clear h e2 hl hm
  go_enter Try.func28, Try.ntmps28
  go_wp2_with fail
  go_loopg [3, 9] n (fun gh v i wr => ∃ (k : Nat) (B : Option Addr) (q d : Nat) (o : List PU), gh = n - k ∧ k ≤ n ∧ v = .slice B q d ∧ i = .int .i64 (k : Nat) ∧ q ≤ k ∧ mergeP l = o ++ mergeP (l.drop k) ∧ St M0 wr (growR 62 3 PutR (.slice B q d) o :: rowsR 3 PutR (.slice A n c) l :: L))
  case atStart => exact ⟨0, none, 0, 0, [], rfl, by omega, rfl, rfl, by omega, rfl, H.out⟩
  case round =>
    clear H
    obtain ⟨k, B, q, d, o, hg, hk, rfl, rfl, hqk, ho, h⟩ := hrel
    have HG := hide hg
    have ql : q ≤ 1000 := by omega
    have HQK := hide hqk
    clear hg hqk
    by_cases hlt : k < n
    · have hx := List.getElem?_eq_getElem (l := l) (i := k) (by rw [← HN.out]; exact hlt)
      have hdr := List.drop_eq_getElem_cons (l := l) (i := k) (by rw [← HN.out]; exact hlt)
      generalize l[k]'(by rw [← HN.out]; exact hlt) = x at hx hdr
      have hstep : mergeP (l.drop k) = if (l.drop (k + 1)).any (keyP x) = true then mergeP (l.drop (k + 1)) else x :: mergeP (l.drop (k + 1)) := by rw [hdr]; rfl
      rw [hstep] at ho
      obtain ⟨ad, cs, rfl, _, hcs, ⟨v, rfl, hv⟩, h1⟩ := h.elem 1 rfl hx
      obtain ⟨X, xc, rfl, _, _, _⟩ := id hv
      obtain ⟨e0, e1, e2⟩ := cells3 hcs
      have HO := hide ho
      have H1 := hide (((h1.pers1 (R' := fun w' => PutR w' [.int .i64 x.region, .int .i64 x.index, .slice X x.data.length xc] x) (fun w' hr => hr.2)).alloc 62 #[.int .i64 x.region, .int .i64 x.index, .slice X x.data.length xc]))
      clear hx h h1 hv hcs hdr hstep ho
      have i0 : (0 : Int) ≤ (k : Int) := by omega
      have i1 : (k : Int) < (n : Int) := by omega
      have i2 : (k : Int) + 1 ≤ (n : Int) := by omega
      have i3 : (n : Int) ≤ (c : Int) := by omega
      have i4 : (0 : Int) ≤ (k : Int) + 1 := by omega
      have hdrop : (l.drop (k + 1)).take (n - (k + 1)) = l.drop (k + 1) := List.take_of_length_le (by rw [List.length_drop, ← HN.out]; exact Nat.le_refl _)
      have HD := hide hdrop
      clear hdrop
      have hsub : ∀ A7 c7, n - (k + 1) ≤ c7 ∧ c7 ≤ c → (0 < n - (k + 1) → A7 = (some ad).map (·.add ((k + 1) * 3))) → St M0 (wr.alloc (.cells #[.int .i64 x.region, .int .i64 x.index, .slice X x.data.length xc] 62)) (rowsR 3 PutR (.slice A7 (n - (k + 1)) c7) (l.drop (k + 1)) :: blkR wr.heap.size 62 #[.int .i64 x.region, .int .i64 x.index, .slice X x.data.length xc] :: persR (fun w' => PutR w' [.int .i64 x.region, .int .i64 x.index, .slice X x.data.length xc] x) :: growR 62 3 PutR (.slice B q d) o :: rowsR 3 PutR (.slice (some ad) n c) l :: L) := by
        intro A7 c7 hc7 hA
        have h1 := H1.out.subRows (A' := A7) (k := k + 1) (m := n - (k + 1)) (c' := c7) 3 rfl (by omega) hA hc7.1 (by have := HM.out; unfold maxLen; omega)
        rwa [HD.out] at h1
      have HSUB := hide hsub
      clear hsub
      go_upto_region 6 with (fail)
      go_cut [9, 21] (fun i v wx => i = .int .i64 (k : Nat) ∧ v = .bool (!(l.drop (k + 1)).any (keyP x)) ∧ St M0 wx (blkR wr.heap.size 62 #[.int .i64 x.region, .int .i64 x.index, .slice X x.data.length xc] :: persR (fun w' => PutR w' [.int .i64 x.region, .int .i64 x.index, .slice X x.data.length xc] x) :: growR 62 3 PutR (.slice B q d) o :: rowsR 3 PutR (.slice (some ad) n c) l :: L))
      case first =>
        go_wp2_with fail
        all_goals
          refine (contains_st 66 (.pointer (some ⟨wr.heap.size, 0, none⟩)) (keyP x) (l.drop (k + 1)) _ (n - (k + 1)) _ _ (enters_of Try.func66 (by kernel_rfl) rfl) (fun y v W hW => mclo_st wr.heap.size x _ y v W hW) (HSUB.out _ _ (by omega) (fun h0 => by first | rfl | omega))).mono ?_
          rintro e w2 ⟨rfl, h⟩
          have H2 := hide h.tail
          clear h
          go_wp2_with fail
          first
            | (go_meet; exact ⟨rfl, rfl, H2.out⟩)
            | (have hck : c = k + 1 := by omega
               rw [← hck]
               go_meet
               exact ⟨rfl, by rw [hck], H2.out⟩)
      case rest =>
        obtain ⟨rfl, rfl, h⟩ := hcut
        clear HSUB H1 HD e0 e1 e2
        cases hany : (l.drop (k + 1)).any (keyP x) with
        | true =>
          have HO2 := hide (HO.out.trans (by rw [if_pos hany]))
          have H2 := hide h.tail.tail
          clear h hany HO
          go_wp2_with fail
          go_roundg (n - (k + 1))
          case measure => have := HG.out; omega
          case rel => exact ⟨k + 1, B, q, d, o, rfl, by omega, rfl, by go_num, by have := HQK.out; omega, HO2.out, H2.out⟩
        | false =>
          have HO2 := hide (show mergeP l = (o ++ [x]) ++ mergeP (l.drop (k + 1)) by rw [HO.out, if_neg (by rw [hany]; exact Bool.false_ne_true), List.append_assoc]; rfl)
          obtain ⟨xs, hq, hxl, hz⟩ := (h.up2).openGrowS
          have HQ := hide hq
          have HXL := hide hxl
          have y0 := (hz.blk 2 rfl).cell 0
          have y1 := (hz.blk 2 rfl).cell 1
          have y2 := (hz.blk 2 rfl).cell 2
          have HH := hide (hz.pick (L' := rowR 62 3 (.slice B q d) q xs :: persR (fun w => ∀ (i : Nat) y, o[i]? = some y → PutR w ((xs.drop (i * 3)).take 3) y) :: persR (fun w' => PutR w' [.int .i64 x.region, .int .i64 x.index, .slice X x.data.length xc] x) :: rowsR 3 PutR (.slice (some ad) n c) l :: L) 5 [0, 1, 3, 4])
          clear h hq hxl hz hany HO
          go_wp2_with (at_builtin; refine St.app_step puts_elem (HH.out.junk _) rfl _ _ rfl rfl (some ⟨wc.heap.size, 0, none⟩) 1 1 rfl [.int .i64 x.region, .int .i64 x.index, .slice X x.data.length xc] (sl_newG (by simp)) (by intro u hu; simp at hu; rcases hu with rfl | rfl | rfl <;> rfl) (by omega) (by omega) ?_; intro A4 c4 w4 h4)
          have H7 := hide (h4.snocGrow HQ.out rfl HXL.out)
          clear h4 HH
          go_roundg (n - (k + 1))
          case measure => have := HG.out; omega
          case rel => exact ⟨k + 1, A4, q + 1, c4, o ++ [x], rfl, by omega, rfl, by go_num, by have := HQK.out; omega, HO2.out, H7.out⟩
    · obtain rfl : k = n := by omega
      have htk : l.drop k = [] := List.drop_of_length_le (by rw [← HN.out]; exact Nat.le_refl _)
      rw [htk, show mergeP [] = [] from rfl, List.append_nil] at ho
      have HO := hide ho
      have H := hide (h.pick (L' := growR 62 3 PutR (.slice B q d) o :: L) 2 [0])
      clear h ho htk
      go_wp2_with fail
      go_ret
      exact ⟨.slice B q d, rfl, by rw [HO.out]; exact H.out⟩
end Go.Proofs.Ytbnjeekhoaapiaa
