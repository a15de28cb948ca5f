/- Redo: some, the writes that may be. -/
import Derived.Test.YtbnjeekhoaapiaaRedoR
import Derived.Deep.LoopGhost
import Derived.Deep.DeepCutAuto
namespace Go.Proofs.Ytbnjeekhoaapiaa
open Go.RowKit

def fitP (p : PU) : Bool := decide (0 ≤ p.index) && decide (p.index ≤ 3) && decide (p.data.length ≤ 23)
def fits (l : List PU) : List PU := (l.filter fitP).map (fun p => ⟨1, p.index, p.data⟩)
def someP (l : List PU) : List PU := (fits l).take 12
theorem fits_append (l r : List PU) : fits (l ++ r) = fits l ++ fits r := by simp [fits]
theorem fits_one (x : PU) : fits [x] = if fitP x = true then [⟨1, x.index, x.data⟩] else [] := by
  unfold fits
  rw [List.filter_cons]
  split <;> rfl
theorem someP_full {l r : List PU} (h : (fits l).length = 12) : someP (l ++ r) = fits l := by
  unfold someP
  rw [fits_append, List.take_append_of_le_length (by omega), List.take_of_length_le (by omega)]
theorem someP_short {l : List PU} (h : (fits l).length ≤ 12) : someP l = fits l := List.take_of_length_le h
theorem someP_fine (l : List PU) : (someP l).length ≤ 12 ∧ ∀ p ∈ someP l, p.region = 1 ∧ 0 ≤ p.index ∧ p.index < 4 ∧ p.data.length ≤ 23 := by
  refine ⟨by unfold someP; rw [List.length_take]; omega, fun p hp => ?_⟩
  obtain ⟨q, hq, rfl⟩ := List.mem_map.1 (List.mem_of_mem_take hp)
  have := (List.mem_filter.1 hq).2
  unfold fitP at this
  simp only [Bool.and_eq_true, decide_eq_true_eq] at this
  exact ⟨rfl, this.1.1, by show q.index < 4; omega, this.2⟩
theorem lputs_elem : ElemOf Try.prog 40 69 (.agg #[.int .i64 0, .int .i64 0, .slice none 0 0]) 3 40 := ⟨Try.underlying40, by kernel_rfl, by kernel_rfl, by omega⟩
theorem lput_build (w : World) (a b : Int) (A : Option Addr) (n k : Nat) : (Instr.buildSlice 40 1 #[(0, .agg #[.int .i64 a, .int .i64 b, .slice A n k])]).run Try.prog w = .ok (.slice (some ⟨w.heap.size, 0, none⟩) 1 1) (w.alloc (.cells #[.int .i64 a, .int .i64 b, .slice A n k] 69)) := by kernel_rfl

set_option maxHeartbeats 2000000 in
set_option maxRecDepth 100000 in
theorem some_st {M0 : Imm} {L : List Res} (l : List PU) (A : Option Addr) (n c : Nat) (w : World) (h : St M0 w (rowsR 3 PutR (.slice A n c) l :: L)) :
    Calls Try.prog 36 #[.slice A n c] w fun e w' => ∃ v, e = .returned v ∧ St M0 w' (growR 69 3 PutR v (someP l) :: rowsR 3 PutR (.slice A n c) l :: L) := by
  obtain ⟨A', c', e, hc, hm⟩ := (h.getRows 0 rfl).slice
  injection e with e1 e2 e3
  subst e1; subst e3
  have HN := hide e2
  have hcm : (n : Int) ≤ 9223372036854775807 := by omega
  have H := hide (h.nilGrow 69 3 PutR)
  clear h e2
  go_enter Try.func36, Try.ntmps36
  go_wp2_with fail
  go_loopg [3, 4] n (fun gh v i wr => ∃ (k : Nat) (B : Option Addr) (q d : Nat), gh = n - k ∧ k ≤ n ∧ v = .slice B q d ∧ i = .int .i64 (k : Nat) ∧ q = (fits (l.take k)).length ∧ q ≤ 12 ∧ St M0 wr (growR 69 3 PutR (.slice B q d) (fits (l.take k)) :: rowsR 3 PutR (.slice A n c) l :: L))
  case atStart => exact ⟨0, none, 0, 0, rfl, by omega, rfl, rfl, rfl, by omega, H.out⟩
  case round =>
    clear H
    obtain ⟨k, B, q, d, hg, hk, rfl, rfl, hq, hq12, h⟩ := hrel
    have HG := hide hg
    have HQ := hide hq
    clear hg hq
    by_cases hlt : k < n
    · by_cases hfull : q = 12
      · have E := hide (show someP l = fits (l.take k) by
          have h1 := someP_full (l := l.take k) (r := l.drop k) (by rw [← HQ.out]; exact hfull)
          rwa [List.take_append_drop] at h1)
        have d1 : decide ((k : Int) < (n : Int)) = true := decide_eq_true (by omega)
        subst hfull
        have H := hide h
        clear h hlt hq12
        go_wp2_with fail
        all_goals
          go_ret
          exact ⟨.slice B 12 d, rfl, by rw [E.out]; exact H.out⟩
      · have hx := List.getElem?_eq_getElem (l := l) (i := k) (by rw [← HN.out]; exact hlt)
        generalize l[k]'(by rw [← HN.out]; exact hlt) = x at hx
        have ht : l.take (k + 1) = l.take k ++ [x] := by rw [List.take_add_one, hx]; rfl
        have hfit : fits (l.take (k + 1)) = fits (l.take k) ++ if fitP x = true then [⟨1, x.index, x.data⟩] else [] := by rw [ht, fits_append, fits_one]
        obtain ⟨ad, cs, rfl, _, hcs, ⟨v, rfl, hv⟩, h1⟩ := h.elem 1 rfl hx
        obtain ⟨X, xc, rfl, _, _, _⟩ := id hv
        obtain ⟨e0, e1, e2⟩ := cells3 hcs
        have HF := hide hfit
        have hfp : fitP x = (decide (0 ≤ x.index) && decide (x.index ≤ 3) && decide (x.data.length ≤ 23)) := rfl
        have d1 : decide ((k : Int) < (n : Int)) = true := decide_eq_true (by omega)
        have d2 : decide ((q : Int) < 12) = true := decide_eq_true (by omega)
        have i0 : (0 : Int) ≤ (k : Int) := by omega
        have i1 : (k : Int) < (n : Int) := by omega
        have hql : q ≤ 11 := by omega
        cases hf : fitP x with
        | false =>
          have HF2 := hide (HF.out.trans (by rw [if_neg (by rw [hf]; exact Bool.false_ne_true), List.append_nil]))
          have HH := hide h
          rw [hfp] at hf
          clear hx h h1 hcs hv ht hfit HF hfp hlt hfull
          by_cases c1 : 0 ≤ x.index
          · by_cases c2 : x.index ≤ 3
            · have c3 : ¬ x.data.length ≤ 23 := by intro h; simp [c1, c2, h] at hf
              have f1 : decide (0 ≤ x.index) = true := decide_eq_true c1
              have f2 : decide (x.index ≤ 3) = true := decide_eq_true c2
              have f3 : decide ((x.data.length : Int) ≤ 23) = false := decide_eq_false (by omega)
              clear hf c1 c2 c3
              go_wp2_with fail
              go_roundg (n - (k + 1))
              case measure => have := HG.out; omega
              case rel => exact ⟨k + 1, B, q, d, rfl, by omega, rfl, by go_num, by rw [HF2.out]; exact HQ.out, by omega, by rw [HF2.out]; exact HH.out⟩
            · have f1 : decide (0 ≤ x.index) = true := decide_eq_true c1
              have f2 : decide (x.index ≤ 3) = false := decide_eq_false c2
              clear hf c1 c2
              go_wp2_with fail
              go_roundg (n - (k + 1))
              case measure => have := HG.out; omega
              case rel => exact ⟨k + 1, B, q, d, rfl, by omega, rfl, by go_num, by rw [HF2.out]; exact HQ.out, by omega, by rw [HF2.out]; exact HH.out⟩
          · have f1 : decide (0 ≤ x.index) = false := decide_eq_false c1
            clear hf c1
            go_wp2_with fail
            go_roundg (n - (k + 1))
            case measure => have := HG.out; omega
            case rel => exact ⟨k + 1, B, q, d, rfl, by omega, rfl, by go_num, by rw [HF2.out]; exact HQ.out, by omega, by rw [HF2.out]; exact HH.out⟩
        | true =>
          have HF2 := hide (HF.out.trans (by rw [if_pos hf]))
          have HH := hide h1
          rw [hfp] at hf
          simp only [Bool.and_eq_true, decide_eq_true_eq] at hf
          have f1 : decide (0 ≤ x.index) = true := decide_eq_true hf.1.1
          have f2 : decide (x.index ≤ 3) = true := decide_eq_true hf.1.2
          have f3 : decide ((x.data.length : Int) ≤ 23) = true := decide_eq_true (by omega)
          clear hx h h1 hcs hv ht hfit HF hfp hf hlt hfull
          generalize fits (l.take k) = o at *
          go_wp2_with fail
          refine region_mix (fun W => W.cell? (ad.add (k * 3)) = some (.int .i64 x.region) ∧ W.cell? ⟨(ad.add (k * 3)).block, (ad.add (k * 3)).off + 1, none⟩ = some (.int .i64 x.index) ∧ W.cell? ⟨(ad.add (k * 3)).block, (ad.add (k * 3)).off + 2, none⟩ = some (.slice X x.data.length xc)) 14 [0, 1, 2, 3, 4, 5, 6, 7, 8, 9, 10, 11] [12, 13, 14] (by kernel_rfl) (by kernel_rfl) (fun d => by cases d <;> exact fun _ _ _ _ h => h) (fun W hW => ?_)
          have hS : St M0 W _ := hW ▸ HH.out.drew
          have hS2 := hide hS
          clear hW HH e0 e1 e2
          have key : ∀ W' L', St M0 W' (persR (fun w' => (∀ (j : Nat) (u : Value), [.int .i64 x.region, .int .i64 x.index, .slice X x.data.length xc][j]? = some u → w'.cell? ((ad.add (k * 3)).add j) = some u) ∧ PutR w' [.int .i64 x.region, .int .i64 x.index, .slice X x.data.length xc] x) :: L') → W'.cell? (ad.add (k * 3)) = some (.int .i64 x.region) ∧ W'.cell? ⟨(ad.add (k * 3)).block, (ad.add (k * 3)).off + 1, none⟩ = some (.int .i64 x.index) ∧ W'.cell? ⟨(ad.add (k * 3)).block, (ad.add (k * 3)).off + 2, none⟩ = some (.slice X x.data.length xc) := fun W' L' h => cells3 (h.get 0 rfl).1
          have KEY := hide key
          clear key
          refine ⟨KEY.out _ _ hS, ?_⟩
          clear hS
          iterate 12 (refine take_run rfl rfl (fun W hW => by (rcases hW with ⟨_, _, _⟩; go_simp; try rfl)) ?_; (simp only [Act.put, List.setIfInBounds_toArray, List.set_cons_succ, List.set_cons_zero]))
          refine take_nil ?_
          obtain ⟨xs, hq2, hxl, hz⟩ := hS2.out.swap.openGrowS
          have HXL := hide hxl
          have HQ2 := hide hq2
          have h4 := (hz.up2.dn2).junk (.cells #[.int .i64 1, .int .i64 x.index, .slice X x.data.length xc] 69)
          refine seq_buildSlice1 rfl rfl 40 1 0 _ (.agg #[.int .i64 1, .int .i64 x.index, .slice X x.data.length xc]) rfl rfl (lput_build _ _ _ _ _ _) (fun _ => KEY.out _ _ h4.up2) ?_
          (simp only [Act.put, List.setIfInBounds_toArray, List.set_cons_succ, List.set_cons_zero])
          refine seq_app lputs_elem h4 rfl rfl _ _ rfl rfl (some ⟨W.heap.size, 0, none⟩) 1 1 rfl [.int .i64 1, .int .i64 x.index, .slice X x.data.length xc] (sl_newN _ _ _) (by intro u hu; simp at hu; rcases hu with rfl | rfl | rfl <;> rfl) (by omega) (by omega) (fun A4 c4 w4 h5 => ⟨fun _ => KEY.out _ _ h5.up2, ?_⟩)
          (simp only [Act.put, List.setIfInBounds_toArray, List.set_cons_succ, List.set_cons_zero])
          have h7 := ((h5.up2.pers1 (R' := fun w' => PutR w' [.int .i64 1, .int .i64 x.index, .slice X x.data.length xc] ⟨1, x.index, x.data⟩) (fun w' hi => by obtain ⟨v', e, hv'⟩ := hi.2; injection e with _ e; injection e with _ e; injection e with e; subst e; exact ⟨_, rfl, hv'⟩)).dn2).snocGrow HQ2.out rfl HXL.out
          have H7 := hide h7
          clear h4 h5 h7 hS2 KEY hz hq2 hxl
          refine seq_read rfl rfl (by (go_simp; try rfl)) (fun h => absurd h (by decide)) ?_
          (simp only [Act.put, List.setIfInBounds_toArray, List.set_cons_succ, List.set_cons_zero])
          refine seq_nil ?_
          go_wp2_with fail
          go_roundg (n - (k + 1))
          case measure => have := HG.out; omega
          case rel => exact ⟨k + 1, A4, q + 1, c4, rfl, by omega, rfl, by go_num, by rw [HF2.out, List.length_append, ← HQ.out]; rfl, by omega, by rw [HF2.out]; exact H7.out⟩
    · obtain rfl : k = n := by omega
      have htk : l.take k = l := List.take_of_length_le (by rw [← HN.out]; exact Nat.le_refl _)
      rw [htk] at h HQ
      have E := hide (show someP l = fits l from someP_short (by rw [← HQ.out]; exact hq12))
      have H := hide h
      clear h htk
      go_wp2_with fail
      go_ret
      exact ⟨.slice B q d, rfl, by rw [E.out]; exact H.out⟩
end Go.Proofs.Ytbnjeekhoaapiaa
