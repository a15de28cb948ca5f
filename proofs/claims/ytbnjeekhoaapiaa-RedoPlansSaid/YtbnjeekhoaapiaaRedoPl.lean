/- Redo: RedoPlans. -/
import Derived.Test.YtbnjeekhoaapiaaRedoAk
import Derived.Test.YtbnjeekhoaapiaaRedoDr
import Derived.Test.YtbnjeekhoaapiaaRedoDg
import Derived.Test.YtbnjeekhoaapiaaRedoSa
namespace Go.Proofs.Ytbnjeekhoaapiaa
open Go.RowKit

theorem St.copyRows {α : Type} {M0 : Imm} {w : World} {L : List Res} {size : Nat} {R : World → List Value → α → Prop} {v : Value} {xs : List α} (h : St M0 w L) (i : Nat) (hi : L[i]? = some (rowsR size R v xs)) : St M0 w (rowsR size R v xs :: L) := by
  obtain ⟨M, Fs, h0, ha, hs⟩ := h
  obtain ⟨css, hx⟩ := hs.at_ i _ hi
  exact ⟨M, _, h0, ha, hs.cons (F := fun _ => False) ⟨css, fun _ x => x, hx.2⟩ (fun _ _ _ _ x => x) (fun _ x => x.elim)⟩
theorem mergeP_length (l : List PU) : (mergeP l).length ≤ l.length := by
  induction l with
  | nil => exact Nat.le_refl _
  | cons x r ih =>
    show (if r.any (keyP x) = true then mergeP r else x :: mergeP r).length ≤ r.length + 1
    split
    · omega
    · rw [List.length_cons]; omega

set_option maxHeartbeats 4000000 in
set_option maxRecDepth 100000 in
theorem plans_st {M0 : Imm} (region token seq : Int) (l : List PU) (rs : List (List Int)) (v u : Value) (w : World) (hs : 0 ≤ seq ∧ seq ≤ 4294967295) (hb : ∀ b ∈ rs, Bytes b ∧ b.length ≤ 140737488355328)
    (h : St M0 w [rowsR 3 PutR v l, rowsR 1 BytR u rs]) :
    Calls Try.prog 5 #[.int .i64 region, .int .u64 token, .int .u32 seq, v, u] w fun e w' => e = .returned (.bool true) ∧ ∃ L', St M0 w' L' := by
  obtain ⟨A, c, rfl, hc, hm⟩ := (h.getRows 0 rfl).slice
  obtain ⟨B, d, rfl, hd, hmd⟩ := (h.getRows 1 rfl).slice
  generalize hn : l.length = n at *
  generalize hk : rs.length = m at *
  have HN := hide hn
  have HK := hide hk
  have HS := hide hs
  have HB := hide hb
  have H := hide h
  clear h hn hk hs hb
  go_enter Try.func5, Try.ntmps5
  go_wp2_with fail
  refine (rawake_st _ H.out).mono ?_
  rintro e w1 ⟨rfl, h⟩
  clear H
  by_cases hbig : 30 < n
  · have d1 : decide ((30 : Int) < (n : Int)) = true := decide_eq_true (by omega)
    have H := hide h
    clear h hbig
    go_wp2_with fail
    go_ret
    exact ⟨rfl, _, H.out⟩
  have d1 : decide ((30 : Int) < (n : Int)) = false := decide_eq_false (by omega)
  by_cases hbig2 : 10 < m
  · have d2 : decide ((10 : Int) < (m : Int)) = true := decide_eq_true (by omega)
    have H := hide h
    clear h hbig hbig2
    go_wp2_with fail
    go_ret
    exact ⟨rfl, _, H.out⟩
  have d2 : decide ((10 : Int) < (m : Int)) = false := decide_eq_false (by omega)
  have H1 := hide h
  have hl : l.length ≤ 1000 := by rw [HN.out]; omega
  have hr : rs.length ≤ 1000 := by rw [HK.out]; omega
  have HL := hide hl
  have HR := hide hr
  clear h hbig hbig2 hl hr
  go_wp2_with fail
  refine (puts_st l A n c _ (by have := HL.out; omega) H1.out).mono ?_
  rintro e w2 ⟨v2, rfl, h⟩
  have h1 := h.rowsGrow
  obtain ⟨A2, c2, rfl, _, _⟩ := (h1.getRows 0 rfl).slice
  have H2 := hide h1
  clear h h1 H1 d1 d2
  go_wp2_with fail
  refine (plan_st region token seq l A2 l.length c2 _ HS.out HL.out H2.out).mono ?_
  rintro e w3 ⟨v3, rfl, h⟩
  have h1 := h.rowsGrow
  obtain ⟨A3, c3, rfl, _, _⟩ := (h1.getRows 0 rfl).slice
  have H3 := hide h1.swap
  clear h h1 H2
  go_wp2_with fail
  refine (doc_st l A n c _ (by have := HL.out; omega) H3.out).mono ?_
  rintro e w4 ⟨v4, rfl, h⟩
  have h1 := h.rowsGrow
  obtain ⟨A4, c4, rfl, _, _⟩ := (h1.getRows 0 rfl).slice
  have H4 := hide h1
  clear h h1 H3
  go_wp2_with fail
  refine (rplan_st region token seq l A4 l.length c4 _ HS.out HL.out H4.out).mono ?_
  rintro e w5 ⟨v5, rfl, h⟩
  have h1 := h.rowsGrow
  obtain ⟨A5, c5, rfl, _, _⟩ := (h1.getRows 0 rfl).slice
  have H5 := hide (h1.copyRows 3 rfl)
  clear h h1 H4
  go_wp2_with fail
  refine (rep_st region token seq rs B m d _ HS.out HR.out HB.out H5.out).mono ?_
  rintro e w6 ⟨v6, rfl, h⟩
  have h1 := h.rowsGrow
  obtain ⟨A6, c6, rfl, _, _⟩ := (h1.getRows 0 rfl).slice
  have H6 := hide (h1.copyRows 4 rfl)
  clear h h1 H5
  go_wp2_with fail
  refine (rrep_st region token seq rs B m d _ HS.out HR.out (fun b hb => (HB.out b hb).1) H6.out).mono ?_
  rintro e w7 ⟨v7, rfl, h⟩
  have h1 := h.rowsGrow
  obtain ⟨A7, c7, rfl, _, _⟩ := (h1.getRows 0 rfl).slice
  have H7 := hide (h1.copyRows 3 rfl)
  clear h h1 H6
  go_wp2_with fail
  refine (puts_st l A n c _ (by have := HL.out; omega) H7.out).mono ?_
  rintro e w8 ⟨v8, rfl, h⟩
  have h1 := h.rowsGrow
  obtain ⟨A8, c8, rfl, _, _⟩ := (h1.getRows 0 rfl).slice
  have H8 := hide h1
  clear h h1 H7
  go_wp2_with fail
  refine (merge_st l A8 l.length c8 _ HL.out H8.out).mono ?_
  rintro e w9 ⟨v9, rfl, h⟩
  have h1 := h.rowsGrow
  obtain ⟨A9, c9, rfl, _, _⟩ := (h1.getRows 0 rfl).slice
  have H9 := hide h1.swap
  clear h h1 H8
  go_wp2_with fail
  refine (doc_st l A n c _ (by have := HL.out; omega) H9.out).mono ?_
  rintro e w10 ⟨v10, rfl, h⟩
  have h1 := h.rowsGrow
  obtain ⟨A10, c10, rfl, _, _⟩ := (h1.getRows 0 rfl).slice
  have H10 := hide h1
  clear h h1 H9
  go_wp2_with fail
  refine (rmerge_st l A10 l.length c10 _ HL.out H10.out).mono ?_
  rintro e w11 ⟨v11, rfl, h⟩
  have h1 := h.rowsGrow
  obtain ⟨A11, c11, rfl, _, _⟩ := (h1.getRows 0 rfl).slice
  have HML := hide (mergeP_length l)
  generalize hpe : planE region l = pe at *
  generalize hre : repE rs = re at *
  generalize hpq : planQ region token seq l = pq at *
  generalize hrq : repQ region token seq rs = rq at *
  generalize hmp : mergeP l = mp at *
  have b1 : (pe != pe) = false := isNF rfl
  have b2 : (re != re) = false := isNF rfl
  have hml : mp.length ≤ 1000 := by have := HML.out; have := HL.out; omega
  have H11 := hide h1
  clear h h1 H10 hpe hre hpq hrq hmp
  have b3 : ((mp.length : Int) != (mp.length : Int)) = false := isNF rfl
  generalize hz : mp.length = z at *
  have HZ := hide hz
  clear hz
  go_wp2_with fail
  refine (rsame_st _ _ pq 7 5 _ rfl rfl H11.out).mono ?_
  rintro e w12 ⟨rfl, h⟩
  have H12 := hide h
  clear h H11
  go_wp2_with fail
  refine (rsame_st _ _ rq 4 3 _ rfl rfl H12.out).mono ?_
  rintro e w13 ⟨rfl, h⟩
  have H13 := hide (h.pick (L' := rowsR 3 PutR (.slice A9 z c9) mp :: rowsR 3 PutR (.slice A11 z c11) mp :: []) 9 [2, 0])
  clear h H12
  go_wp2_with fail
  go_loopg [22] z (fun gh i wr => ∃ k : Nat, gh = z - k ∧ k ≤ z ∧ i = .int .i64 (k : Nat) ∧ St M0 wr (rowsR 3 PutR (.slice A9 z c9) mp :: rowsR 3 PutR (.slice A11 z c11) mp :: []))
  case atStart => exact ⟨0, rfl, by omega, rfl, H13.out⟩
  case round =>
    clear H13
    obtain ⟨k, hg, hk, rfl, h⟩ := hrel
    have HG := hide hg
    clear hg
    by_cases hlt : k < z
    · have hx := List.getElem?_eq_getElem (l := mp) (i := k) (by rw [HZ.out]; exact hlt)
      generalize mp[k]'(by rw [HZ.out]; exact hlt) = x at hx
      obtain ⟨ad, cs, rfl, _, hcs, ⟨va, rfl, ha⟩, -⟩ := h.elem 0 rfl hx
      obtain ⟨bd, cs2, rfl, _, hcs2, ⟨vb, rfl, hb⟩, -⟩ := h.elem 1 rfl hx
      obtain ⟨X, xc, rfl, _, _, _⟩ := id ha
      obtain ⟨Y, yc, rfl, _, _, _⟩ := id hb
      obtain ⟨e0, e1, e2⟩ := cells3 hcs
      obtain ⟨f0, f1, f2⟩ := cells3 hcs2
      have HA2 := hide (fun m => ha.non ((Fr.refl _ _).drewN m))
      have HB2 := hide (fun m => hb.non ((Fr.refl _ _).drewN m))
      have HH := hide h
      clear hx h hcs hcs2 ha hb
      have i0 : (0 : Int) ≤ (k : Int) := by omega
      have i1 : (k : Int) < (z : Int) := by omega
      have g0 : (x.region != x.region) = false := isNF rfl
      have g1 : (x.index != x.index) = false := isNF rfl
      go_wp2_with fail
      go_quiet ((go_at_call 31; exact Calls.quiet_of (same_eq _ _ x.data _ (HA2.out _) (HB2.out _))))
      go_wp2_with fail
      go_roundg (z - (k + 1))
      case measure => have := HG.out; omega
      case rel => exact ⟨k + 1, rfl, by omega, by go_num, HH.out.drewN _⟩
    · have H := hide h
      clear h
      go_wp2_with fail
      go_ret
      exact ⟨rfl, _, H.out⟩
end Go.Proofs.Ytbnjeekhoaapiaa
