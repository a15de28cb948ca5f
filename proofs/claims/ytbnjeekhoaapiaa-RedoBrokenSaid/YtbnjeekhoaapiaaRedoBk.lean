/- Redo: RedoBroken. -/
import Derived.Test.YtbnjeekhoaapiaaRedoWh
namespace Go.Proofs.Ytbnjeekhoaapiaa
open Go.RowKit

theorem trims_take (R : List RQ) {k : Nat} {r : RQ} (h : R[k]? = some r) : trims (R.take (k + 1)) = trims (R.take k) + (if r.op = 5 then r.index else 0) := by
  rw [List.take_add_one, h, trims_append]
  show _ + ((if r.op = 5 then r.index else 0) + 0) = _
  rw [Int.add_zero]
theorem some_bytes (l : List PU) (h : ∀ x ∈ l, Bytes x.data) : ∀ x ∈ someP l, Bytes x.data := by
  intro x hx
  obtain ⟨q, hq, rfl⟩ := List.mem_map.1 (List.mem_of_mem_take hx)
  exact h q (List.mem_filter.1 hq).1
/-- an image's log of region 1, as rows -/
theorem St.logRows {M0 : Imm} {w : World} {L : List Res} {vs : Nat → RV} {m : Nat → Rg} {A : Option Addr} {n c : Nat} {xs : List (List Int)} (h : St M0 w L) (i : Nat) (hi : L[i]? = some (regsR vs m)) (hlog : (vs 1).log = .slice A n c) (hx : (m 1).log = xs) : St M0 w (rowsR 1 BytR (.slice A n c) xs :: L) :=
  St.addEx (f := fun css => persR (fun w => RowsC w 1 BytR (.slice A n c) css xs)) (vs 1).cs ((h.copy i hi).pers1 (fun w' hr => by have := (hr 1 (by omega)).log; rw [hlog, hx] at this; exact this))

theorem broken_end {old b2 b3 : Nat → List Int} {s lk : List PU} {sure kk ii an : Nat} (hlk : lk = (s.drop sure).take kk) (h2 : b2 = app (app old (s.take sure)) (lk.take ii)) (h3 : b3 = app b2 (lk.take an)) :
    app b3 (if an ≤ lk.length then lk else []) = app old (s.take (sure + kk)) := by
  rw [List.take_add, app_append, ← hlk, h3, h2]
  split
  · rw [app_again, app_again]
  · rw [List.take_of_length_le (l := lk) (i := an) (by omega), app_again]
    rfl
theorem wAll_tail (t : Int) (l : List PU) : (if (wAll 1 t 1 l).length ≤ l.length then l.map recB else []) = [] := by
  unfold wAll
  rw [List.length_append, wl_length]
  by_cases h : 0 < l.length
  · rw [if_pos h, if_neg (by rw [List.length_singleton]; omega)]
  · obtain rfl : l = [] := List.eq_nil_of_length_eq_zero (by omega)
    split <;> rfl

set_option maxRecDepth 100000 in
set_option maxHeartbeats 8000000 in
theorem broken_st {M0 : Imm} (was l : List PU) (v0 v1 : Value) (done again : Int) (w : World) (hd9 : done ≤ 9223372036854775807) (ha9 : again ≤ 9223372036854775807) (hby : ∀ x ∈ l, Bytes x.data)
    (h : St M0 w [rowsR 3 PutR v0 was, rowsR 3 PutR v1 l]) :
    Calls Try.prog 7 #[v0, v1, .int .i64 done, .int .i64 again] w fun e w' => e = .returned (.bool true) ∧ ∃ L', St M0 w' L' := by
  obtain ⟨A0, c0, rfl, _, _⟩ := (h.getRows 0 rfl).slice
  obtain ⟨A1, c1, rfl, _, _⟩ := (h.getRows 1 rfl).slice
  have H := hide h
  clear h
  obtain ⟨hb12, hbf⟩ := someP_fine was
  obtain ⟨hw12, hwf⟩ := someP_fine l
  have HBF := hide (show fine (someP was) from hbf)
  have HWF := hide (show fine (someP l) from hwf)
  have HBY := hide (some_bytes l hby)
  clear hbf hwf hby
  go_enter Try.func7, Try.ntmps7
  go_wp2_with fail
  refine (rawake_st _ H.out).mono ?_
  rintro e w1 ⟨rfl, h⟩
  have H1 := hide (h.newRim2.swap)
  clear H h
  go_wp2_with fail
  generalize w1.heap.size = g at *
  refine (some_st was A0 was.length c0 _ H1.out).mono ?_
  rintro e w2 ⟨v2, rfl, h⟩
  generalize someP was = b at *
  have h1 := h.rowsGrow
  obtain ⟨A2, c2, rfl, _, _⟩ := (h1.getRows 0 rfl).slice
  have H2 := hide (h1.pick (L' := rowsR 3 PutR (.slice A2 b.length c2) b :: rimR g aw0 :: rowsR 3 PutR (.slice A1 l.length c1) l :: []) 4 [0, 2, 3])
  clear H1 h h1
  go_wp2_with fail
  refine (puts_st b A2 b.length c2 _ (by omega) H2.out).mono ?_
  rintro e w3 ⟨v3, rfl, h⟩
  have h1 := h.rowsGrow
  obtain ⟨A3, c3, rfl, _, _⟩ := (h1.getRows 0 rfl).slice
  have H3 := hide h1
  clear H2 h h1
  go_wp2_with fail
  refine (plan_st 1 5 1 b A3 b.length c3 _ (by decide) (by omega) H3.out).mono ?_
  rintro e w4 ⟨v4, rfl, h⟩
  rw [fine_planE b HBF.out]
  have h1 := h.rowsGrow
  obtain ⟨A4, c4, rfl, _, _⟩ := (h1.getRows 0 rfl).slice
  have H4 := hide (h1.pick (L' := rimR g aw0 :: rowsR 6 ReqP (.slice A4 (planQ 1 5 1 b).length c4) (planQ 1 5 1 b) :: rowsR 3 PutR (.slice A1 l.length c1) l :: []) 4 [2, 0, 3])
  clear H3 h h1
  go_wp2_with fail
  have hP := plan_image (m := aw0) (t := 5) (l := b) (by decide) HBF.out (by omega) rfl (by decide) (planQ 1 5 1 b).length
  have hW1 := plan_whole (m := aw0) (t := 5) (l := b) (by decide) HBF.out (by omega) rfl (by decide)
  have hb1 : (planQ 1 5 1 b).length ≤ 200 := by have := planQ_length 5 b; omega
  have HP := hide hP.1
  have hh1 := hP.2.1
  rw [List.take_length] at hh1
  have HO1 := hide (planQ_ok 5 (by decide) b)
  have HK1 := hide (runs_ok (planQ 1 5 1 b) aw0 HO1.out aw_ok0)
  clear hP
  generalize planQ 1 5 1 b = p at *
  refine (does_st g aw0 p A4 p.length c4 p.length _ HO1.out aw_ok0 (by omega) HP.out H4.out).mono ?_
  rintro e w5 ⟨rfl, h⟩
  rw [List.take_length] at h
  generalize p.foldl doM aw0 = m1 at *
  have HW1 := hide hW1
  have HH1 := hide hh1
  have H5 := hide (h.pick (L' := rimR g m1 :: rowsR 3 PutR (.slice A1 l.length c1) l :: []) 3 [0, 2])
  clear H4 h hW1 hh1 HP HO1
  by_cases hdn : done < 0
  · have d1 : decide (done < 0) = true := decide_eq_true hdn
    clear hdn
    go_wp2_with fail
    go_ret
    exact ⟨rfl, _, H5.out⟩
  have d1 : decide (done < 0) = false := decide_eq_false hdn
  by_cases han : again < 0
  · have d2 : decide (again < 0) = true := decide_eq_true han
    clear han hdn
    go_wp2_with fail
    go_ret
    exact ⟨rfl, _, H5.out⟩
  have d2 : decide (again < 0) = false := decide_eq_false han
  obtain ⟨dn, rfl⟩ := Int.eq_ofNat_of_zero_le (Int.not_lt.1 hdn)
  obtain ⟨an, rfl⟩ := Int.eq_ofNat_of_zero_le (Int.not_lt.1 han)
  clear hdn han
  obtain ⟨vs, h1⟩ := H5.out.rim
  obtain ⟨x12, x13, x14, x15, _, _, _, _⟩ := rim_one (h1.blk 0 rfl) (h1.get 1 rfl)
  have h2 := h1.alloc 81 (fourC (fun j => svOf ((vs 1).b j)))
  have h3 := (h2.copy 2 rfl).pers1 (R' := fun w => ∀ j, j < 4 → Ints w .u8 (.slice (svOf ((vs 1).b j)).a (svOf ((vs 1).b j)).n (svOf ((vs 1).b j)).c) ((m1 1).b j)) (fun _ hr => regs_four hr)
  have h4 := (h3.pick (L' := rimB g vs m1 :: regsR vs m1 :: fourR (fun j => svOf ((vs 1).b j)) ((m1 1).b) :: blkR w5.heap.size 81 (fourC (fun j => svOf ((vs 1).b j))) :: rowsR 3 PutR (.slice A1 l.length c1) l :: []) 5 [2, 3, 0, 1, 4]).addRim
  have H6 := hide (h4.pick (L' := rowsR 3 PutR (.slice A1 l.length c1) l :: rimR g m1 :: fourR (fun j => svOf ((vs 1).b j)) ((m1 1).b) :: blkR w5.heap.size 81 (fourC (fun j => svOf ((vs 1).b j))) :: []) 4 [3, 0, 1, 2])
  clear H5 h1 h2 h3 h4
  go_wp2_with fail
  clear x12 x13 x14 x15
  refine (some_st l A1 l.length c1 _ H6.out).mono ?_
  rintro e w6 ⟨v6, rfl, h⟩
  generalize w5.heap.size = ob at *
  generalize (fun j => svOf ((vs 1).b j)) = so at *
  generalize someP l = s at *
  have h1 := h.rowsGrow
  obtain ⟨A6, c6, rfl, _, _⟩ := (h1.getRows 0 rfl).slice
  have H7 := hide (h1.pick (L' := rowsR 3 PutR (.slice A6 s.length c6) s :: rimR g m1 :: fourR so ((m1 1).b) :: blkR ob 81 (fourC so) :: []) 5 [0, 2, 3, 4])
  clear H6 h h1 d1 d2
  go_wp2_with fail
  refine (puts_st s A6 s.length c6 _ (by omega) H7.out).mono ?_
  rintro e w7 ⟨v7, rfl, h⟩
  have h1 := h.rowsGrow
  obtain ⟨A7, c7, rfl, _, _⟩ := (h1.getRows 0 rfl).slice
  have H8 := hide h1
  clear H7 h h1
  go_wp2_with fail
  refine (plan_st 1 6 1 s A7 s.length c7 _ (by decide) (by omega) H8.out).mono ?_
  rintro e w8 ⟨v8, rfl, h⟩
  rw [fine_planE s HWF.out]
  have h1 := h.rowsGrow
  obtain ⟨A8, c8, rfl, _, _⟩ := (h1.getRows 0 rfl).slice
  have H9 := hide (h1.pick (L' := rimR g m1 :: rowsR 6 ReqP (.slice A8 (planQ 1 6 1 s).length c8) (planQ 1 6 1 s) :: rowsR 3 PutR (.slice A6 s.length c6) s :: fourR so ((m1 1).b) :: blkR ob 81 (fourC so) :: []) 5 [2, 0, 1, 3, 4])
  clear H8 h h1
  go_wp2_with fail
  have hP := plan_image (m := m1) (t := 6) (l := s) (by decide) HWF.out (by omega) HW1.out.1 (by have := HH1.out; omega) dn
  have hTR : ∀ k, 0 ≤ trims ((planQ 1 6 1 s).take k) ∧ trims ((planQ 1 6 1 s).take k) ≤ 12 := fun k => by
    obtain ⟨_, _, a, b', c', hh⟩ := plan_image (m := m1) (t := 6) (l := s) (by decide) HWF.out (by omega) HW1.out.1 (by have := HH1.out; omega) k
    rw [hh.tr]
    have := hh.le
    omega
  have hq1 : (planQ 1 6 1 s).length ≤ 200 := by have := planQ_length 6 s; omega
  obtain ⟨hP1, hP2, sure, kk, ii, hhalf⟩ := hP
  have HP := hide hP1
  have HTR := hide hTR
  have HO1 := hide (planQ_ok 6 (by decide) s)
  clear hP1 hTR
  generalize planQ 1 6 1 s = q at *
  refine (does_st g m1 q A8 q.length c8 dn _ HO1.out HK1.out (by omega) HP.out H9.out).mono ?_
  rintro e w9 ⟨rfl, h⟩
  have HK2 := hide (runs_ok (q.take dn) m1 (fun y hy => HO1.out y (List.mem_of_mem_take hy)) HK1.out)
  generalize (q.take dn).foldl doM m1 = m2 at *
  have HH2 := hide hP2
  have HHALF := hide hhalf
  have H10 := hide h
  clear H9 h hP2 hhalf HP
  go_wp2_with fail
  generalize hqn : q.length = qn at *
  have HQN := hide hqn
  clear hqn
  go_loopg [20, 21] (qn + dn) (fun gh su i wr => ∃ k : Nat, gh = qn + dn - k ∧ k ≤ qn ∧ k ≤ dn ∧ su = .int .i64 (trims (q.take k)) ∧ i = .int .i64 (k : Nat) ∧ St M0 wr (rimR g m2 :: rowsR 6 ReqP (.slice A8 qn c8) q :: rowsR 3 PutR (.slice A6 s.length c6) s :: fourR so ((m1 1).b) :: blkR ob 81 (fourC so) :: []))
  case atStart => exact ⟨0, rfl, by omega, by omega, rfl, rfl, H10.out⟩
  case round =>
    clear H10
    obtain ⟨k, hg, hk, hkd, rfl, rfl, h⟩ := hrel
    have HG := hide hg
    clear hg
    have fin : (k = dn ∨ k = qn) → q.take k = q.take dn := fun hor => by
      rcases hor with rfl | rfl
      · rfl
      · by_cases hle : k ≤ dn
        · rw [List.take_of_length_le (by rw [HQN.out]; exact Nat.le_refl _), List.take_of_length_le (by rw [HQN.out]; exact hle)]
        · omega
    have HFIN := hide fin
    clear fin
    by_cases hin : k < dn ∧ k < qn
    · obtain ⟨hd1, hlt⟩ := hin
      have d1 : decide ((k : Int) < (dn : Int)) = true := decide_eq_true (by omega)
      have d2 : decide ((k : Int) < (qn : Int)) = true := decide_eq_true (by omega)
      have hx := List.getElem?_eq_getElem (l := q) (i := k) (by rw [HQN.out]; exact hlt)
      generalize q[k]'(by rw [HQN.out]; exact hlt) = x at hx
      have htt := trims_take q hx
      obtain ⟨b1, b2⟩ := HTR.out k
      obtain ⟨b3, b4⟩ := HTR.out (k + 1)
      obtain ⟨ad, cs, rfl, _, hcs, ⟨va, rfl, hva⟩, -⟩ := h.elem 1 rfl hx
      obtain ⟨e0, e1, e2, e3, e4, e5⟩ := cells6 hcs
      have HTT := hide htt
      have HH := hide h
      have i0 : (0 : Int) ≤ (k : Int) := by omega
      have i1 : (k : Int) < (qn : Int) := by omega
      by_cases h5 : x.op = 5
      · have c5 : (x.op == 5) = true := isT h5
        have HT2 := hide (htt.trans (by rw [if_pos h5]))
        rw [if_pos h5] at htt
        rw [htt] at b3 b4
        generalize trims (q.take k) = tk at *
        clear hx h hcs hva htt HTT e1 e3 e4 e5 h5
        go_wp2_with fail
        go_roundg (qn + dn - (k + 1))
        case measure => have := HG.out; omega
        case rel => exact ⟨k + 1, rfl, by omega, by omega, by rw [HT2.out], by go_num, HH.out⟩
      · have c5 : (x.op == 5) = false := isF h5
        have HT2 := hide (htt.trans (by rw [if_neg h5, Int.add_zero]))
        generalize trims (q.take k) = tk at *
        clear hx h hcs hva htt HTT e1 e3 e4 e5 h5
        go_wp2_with fail
        go_roundg (qn + dn - (k + 1))
        case measure => have := HG.out; omega
        case rel => exact ⟨k + 1, rfl, by omega, by omega, by rw [HT2.out], by go_num, HH.out⟩
    · have htk := HFIN.out (by omega)
      have htr : trims (q.take k) = (sure : Int) := by rw [htk]; exact HHALF.out.tr
      rw [htr]
      clear htk htr HFIN HTR
      obtain ⟨vs2, h1⟩ := h.rim
      have hlg := HHALF.out.log
      obtain ⟨x12, x13, x14, x15, LA, lc, hlog, x25⟩ := rim_one (h1.blk 0 rfl) (h1.get 1 rfl)
      have hle := HHALF.out.le
      have h4 := HHALF.out.k4
      have hkl : ((s.drop sure).take kk).length = kk := by rw [List.length_take, List.length_drop]; omega
      rw [hlg, List.length_map, hkl] at hlog x25
      have HFK := hide (show fine ((s.drop sure).take kk) from fine_sub HWF.out (fun p hp => List.mem_of_mem_drop (List.mem_of_mem_take hp)))
      have HBK := hide (show ∀ r ∈ ((s.drop sure).take kk).map recB, Bytes r ∧ r.length ≤ 140737488355328 from fun r hr => by
        obtain ⟨x, hx, rfl⟩ := List.mem_map.1 hr
        have h9 := recB_bytes2 x (HBY.out x (List.mem_of_mem_drop (List.mem_of_mem_take hx)))
        exact ⟨h9.1, by omega⟩)
      have h2 := h1.logRows 1 rfl hlog hlg
      have H11 := hide h2
      clear h h1 h2 hlog hlg x12 x13 x14 x15
      have hor : (k < dn ∧ ¬ k < qn) ∨ ¬ k < dn := by omega
      clear hin
      rcases hor with ⟨y1, y2⟩ | y1
      all_goals
        go_wp2_with fail
        refine (rep_st 1 7 1 (((s.drop sure).take kk).map recB) LA kk lc _ (by decide) (by rw [List.length_map, hkl]; omega) HBK.out H11.out).mono ?_
        rintro e w10 ⟨v10, rfl, h⟩
        rw [(log_back _ HFK.out).1]
        rw [rep_log 7 _ HFK.out] at h
        have h1 := h.rowsGrow
        obtain ⟨A10, c10, rfl, _, _⟩ := (h1.getRows 0 rfl).slice
        have h2 := (h1.pick (L' := rimB g vs2 m2 :: regsR vs2 m2 :: rowsR 6 ReqP (.slice A10 (wAll 1 7 1 ((s.drop sure).take kk)).length c10) (wAll 1 7 1 ((s.drop sure).take kk)) :: rowsR 3 PutR (.slice A6 s.length c6) s :: fourR so ((m1 1).b) :: blkR ob 81 (fourC so) :: []) 7 [1, 2, 0, 4, 5, 6]).addRim
        have hR := replay_image (m := m2) (t := 7) (l := (s.drop sure).take kk) (by decide) HFK.out (by omega) HHALF.out.log (by have := HH2.out; omega) an
        have HO7 := hide (wAll_ok 7 1 (by decide) ((s.drop sure).take kk))
        have HRO := hide hR.1
        have HR2 := hide hR.2
        have H12 := hide h2
        clear h h1 h2 hR H11 x25
        go_wp2_with fail
        refine (does_st g m2 (wAll 1 7 1 ((s.drop sure).take kk)) A10 _ c10 an _ HO7.out HK2.out (by omega) HRO.out H12.out).mono ?_
        rintro e w11 ⟨rfl, h⟩
        have HK3 := hide (runs_ok ((wAll 1 7 1 ((s.drop sure).take kk)).take an) m2 (fun y hy => HO7.out y (List.mem_of_mem_take hy)) HK2.out)
        generalize ((wAll 1 7 1 ((s.drop sure).take kk)).take an).foldl doM m2 = m3 at *
        have h1 := h.pick (L' := rimR g m3 :: rowsR 3 PutR (.slice A6 s.length c6) s :: fourR so ((m1 1).b) :: blkR ob 81 (fourC so) :: []) 5 [0, 2, 3, 4]
        clear h H12 HRO HO7
        have HEND := hide (broken_end (lk := (s.drop sure).take kk) rfl HHALF.out.b HR2.out.2.1)
        have hl2 : (m3 1).log = (if an ≤ ((s.drop sure).take kk).length then (s.drop sure).take kk else []).map recB := by rw [HR2.out.2.2]; split <;> rfl
        have hf2 : fine (if an ≤ ((s.drop sure).take kk).length then (s.drop sure).take kk else []) := by split; exact HFK.out; exact fun p hp => absurd hp List.not_mem_nil
        have hk2 : (if an ≤ ((s.drop sure).take kk).length then (s.drop sure).take kk else []).length ≤ 4 := by split; omega; simp
        have hb2 : ∀ r ∈ (if an ≤ ((s.drop sure).take kk).length then (s.drop sure).take kk else []).map recB, Bytes r ∧ r.length ≤ 140737488355328 := by split; exact HBK.out; exact fun r hr => absurd hr List.not_mem_nil
        have hh3 := HR2.out.1
        generalize (if an ≤ ((s.drop sure).take kk).length then (s.drop sure).take kk else []) = lk at *
        obtain ⟨vs3, h2⟩ := h1.rim
        obtain ⟨x12, x13, x14, x15, LB, ld, hlog, x25⟩ := rim_one (h2.blk 0 rfl) (h2.get 1 rfl)
        rw [hl2, List.length_map] at hlog x25
        have h3 := h2.logRows 1 rfl hlog hl2
        have HF3 := hide hf2
        have HL3 := hide hl2
        have HB3 := hide hb2
        have H13 := hide h3
        clear h1 h2 h3 hlog x12 x13 x14 x15 hl2 hf2 hb2 HR2 HBK HFK HHALF
        generalize hlkn : lk.length = ln at *
        have HLKN := hide hlkn
        clear hlkn
        go_wp2_with fail
        refine (rep_st 1 8 1 (lk.map recB) LB ln ld _ (by decide) (by rw [List.length_map, HLKN.out]; omega) HB3.out H13.out).mono ?_
        rintro e w12 ⟨v12, rfl, h⟩
        rw [(log_back _ HF3.out).1]
        rw [rep_log 8 _ HF3.out] at h
        have h1 := h.rowsGrow
        obtain ⟨A12, c12, rfl, _, _⟩ := (h1.getRows 0 rfl).slice
        have h2 := (h1.pick (L' := rimB g vs3 m3 :: regsR vs3 m3 :: rowsR 6 ReqP (.slice A12 (wAll 1 8 1 lk).length c12) (wAll 1 8 1 lk) :: rowsR 3 PutR (.slice A6 s.length c6) s :: fourR so ((m1 1).b) :: blkR ob 81 (fourC so) :: []) 6 [1, 2, 0, 3, 4, 5]).addRim
        have hR := replay_image (m := m3) (t := 8) (l := lk) (by decide) HF3.out (by rw [HLKN.out]; omega) HL3.out (by omega) (wAll 1 8 1 lk).length
        have HO8 := hide (wAll_ok 8 1 (by decide) lk)
        have HRO := hide hR.1
        have hR2 := hR.2.2
        rw [List.take_length] at hR2
        have hwl : lk.take (wAll 1 8 1 lk).length = lk := List.take_of_length_le (by unfold wAll; rw [List.length_append, wl_length]; omega)
        rw [hwl, HEND.out, wAll_tail 8 lk] at hR2
        have hw8 : (wAll 1 8 1 lk).length ≤ 10 := by have := wAll_length 1 8 1 lk; rw [HLKN.out] at this; omega
        have HR3 := hide hR2
        have H14 := hide h2
        clear h h1 h2 hR hR2 hwl H13 x25 HEND
        go_wp2_with fail
        refine (does_st g m3 (wAll 1 8 1 lk) A12 _ c12 (wAll 1 8 1 lk).length _ HO8.out HK3.out (by omega) HRO.out H14.out).mono ?_
        rintro e w13 ⟨rfl, h⟩
        rw [List.take_length] at h
        generalize (wAll 1 8 1 lk).foldl doM m3 = m4 at *
        obtain ⟨vs4, h2⟩ := (h.pick (L' := rimR g m4 :: rowsR 3 PutR (.slice A6 s.length c6) s :: fourR so ((m1 1).b) :: blkR ob 81 (fourC so) :: []) 5 [0, 2, 3, 4]).rim
        obtain ⟨_, _, _, _, LC, lf, hlog, x25⟩ := rim_one (h2.blk 0 rfl) (h2.get 1 rfl)
        rw [HR3.out.2] at hlog x25
        have HLG : Hid ((vs4 1).log = .slice LC 0 lf) := hide hlog
        have x25' : w13.cell? ⟨g, 25, none⟩ = some (.slice LC 0 lf) := x25
        have H15 := hide h2
        clear h h2 H14 HRO HO8 x25 hlog
        go_wp2_with fail
        clear x25'
        go_loopg [28] (sure + kk + 1 - sure) (fun gh i wr => ∃ nn : Nat, gh = sure + kk + 1 - nn ∧ sure ≤ nn ∧ nn ≤ sure + kk ∧ i = .int .i64 (nn : Nat) ∧ St M0 wr (rimB g vs4 m4 :: regsR vs4 m4 :: rowsR 3 PutR (.slice A6 s.length c6) s :: fourR so ((m1 1).b) :: blkR ob 81 (fourC so) :: []))
        case atStart => exact ⟨sure, rfl, by omega, by omega, rfl, H15.out⟩
        case round =>
          clear H15
          obtain ⟨nn, hgn, hn1, hn2, rfl, h⟩ := hrel
          have HGN := hide hgn
          have HH := hide h
          have d5 : decide ((nn : Int) ≤ (s.length : Int)) = true := decide_eq_true (by omega)
          have d6 : nn ≤ s.length := by omega
          clear hgn h
          go_wp2_with fail
          refine region_mix (fun W => St M0 W (rimB g vs4 m4 :: regsR vs4 m4 :: rowsR 3 PutR (.slice A6 s.length c6) s :: fourR so ((m1 1).b) :: blkR ob 81 (fourC so) :: [])) 11 [0, 1, 2, 3, 4, 5, 6, 8] [7, 9, 10] (by kernel_rfl) (by kernel_rfl) (fun d => by cases d <;> exact fun _ _ _ _ h => h) (fun W hW => ?_)
          have hS := hide (show St M0 W (rimB g vs4 m4 :: regsR vs4 m4 :: rowsR 3 PutR (.slice A6 s.length c6) s :: fourR so ((m1 1).b) :: blkR ob 81 (fourC so) :: []) by rw [hW]; exact HH.out.drew)
          clear hW HH
          refine ⟨hS.out, ?_⟩
          iterate 8 (refine take_run rfl rfl (fun W hW => by (obtain ⟨_, _, _, _, _⟩ := rim_two (hW.blk 0 rfl) (hW.get 1 rfl) HLG.out; have z0 := (hW.blk 4 rfl).cell 0; have z1 := (hW.blk 4 rfl).cell 1; have z2 := (hW.blk 4 rfl).cell 2; have z3 := (hW.blk 4 rfl).cell 3; clear hW; go_simp; try rfl)) ?_; (simp only [Act.put, List.setIfInBounds_toArray, List.set_cons_succ, List.set_cons_zero]))
          refine take_nil ?_
          refine seq_call (f := 25) (args := #[.slice A6 s.length c6]) rfl rfl (by go_simp; try rfl) ((doc_st s A6 s.length c6 _ (by omega) hS.out.up2).mono ?_)
          rintro e w20 ⟨v20, rfl, h⟩
          have h1 := h.rowsGrow
          obtain ⟨A20, c20, rfl, _, _⟩ := (h1.getRows 0 rfl).slice
          refine ⟨_, rfl, fun _ => h1.tail.dn2, ?_⟩
          (simp only [Act.put, List.setIfInBounds_toArray, List.set_cons_succ, List.set_cons_zero])
          have h2 := h1.copy 4 rfl
          refine seq_call (f := 39) (args := #[fourV so, .slice A20 s.length c20, .int .i64 nn]) rfl rfl (by go_simp; try rfl) ((blocks_st so ((m1 1).b) s A20 s.length c20 nn _ (by omega) (fun x hx => ⟨(HWF.out x hx).2.1, (HWF.out x hx).2.2.1⟩) h2).mono ?_)
          rintro e w21 ⟨u, rfl, h⟩
          refine ⟨_, rfl, fun _ => h.tail.dn2, ?_⟩
          (simp only [Act.put, List.setIfInBounds_toArray, List.set_cons_succ, List.set_cons_zero])
          have h3 := (h.copy 3 rfl).pers1 (R' := fun w => ∀ j, j < 4 → Ints w .u8 (.slice (svOf ((vs4 1).b j)).a (svOf ((vs4 1).b j)).n (svOf ((vs4 1).b j)).c) ((m4 1).b j)) (fun _ hr => regs_four hr)
          refine seq_call (f := 38) (args := #[fourV (fun j => svOf ((vs4 1).b j)), fourV u]) rfl rfl (by go_simp; try rfl) ((four_st (fun j => svOf ((vs4 1).b j)) u ((m4 1).b) (app ((m1 1).b) (s.take nn)) _ h3).mono ?_)
          rintro e w22 ⟨t, rfl, ht, h⟩
          refine ⟨_, rfl, fun _ => h.tail.tail.dn2, ?_⟩
          have HT := hide ht
          have HZ := hide h.tail.tail.dn2
          clear h h1 h2 h3 ht hS
          simp only [Act.put, List.setIfInBounds_toArray, List.set_cons_succ, List.set_cons_zero]
          refine seq_nil ?_
          cases t with
          | true =>
            go_wp2_with fail
            go_ret
            exact ⟨rfl, _, HZ.out⟩
          | false =>
            have hne : nn ≠ sure + kk := fun he => by
              have := HT.out.2 (fun j _ => by rw [HR3.out.1, he])
              cases this
            go_wp2_with fail
            go_roundg (sure + kk + 1 - (nn + 1))
            case measure => have := HGN.out; omega
            case rel => exact ⟨nn + 1, rfl, by omega, by omega, by go_num, HZ.out⟩
end Go.Proofs.Ytbnjeekhoaapiaa
