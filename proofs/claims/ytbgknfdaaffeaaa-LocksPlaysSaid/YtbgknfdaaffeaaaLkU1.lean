/- Locks: Contains of numbers; the check of a region. Printed by gen_lku1.py. -/
import Derived.Test.YtbgknfdaaffeaaaLkK
import Derived.Test.YtbgknfdaaffeaaaLkUm
import Derived.Deep.DeepCutAuto
namespace Go.Proofs.Ytbgknfdaaffeaaa
open Go.RowKit Go.Shelf

set_option maxHeartbeats 400000 in
theorem idxU_any (v : Value) (xs : List Int) (x : Int) (w : World) (hv : Ints w .u64 v xs) : Calls Try.prog 147 #[v, .int .u64 x] w fun e w' => (∃ n : Int, e = .returned (.int .i64 n) ∧ decide (n ≥ 0) = xs.contains x) ∧ w' = w := by
  obtain ⟨A, c, rfl, hc, hm, hs⟩ := hv
  have hlen : xs.length ≤ 9223372036854775807 := by unfold maxLen at hm; omega
  generalize hn : xs.length = n at *
  have HN := hide hn
  have HS := hide hs
  clear hn hs hm
  go_enter Try.func147, Try.ntmps147
  go_wp2_with fail
  go_loopg [8] n (fun gh iv wr => ∃ (k : Nat), gh = n - k ∧ k ≤ n ∧ iv = .int .i64 (k : Nat) ∧ (∀ y ∈ xs.take k, y ≠ x) ∧ wr = w)
  case atStart => exact ⟨0, rfl, by omega, rfl, fun y hy => by simp at hy, rfl⟩
  case round =>
    obtain ⟨k, hg, hk, rfl, hno, rfl⟩ := hrel
    have HG := hide hg
    have HNO := hide hno
    clear hg hno
    by_cases hlt : k < n
    · have hx := List.getElem?_eq_getElem (l := xs) (i := k) (by rw [HN.out]; exact hlt)
      generalize xs[k]'(by rw [HN.out]; exact hlt) = y at hx
      obtain ⟨ad, u, rfl, _, _, hu, hcu⟩ := HS.out.at_ hlt
      rw [List.getElem?_map, hx] at hu
      obtain rfl : Value.int .u64 y = u := by simpa using hu
      have HX := hide hx
      have k0 : (0 : Int) ≤ (k : Int) := by omega
      have k1 : (k : Int) < (n : Int) := by omega
      clear hu hx
      by_cases he : x = y
      · have b1 := isT he
        have E := hide (show decide (((k : Nat) : Int) ≥ 0) = xs.contains x by
          rw [decide_eq_true (by omega), List.contains_eq_mem, decide_eq_true (by rw [he]; exact List.mem_of_getElem? HX.out)])
        clear he
        go_wp2_with fail
        go_ret
        exact ⟨⟨_, rfl, E.out⟩, rfl⟩
      · have b1 := isF he
        have HNO2 := hide (show ∀ a ∈ xs.take (k + 1), a ≠ x from fun a ha => by
          rw [List.take_add_one, HX.out] at ha
          rcases List.mem_append.1 ha with ha | ha
          · exact HNO.out a ha
          · simp at ha
            rw [ha]
            exact fun e => he e.symm)
        clear he
        go_wp2_with fail
        go_roundg (n - (k + 1))
        case measure => have := HG.out; omega
        case rel => exact ⟨k + 1, rfl, by omega, by go_num, HNO2.out, rfl⟩
    · obtain rfl : n = k := by omega
      have E := hide (show decide ((-1 : Int) ≥ 0) = xs.contains x by
        rw [List.contains_eq_mem, decide_eq_false (by omega), decide_eq_false]
        intro hm
        exact HNO.out x (by rw [List.take_of_length_le (by rw [HN.out]; exact Nat.le_refl _)]; exact hm) rfl)
      go_wp2_with fail
      go_ret
      exact ⟨⟨_, rfl, E.out⟩, rfl⟩
theorem conU_any (v : Value) (xs : List Int) (x : Int) (w : World) (hv : Ints w .u64 v xs) : Calls Try.prog 107 #[v, .int .u64 x] w fun e w' => e = .returned (.bool (xs.contains x)) ∧ w' = w := by
  have HV := hide hv
  clear hv
  go_enter Try.func107, Try.ntmps107
  go_wp2_with fail
  refine (idxU_any v xs x w HV.out).mono ?_
  rintro e w1 ⟨⟨m, rfl, hd⟩, rfl⟩
  have hd' : decide (0 ≤ m) = xs.contains x := hd
  cases hb : xs.contains x
  all_goals
    rw [hb] at hd hd'
    go_wp2_with fail
    go_ret
    exact ⟨by rw [hb]; rfl, rfl⟩
set_option maxHeartbeats 400000 in
theorem idxI_any (v : Value) (xs : List Int) (x : Int) (w : World) (hv : Ints w .i64 v xs) : Calls Try.prog 163 #[v, .int .i64 x] w fun e w' => (∃ n : Int, e = .returned (.int .i64 n) ∧ decide (n ≥ 0) = xs.contains x) ∧ w' = w := by
  obtain ⟨A, c, rfl, hc, hm, hs⟩ := hv
  have hlen : xs.length ≤ 9223372036854775807 := by unfold maxLen at hm; omega
  generalize hn : xs.length = n at *
  have HN := hide hn
  have HS := hide hs
  clear hn hs hm
  go_enter Try.func163, Try.ntmps163
  go_wp2_with fail
  go_loopg [8] n (fun gh iv wr => ∃ (k : Nat), gh = n - k ∧ k ≤ n ∧ iv = .int .i64 (k : Nat) ∧ (∀ y ∈ xs.take k, y ≠ x) ∧ wr = w)
  case atStart => exact ⟨0, rfl, by omega, rfl, fun y hy => by simp at hy, rfl⟩
  case round =>
    obtain ⟨k, hg, hk, rfl, hno, rfl⟩ := hrel
    have HG := hide hg
    have HNO := hide hno
    clear hg hno
    by_cases hlt : k < n
    · have hx := List.getElem?_eq_getElem (l := xs) (i := k) (by rw [HN.out]; exact hlt)
      generalize xs[k]'(by rw [HN.out]; exact hlt) = y at hx
      obtain ⟨ad, u, rfl, _, _, hu, hcu⟩ := HS.out.at_ hlt
      rw [List.getElem?_map, hx] at hu
      obtain rfl : Value.int .i64 y = u := by simpa using hu
      have HX := hide hx
      have k0 : (0 : Int) ≤ (k : Int) := by omega
      have k1 : (k : Int) < (n : Int) := by omega
      clear hu hx
      by_cases he : x = y
      · have b1 := isT he
        have E := hide (show decide (((k : Nat) : Int) ≥ 0) = xs.contains x by
          rw [decide_eq_true (by omega), List.contains_eq_mem, decide_eq_true (by rw [he]; exact List.mem_of_getElem? HX.out)])
        clear he
        go_wp2_with fail
        go_ret
        exact ⟨⟨_, rfl, E.out⟩, rfl⟩
      · have b1 := isF he
        have HNO2 := hide (show ∀ a ∈ xs.take (k + 1), a ≠ x from fun a ha => by
          rw [List.take_add_one, HX.out] at ha
          rcases List.mem_append.1 ha with ha | ha
          · exact HNO.out a ha
          · simp at ha
            rw [ha]
            exact fun e => he e.symm)
        clear he
        go_wp2_with fail
        go_roundg (n - (k + 1))
        case measure => have := HG.out; omega
        case rel => exact ⟨k + 1, rfl, by omega, by go_num, HNO2.out, rfl⟩
    · obtain rfl : n = k := by omega
      have E := hide (show decide ((-1 : Int) ≥ 0) = xs.contains x by
        rw [List.contains_eq_mem, decide_eq_false (by omega), decide_eq_false]
        intro hm
        exact HNO.out x (by rw [List.take_of_length_le (by rw [HN.out]; exact Nat.le_refl _)]; exact hm) rfl)
      go_wp2_with fail
      go_ret
      exact ⟨⟨_, rfl, E.out⟩, rfl⟩
theorem conI_any (v : Value) (xs : List Int) (x : Int) (w : World) (hv : Ints w .i64 v xs) : Calls Try.prog 148 #[v, .int .i64 x] w fun e w' => e = .returned (.bool (xs.contains x)) ∧ w' = w := by
  have HV := hide hv
  clear hv
  go_enter Try.func148, Try.ntmps148
  go_wp2_with fail
  refine (idxI_any v xs x w HV.out).mono ?_
  rintro e w1 ⟨⟨m, rfl, hd⟩, rfl⟩
  have hd' : decide (0 ≤ m) = xs.contains x := hd
  cases hb : xs.contains x
  all_goals
    rw [hb] at hd hd'
    go_wp2_with fail
    go_ret
    exact ⟨by rw [hb]; rfl, rfl⟩
set_option maxHeartbeats 8000000 in
set_option maxRecDepth 100000 in
theorem check_st {M0 : Imm} {L : List Res} (g i : Nat) (now last : Int) (vs : Nat → RegV) (A B : Option Addr) (n c m d : Nat) (hs : List HoldM) (ws : List WantM) (w : World) (hi4 : i < 4) (hvi : vs i = ⟨⟨A, n, c⟩, ⟨B, m, d⟩⟩)
    (h : St M0 w (tabB g now last vs :: ownR holdC 91 4 (.slice A n c) hs :: keepR wantC 2 (.slice B m d) ws :: L)) :
    Calls Try.prog 108 #[.pointer (some ⟨g, 2 + i * 2, none⟩)] w fun e w' => e = .returned (.bool (checkB ⟨hs, ws⟩)) ∧ St M0 w' (tabB g now last vs :: ownR holdC 91 4 (.slice A n c) hs :: keepR wantC 2 (.slice B m d) ws :: L) := by
  obtain ⟨o, ho⟩ : ∃ o, o = 2 + i * 2 := ⟨_, rfl⟩
  rw [← ho]
  have HTH := hide (show (tabC now last vs)[o]? = some (.slice A n c) by rw [ho]; refine (tabC_h now last vs hi4).trans ?_; rw [hvi])
  have HTW := hide (show (tabC now last vs)[o + 1]? = some (.slice B m d) by rw [ho]; refine (tabC_w now last vs hi4).trans ?_; rw [hvi])
  have ch : w.cell? ⟨g, o, none⟩ = some (.slice A n c) := ((h.blk 0 rfl).cell o).trans HTH.out
  have cw : w.cell? ⟨g, o + 1, none⟩ = some (.slice B m d) := ((h.blk 0 rfl).cell (o + 1)).trans HTW.out
  obtain ⟨hn, hnc, hcm, _⟩ := (h.flatO (C := holdC) (e := 91) (size := 4) (v := .slice A n c) (xs := hs) (by (repeat (first | with_reducible exact At.here | with_reducible apply At.there)))).sl
  obtain ⟨hmw, hmd, hdm, _⟩ := (h.flatK (C := wantC) (size := 2) (v := .slice B m d) (xs := ws) (by (repeat (first | with_reducible exact At.here | with_reducible apply At.there)))).sl
  have HN := hide hn
  have HNW := hide hmw
  have HVI := hide hvi
  have H := hide h
  have HC0 := hide (show checkB ⟨hs, ws⟩ = (decide (n ≤ 4) && decide (m ≤ 4) && ckH (decide (1 < n)) [] hs && ckW (hs.map HoldM.c) ws) by rw [hn, hmw]; rfl)
  clear h hn hmw ho hvi
  go_enter Try.func108, Try.ntmps108
  by_cases hn4 : n ≤ 4
  case' neg =>
    have d1 : decide ((n : Int) > 4) = true := decide_eq_true (by omega)
    have d1' : decide ((4 : Int) < (n : Int)) = true := d1
    have E := hide (show checkB ⟨hs, ws⟩ = false by rw [HC0.out, decide_eq_false hn4]; rfl)
    clear hn4
    go_wp2_with fail
    go_ret
    exact ⟨by rw [E.out]; try rfl, H.out⟩
  case pos =>
    have d1 : decide ((n : Int) > 4) = false := decide_eq_false (by omega)
    have d1' : decide ((4 : Int) < (n : Int)) = false := d1
    by_cases hm4 : m ≤ 4
    case' neg =>
      have d2 : decide ((m : Int) > 4) = true := decide_eq_true (by omega)
      have d2' : decide ((4 : Int) < (m : Int)) = true := d2
      have E := hide (show checkB ⟨hs, ws⟩ = false by rw [HC0.out, decide_eq_false hm4, Bool.and_false]; rfl)
      clear hm4
      go_wp2_with fail
      go_ret
      exact ⟨by rw [E.out]; try rfl, H.out⟩
    case pos =>
      have d2 : decide ((m : Int) > 4) = false := decide_eq_false (by omega)
      have d2' : decide ((4 : Int) < (m : Int)) = false := d2
      have HCK := hide (show checkB ⟨hs, ws⟩ = (ckH (decide (1 < n)) [] hs && ckW (hs.map HoldM.c) ws) by rw [HC0.out, decide_eq_true hn4, decide_eq_true hm4]; rfl)
      have H1 := hide (H.out.nilRow 3 1)
      clear H HC0
      go_wp2_with fail
      clear ch cw d1 d1' d2 d2'
      go_loopg [3, 27] n (fun gh sv iv wr => ∃ (k q : Nat) (C : Option Addr) (ce : Nat) (xs : List Int), gh = n - k ∧ k ≤ n ∧ sv = .slice C q ce ∧ iv = .int .i64 (k : Nat) ∧ q = xs.length ∧ q ≤ k ∧ xs = (hs.take k).map HoldM.c ∧ ckH (decide (1 < n)) [] hs = ckH (decide (1 < n)) xs (hs.drop k) ∧
        St M0 wr (rowR 3 1 (.slice C q ce) q (xs.map (.int .i64)) :: tabB g now last vs :: ownR holdC 91 4 (.slice A n c) hs :: keepR wantC 2 (.slice B m d) ws :: L))
      case atStart => exact ⟨0, 0, none, 0, [], rfl, by omega, rfl, rfl, rfl, by omega, rfl, rfl, H1.out⟩
      case round =>
        clear H1
        obtain ⟨k, q, C, ce, xs, hg, hk, rfl, rfl, hq, hqk, hxs, hck, h⟩ := hrel
        have HG := hide hg
        have HQ := hide hq
        have HXS := hide hxs
        have HCC := hide hck
        clear hg hq hxs hck
        by_cases hlt : k < n
        · have hx := List.getElem?_eq_getElem (l := hs) (i := k) (by rw [← HN.out]; exact hlt)
          have hdk := List.drop_eq_getElem_cons (l := hs) (i := k) (by rw [← HN.out]; exact hlt)
          generalize hs[k]'(by rw [← HN.out]; exact hlt) = z at hx hdk
          obtain ⟨ad2, rfl, hcs⟩ := (h.flatO (C := holdC) (e := 91) (size := 4) (v := .slice A n c) (xs := hs) (by (repeat (first | with_reducible exact At.here | with_reducible apply At.there)))).at_ holdC_len hx
          obtain ⟨e0, e1, e2, e3⟩ := cells4F hcs
          have HST := hide (show ckH (decide (1 < n)) xs (hs.drop k) = ((nodeB z.c && modeB z.m && !xs.contains z.c && !(decide (1 < n) && (z.m == 2))) && ckH (decide (1 < n)) (xs ++ [z.c]) (hs.drop (k + 1))) by rw [hdk]; rfl)
          have HX2 := hide (show (hs.take (k + 1)).map HoldM.c = xs ++ [z.c] by rw [HXS.out, List.take_add_one, hx]; simp)
          have h4 := h.alloc 91 #[.int .i64 z.c, .int .i64 z.m, .int .u64 z.t, .int .u64 z.u]
          have k0 : (0 : Int) ≤ (k : Int) := by omega
          have k1 : (k : Int) < (n : Int) := by omega
          generalize hy : wr.heap.size = y at h4
          have HY := hide hy
          have H4 := hide h4
          clear h h4 hx hdk hcs hy
          go_wp2_with fail
          rw [HY.out]
          refine (node_st z.c _ H4.out).mono ?_
          rintro e w2 ⟨rfl, h5⟩
          have H5 := hide h5
          have y1 : w2.cell? ⟨y, 1, none⟩ = some (.int .i64 z.m) := (h5.blk 0 rfl).cell 1
          clear HY H4 h5 e0 e1 e2 e3
          cases hb1 : nodeB z.c with
          | false =>
            have E := hide (show checkB ⟨hs, ws⟩ = false by rw [HCK.out, HCC.out, HST.out, hb1]; rfl)
            go_wp2_with fail
            go_ret
            exact ⟨by rw [E.out]; try rfl, H5.out.tail.tail⟩
          | true =>
            go_wp2_with fail
            refine (mode_st z.m _ H5.out).mono ?_
            rintro e w3 ⟨rfl, h6⟩
            have y0 : w3.cell? ⟨y, 0, none⟩ = some (.int .i64 z.c) := (h6.blk 0 rfl).cell 0
            have y1 : w3.cell? ⟨y, 1, none⟩ = some (.int .i64 z.m) := (h6.blk 0 rfl).cell 1
            have ch : w3.cell? ⟨g, o, none⟩ = some (.slice (some ad2) n c) := ((h6.blkA (g := g) (t := 79) (cs := tabC now last vs) (by (repeat (first | with_reducible exact At.here | with_reducible apply At.there)))).cell o).trans HTH.out
            have hI : Ints w3 .i64 (.slice C q ce) xs := Ints.of_own (h6.row 1 rfl)
            have H6 := hide h6
            have HI := hide hI
            clear H5 h6 hI
            cases hb2 : modeB z.m with
            | false =>
              have E := hide (show checkB ⟨hs, ws⟩ = false by rw [HCK.out, HCC.out, HST.out, hb1, hb2]; rfl)
              go_wp2_with fail
              go_ret
              exact ⟨by rw [E.out]; try rfl, H6.out.tail.tail⟩
            | true =>
              go_wp2_with fail
              refine (conI_any (.slice C q ce) xs z.c _ HI.out).mono ?_
              rintro e w4 ⟨rfl, rfl⟩
              cases hb3 : xs.contains z.c with
              | true =>
                have E := hide (show checkB ⟨hs, ws⟩ = false by rw [HCK.out, HCC.out, HST.out, hb1, hb2, hb3]; rfl)
                go_wp2_with fail
                go_ret
                exact ⟨by rw [E.out]; try rfl, H6.out.tail.tail⟩
              | false =>
                obtain ⟨b5, hb5⟩ : ∃ b5, decide ((n : Int) > 1) = b5 := ⟨_, rfl⟩
                have hb5' : decide ((1 : Int) < (n : Int)) = b5 := hb5
                have hb5n : decide (1 < n) = b5 := by rw [← hb5]; exact decide_eq_decide.2 (by omega)
                obtain ⟨b6, hb6⟩ : ∃ b6, (z.m == 2) = b6 := ⟨_, rfl⟩
                have HS2 := hide (show ckH (decide (1 < n)) xs (hs.drop k) = (!(b5 && b6) && ckH (decide (1 < n)) (xs ++ [z.c]) (hs.drop (k + 1))) by rw [HST.out, hb1, hb2, hb3, hb6, hb5n]; rfl)
                clear hb5n
                cases b5 <;> cases b6
                case true.true =>
                  have E := hide (show checkB ⟨hs, ws⟩ = false by rw [HCK.out, HCC.out, HS2.out]; rfl)
                  go_wp2_with fail
                  go_ret
                  exact ⟨by rw [E.out]; try rfl, H6.out.tail.tail⟩
                all_goals
                  have HC2 := hide (show ckH (decide (1 < n)) [] hs = ckH (decide (1 < n)) (xs ++ [z.c]) (hs.drop (k + 1)) by rw [HCC.out, HS2.out]; rfl)
                  have h7 := ((H6.out.front (X := rowR 3 1 (.slice C q ce) q (xs.map (.int .i64))) (by (repeat (first | with_reducible exact At.here | with_reducible apply At.there)))).alloc 3 #[.int .i64 z.c]).swap
                  have HB := hide (h7.blk 1 rfl)
                  have H7 := hide h7
                  clear h7 H6 HI
                  go_wp2_with (at_builtin; refine St.app_step intK_row H7.out rfl _ _ rfl rfl (some ⟨w4.heap.size, 0, none⟩) 1 1 rfl [.int .i64 z.c] (sl_blkT (cs := [.int .i64 z.c]) HB.out) (by intro u hu; simp at hu; subst hu; rfl) (by omega) (by omega) ?_; intro A6 c6 w7 h9)
                  have h10 := h9.sub (L' := rowR 3 1 (.slice A6 (q + 1) c6) (q + 1) (xs.map (.int .i64) ++ [.int .i64 z.c]) :: tabB g now last vs :: ownR holdC 91 4 (.slice (some ad2) n c) hs :: keepR wantC 2 (.slice B m d) ws :: L) (by (repeat (first | with_reducible exact Sub.refl _ | (with_reducible apply Sub.take; focus (repeat (first | with_reducible exact At.here | with_reducible apply At.there))) | with_reducible apply Sub.drop)))
                  rw [show xs.map (Value.int .i64) ++ [.int .i64 z.c] = (xs ++ [z.c]).map (.int .i64) by rw [List.map_append]; rfl] at h10
                  have H10 := hide h10
                  clear h9 h10 H7 HB y0 y1 ch
                  go_wp2_with fail
                  go_roundg (n - (k + 1))
                  case measure => have := HG.out; omega
                  case rel => exact ⟨k + 1, q + 1, A6, c6, xs ++ [z.c], rfl, by omega, rfl, by go_num, by rw [List.length_append, ← HQ.out]; rfl, by omega, HX2.out.symm, HC2.out, H10.out⟩
        · obtain rfl : n = k := by omega
          have HCK2 := hide (show checkB ⟨hs, ws⟩ = ckW (hs.map HoldM.c) ws by
            rw [HCK.out, HCC.out, List.drop_of_length_le (by rw [← HN.out]; exact Nat.le_refl _)]
            exact Bool.true_and _)
          have HXS2 := hide (show xs = hs.map HoldM.c by rw [HXS.out, List.take_of_length_le (by rw [← HN.out]; exact Nat.le_refl _)])
          have cw : wr.cell? ⟨g, o + 1, none⟩ = some (.slice B m d) := ((h.blkA (g := g) (t := 79) (cs := tabC now last vs) (by (repeat (first | with_reducible exact At.here | with_reducible apply At.there)))).cell (o + 1)).trans HTW.out
          have H8 := hide h
          clear h HCK HCC HG HXS
          have HXS := HXS2
          have HCK := HCK2
          clear HXS2 HCK2
          go_wp2_with fail
          go_loopg [3, 71] m (fun gh sv iv wr => ∃ (k q : Nat) (C : Option Addr) (ce : Nat) (xs : List Int), gh = m - k ∧ k ≤ m ∧ sv = .slice C q ce ∧ iv = .int .i64 (k : Nat) ∧ q = xs.length ∧ q ≤ n + k ∧ xs = hs.map HoldM.c ++ (ws.take k).map WantM.c ∧ ckW (hs.map HoldM.c) ws = ckW xs (ws.drop k) ∧
            St M0 wr (rowR 3 1 (.slice C q ce) q (xs.map (.int .i64)) :: tabB g now last vs :: ownR holdC 91 4 (.slice A n c) hs :: keepR wantC 2 (.slice B m d) ws :: L))
          case atStart => exact ⟨0, q, C, ce, xs, rfl, by omega, rfl, rfl, HQ.out, by omega, by rw [HXS.out]; simp, by rw [HXS.out]; rfl, H8.out⟩
          case round =>
            clear H8 HXS HQ
            obtain ⟨k, q, C, ce, xs, hg, hk, rfl, rfl, hq, hqk, hxs, hck, h⟩ := hrel
            have HG := hide hg
            have HQ := hide hq
            have HXS := hide hxs
            have HCC := hide hck
            clear hg hq hxs hck
            by_cases hlt : k < m
            · have hx := List.getElem?_eq_getElem (l := ws) (i := k) (by rw [← HNW.out]; exact hlt)
              have hdk := List.drop_eq_getElem_cons (l := ws) (i := k) (by rw [← HNW.out]; exact hlt)
              generalize ws[k]'(by rw [← HNW.out]; exact hlt) = z at hx hdk
              obtain ⟨ad2, rfl, hcs⟩ := (h.flatK (C := wantC) (size := 2) (v := .slice B m d) (xs := ws) (by (repeat (first | with_reducible exact At.here | with_reducible apply At.there)))).at_ wantC_len hx
              obtain ⟨e0, e1⟩ := cells2F hcs
              have HST := hide (show ckW xs (ws.drop k) = ((nodeB z.c && modeB z.m && !xs.contains z.c) && ckW (xs ++ [z.c]) (ws.drop (k + 1))) by rw [hdk]; rfl)
              have HX2 := hide (show hs.map HoldM.c ++ (ws.take (k + 1)).map WantM.c = xs ++ [z.c] by rw [HXS.out, List.take_add_one, hx]; simp)
              have h4 := h.alloc 87 #[.int .i64 z.c, .int .i64 z.m]
              have k0 : (0 : Int) ≤ (k : Int) := by omega
              have k1 : (k : Int) < (m : Int) := by omega
              generalize hy : wr.heap.size = y at h4
              have HY := hide hy
              have H4 := hide h4
              clear h h4 hx hdk hcs hy
              go_wp2_with fail
              rw [HY.out]
              refine (node_st z.c _ H4.out).mono ?_
              rintro e w2 ⟨rfl, h5⟩
              have H5 := hide h5
              have y1 : w2.cell? ⟨y, 1, none⟩ = some (.int .i64 z.m) := (h5.blk 0 rfl).cell 1
              clear HY H4 h5 e0 e1
              cases hb1 : nodeB z.c with
              | false =>
                have E := hide (show checkB ⟨hs, ws⟩ = false by rw [HCK.out, HCC.out, HST.out, hb1]; rfl)
                go_wp2_with fail
                go_ret
                exact ⟨by rw [E.out]; try rfl, H5.out.tail.tail⟩
              | true =>
                go_wp2_with fail
                refine (mode_st z.m _ H5.out).mono ?_
                rintro e w3 ⟨rfl, h6⟩
                have y0 : w3.cell? ⟨y, 0, none⟩ = some (.int .i64 z.c) := (h6.blk 0 rfl).cell 0
                have y1 : w3.cell? ⟨y, 1, none⟩ = some (.int .i64 z.m) := (h6.blk 0 rfl).cell 1
                have ch : w3.cell? ⟨g, o, none⟩ = some (.slice A n c) := ((h6.blkA (g := g) (t := 79) (cs := tabC now last vs) (by (repeat (first | with_reducible exact At.here | with_reducible apply At.there)))).cell o).trans HTH.out
                have hI : Ints w3 .i64 (.slice C q ce) xs := Ints.of_own (h6.row 1 rfl)
                have H6 := hide h6
                have HI := hide hI
                clear H5 h6 hI
                cases hb2 : modeB z.m with
                | false =>
                  have E := hide (show checkB ⟨hs, ws⟩ = false by rw [HCK.out, HCC.out, HST.out, hb1, hb2]; rfl)
                  go_wp2_with fail
                  go_ret
                  exact ⟨by rw [E.out]; try rfl, H6.out.tail.tail⟩
                | true =>
                  go_wp2_with fail
                  refine (conI_any (.slice C q ce) xs z.c _ HI.out).mono ?_
                  rintro e w4 ⟨rfl, rfl⟩
                  cases hb3 : xs.contains z.c with
                  | true =>
                    have E := hide (show checkB ⟨hs, ws⟩ = false by rw [HCK.out, HCC.out, HST.out, hb1, hb2, hb3]; rfl)
                    go_wp2_with fail
                    go_ret
                    exact ⟨by rw [E.out]; try rfl, H6.out.tail.tail⟩
                  | false =>
                    have HC2 := hide (show ckW (hs.map HoldM.c) ws = ckW (xs ++ [z.c]) (ws.drop (k + 1)) by rw [HCC.out, HST.out, hb1, hb2, hb3]; rfl)
                    have h7 := ((H6.out.front (X := rowR 3 1 (.slice C q ce) q (xs.map (.int .i64))) (by (repeat (first | with_reducible exact At.here | with_reducible apply At.there)))).alloc 3 #[.int .i64 z.c]).swap
                    have HB := hide (h7.blk 1 rfl)
                    have H7 := hide h7
                    clear h7 H6 HI
                    go_wp2_with (at_builtin; refine St.app_step intK_row H7.out rfl _ _ rfl rfl (some ⟨w4.heap.size, 0, none⟩) 1 1 rfl [.int .i64 z.c] (sl_blkT (cs := [.int .i64 z.c]) HB.out) (by intro u hu; simp at hu; subst hu; rfl) (by omega) (by omega) ?_; intro A6 c6 w7 h9)
                    have h10 := h9.sub (L' := rowR 3 1 (.slice A6 (q + 1) c6) (q + 1) (xs.map (.int .i64) ++ [.int .i64 z.c]) :: tabB g now last vs :: ownR holdC 91 4 (.slice A n c) hs :: keepR wantC 2 (.slice (some ad2) m d) ws :: L) (by (repeat (first | with_reducible exact Sub.refl _ | (with_reducible apply Sub.take; focus (repeat (first | with_reducible exact At.here | with_reducible apply At.there))) | with_reducible apply Sub.drop)))
                    rw [show xs.map (Value.int .i64) ++ [.int .i64 z.c] = (xs ++ [z.c]).map (.int .i64) by rw [List.map_append]; rfl] at h10
                    have H10 := hide h10
                    clear h9 h10 H7 HB y0 y1 ch
                    go_wp2_with fail
                    go_roundg (m - (k + 1))
                    case measure => have := HG.out; omega
                    case rel => exact ⟨k + 1, q + 1, A6, c6, xs ++ [z.c], rfl, by omega, rfl, by go_num, by rw [List.length_append, ← HQ.out]; rfl, by omega, HX2.out.symm, HC2.out, H10.out⟩
            · obtain rfl : m = k := by omega
              have E := hide (show checkB ⟨hs, ws⟩ = true by
                rw [HCK.out, HCC.out, List.drop_of_length_le (by rw [← HNW.out]; exact Nat.le_refl _)]
                rfl)
              have H9 := hide h.tail
              clear h
              go_wp2_with fail
              go_ret
              exact ⟨by rw [E.out]; try rfl, H9.out⟩
end Go.Proofs.Ytbgknfdaaffeaaa
/- Locks: Unpack. Printed by gen_lku2.py. -/
namespace Go.Proofs.Ytbgknfdaaffeaaa
open Go.RowKit Go.Shelf

theorem u64_row : ElemOf Try.prog 182 33 (.int .u64 0) 1 8 := ⟨Try.underlying182, by kernel_rfl, by kernel_rfl, by omega⟩
/-- the regions that are whole -/
def parT (vs : Nat → RegV) (m : Nat → RegM) : Nat → Res
  | 0 => pureR True
  | i + 1 => starR (parT vs m i) (regT vs m i)
theorem parT_congr {vs vs' : Nat → RegV} {m m' : Nat → RegM} : ∀ {i : Nat}, (∀ j, j < i → vs j = vs' j ∧ m j = m' j) → parT vs m i = parT vs' m' i
  | 0, _ => rfl
  | i + 1, h => by
    show starR (parT vs m i) (regT vs m i) = starR (parT vs' m' i) (regT vs' m' i)
    rw [parT_congr (fun j hj => h j (by omega))]
    unfold regT
    rw [(h i (by omega)).1, (h i (by omega)).2]
theorem St.parTab {M0 : Imm} {w : World} {L : List Res} {g : Nat} {now last : Int} {vs : Nat → RegV} {m : Nat → RegM} (h : St M0 w (parT vs m 4 :: tabB g now last vs :: L)) : St M0 w (tabR g ⟨now, last, m⟩ :: L) := by
  have h1 := h.star.star
  have h2 := h1.star.star
  exact St.toTab (T := ⟨now, last, m⟩) (vs := vs) ((h2.tail).sub (L' := tabB g now last vs :: regT vs m 0 :: regT vs m 1 :: regT vs m 2 :: regT vs m 3 :: L) (by (repeat (first | with_reducible exact Sub.refl _ | (with_reducible apply Sub.take; focus (repeat (first | with_reducible exact At.here | with_reducible apply At.there))) | with_reducible apply Sub.drop))))
/-- one region more is whole -/
theorem St.parStep {M0 : Imm} {w : World} {L : List Res} {vs vs' : Nat → RegV} {m : Nat → RegM} {i : Nat} {hv wv : SlV} {hs : List HoldM} {ws : List WantM} (hvi : vs' i = ⟨hv, wv⟩) (hoth : ∀ j, j ≠ i → vs' j = vs j) (h : St M0 w (parT vs m i :: ownR holdC 91 4 (.slice hv.a hv.n hv.c) hs :: keepR wantC 2 (.slice wv.a wv.n wv.c) ws :: L)) :
    St M0 w (parT vs' (upd m i ⟨hs, ws⟩) (i + 1) :: L) := by
  have e1 : parT vs m i = parT vs' (upd m i ⟨hs, ws⟩) i := parT_congr (fun j hj => ⟨(hoth j (by omega)).symm, (updT_ne m _ (by omega)).symm⟩)
  have e2 : regT vs' (upd m i ⟨hs, ws⟩) i = starR (holdsR hv hs) (wantsR wv ws) := by
    unfold regT
    rw [hvi, updT_same]
  show St M0 w (starR (parT vs' (upd m i ⟨hs, ws⟩) i) (regT vs' (upd m i ⟨hs, ws⟩) i) :: L)
  rw [← e1, e2]
  have h1 := (h.sub (L' := holdsR hv hs :: wantsR wv ws :: parT vs m i :: L) (by (repeat (first | with_reducible exact Sub.refl _ | (with_reducible apply Sub.take; focus (repeat (first | with_reducible exact At.here | with_reducible apply At.there))) | with_reducible apply Sub.drop)))).addStar
  exact h1.swap.addStar
theorem Rd.tab_far (r : Rd) (k i : Nat) (h : k ≤ i) : (r.tab k).1 i = ⟨[], []⟩ := by
  induction k with
  | zero => rfl
  | succ k ih =>
    show upd (r.tab k).1 k _ i = _
    rw [updT_ne _ _ (by omega)]
    exact ih (by omega)
def UnpQ (M0 : Imm) (L : List Res) (v : Value) (bs : List Int) (e : Ending) (w' : World) : Prop :=
  (uE bs = 0 ∧ ∃ g, e = .returned (.tuple #[.pointer (some ⟨g, 0, none⟩), .int .i64 0]) ∧ St M0 w' (tabR g (uTab bs) :: intsR .u8 v bs :: L)) ∨
  (uE bs ≠ 0 ∧ e = .returned (.tuple #[.pointer none, .int .i64 (uE bs)]) ∧ St M0 w' (intsR .u8 v bs :: L))
set_option maxHeartbeats 8000000 in
set_option maxRecDepth 100000 in
theorem unpack_st {M0 : Imm} {L : List Res} (v : Value) (bs : List Int) (w : World) (hok : Rd.Ok ⟨bs, false⟩) (h : St M0 w (intsR .u8 v bs :: L)) :
    Calls Try.prog 55 #[v] w fun e w' => UnpQ M0 L v bs e w' := by
  have HQ0 := hide (show ∀ e w', UnpQ M0 L v bs e w' ↔ UnpQ M0 L v bs e w' from fun _ _ => Iff.rfl)
  obtain ⟨tb, htb⟩ : ∃ tb, tb = uTab bs := ⟨_, rfl⟩
  obtain ⟨r0, hr0⟩ : ∃ r0 : Rd, r0 = ⟨bs, false⟩ := ⟨_, rfl⟩
  rw [← hr0] at hok
  have HR0 := hide hr0
  have H := hide h
  clear h
  go_enter Try.func55, Try.ntmps55
  go_wp2_with fail
  refine (read_st v bs _ H.out).mono ?_
  rintro e w1 ⟨gr, rfl, h1⟩
  rw [← hr0] at h1
  have H1 := hide h1
  have OK := hide hok
  clear h1 H hok hr0
  go_wp2_with fail
  refine (rdnum_st gr r0 8 _ OK.out.hb OK.out.hl OK.out.hz H1.out).mono ?_
  rintro e w2 ⟨rfl, h2⟩
  obtain ⟨now, hnow⟩ : ∃ now, now = (r0.num 8).1 := ⟨_, rfl⟩
  rw [← hnow]
  have HNOW := hide hnow
  have OK1 := hide (OK.out.num 8)
  have H2 := hide h2
  clear h2 H1 hnow
  go_wp2_with fail
  refine (rdnum_st gr (r0.num 8).2 8 _ OK1.out.hb OK1.out.hl OK1.out.hz H2.out).mono ?_
  rintro e w3 ⟨rfl, h3⟩
  obtain ⟨last, hlast⟩ : ∃ last, last = ((r0.num 8).2.num 8).1 := ⟨_, rfl⟩
  rw [← hlast]
  have HLAST := hide hlast
  obtain ⟨r2, hr2⟩ : ∃ r2, r2 = ((r0.num 8).2.num 8).2 := ⟨_, rfl⟩
  have OK2 := hide (show r2.Ok by rw [hr2]; exact OK1.out.num 8)
  rw [← hr2] at h3
  have HR2 := hide hr2
  have h4 := ((h3.alloc 79 (tabC now last fun _ => ⟨⟨none, 0, 0⟩, ⟨none, 0, 0⟩⟩)).nilRow 33 1).addP (p := True) trivial
  generalize hg : w3.heap.size = g at h4
  have HG0 := hide hg
  have H4 := hide (show St M0 _ (tabB g now last (fun _ => ⟨⟨none, 0, 0⟩, ⟨none, 0, 0⟩⟩) :: rdR gr r2 :: rowR 33 1 (.slice none 0 0) 0 (([] : List Int).map (.int .u64)) :: parT (fun _ => ⟨⟨none, 0, 0⟩, ⟨none, 0, 0⟩⟩) (r2.tab 0).1 0 :: intsR .u8 v bs :: L) from (show St M0 _ (parT (fun _ => ⟨⟨none, 0, 0⟩, ⟨none, 0, 0⟩⟩) (r2.tab 0).1 0 :: rowR 33 1 (.slice none 0 0) 0 (([] : List Int).map (.int .u64)) :: tabB g now last (fun _ => ⟨⟨none, 0, 0⟩, ⟨none, 0, 0⟩⟩) :: rdR gr r2 :: intsR .u8 v bs :: L) from h4).sub (by (repeat (first | with_reducible exact Sub.refl _ | (with_reducible apply Sub.take; focus (repeat (first | with_reducible exact At.here | with_reducible apply At.there))) | with_reducible apply Sub.drop))))
  clear h3 h4 H2 hlast hr2 hg OK OK1
  go_wp2_with fail
  rw [HG0.out]
  clear HG0
  go_loopg [6, 7, 20] 4 (fun gh okv sv iv wr => ∃ (i : Nat) (vs : Nat → RegV) (C : Option Addr) (q ce : Nat) (ts : List Int), gh = 4 - i ∧ i ≤ 4 ∧ okv = .bool (okToks last ts && chkT (r2.tab i).1 i) ∧ sv = .slice C q ce ∧ iv = .int .i64 (i : Nat) ∧ q = ts.length ∧ q ≤ 255 * i ∧ ts = toksT (r2.tab i).1 i ∧ (∀ j, i ≤ j → vs j = ⟨⟨none, 0, 0⟩, ⟨none, 0, 0⟩⟩) ∧
    St M0 wr (tabB g now last vs :: rdR gr (r2.tab i).2 :: rowR 33 1 (.slice C q ce) q (ts.map (.int .u64)) :: parT vs (r2.tab i).1 i :: intsR .u8 v bs :: L))
  case atStart => exact ⟨0, _, none, 0, 0, [], rfl, by omega, rfl, rfl, rfl, rfl, by omega, rfl, fun _ _ => rfl, H4.out⟩
  case round =>
    clear H4
    obtain ⟨i, vs, C, q, ce, ts, hgh, hi, rfl, rfl, rfl, hq, hq255, hts, hvs, h⟩ := hrel
    have HGI := hide hgh
    have HQI := hide hq
    have HTSI := hide hts
    have HVSI := hide hvs
    have OKI := hide (OK2.out.tab i)
    obtain ⟨m, hm⟩ : ∃ m, m = (r2.tab i).1 := ⟨_, rfl⟩
    obtain ⟨ri, hri⟩ : ∃ ri, ri = (r2.tab i).2 := ⟨_, rfl⟩
    have HTAB := hide (show r2.tab (i + 1) = (upd m i ri.lreg, ri.g4.2) by rw [hm, hri]; rfl)
    rw [← hm, ← hri] at h
    rw [← hm]
    have HM := hide hm
    have HRI := hide hri
    clear hgh hq hts hvs hm
    by_cases hi4 : i < 4
    · have i0 : (0 : Int) ≤ (i : Int) := by omega
      have i1 : (i : Int) < 4 := by omega
      have okri : ri.Ok := by rw [hri]; exact OKI.out
      clear hri
      have H1 := hide (h.sub (L' := rdR gr ri :: tabB g now last vs :: rowR 33 1 (.slice C q ce) q (ts.map (.int .u64)) :: parT vs m i :: intsR .u8 v bs :: L) (by (repeat (first | with_reducible exact Sub.refl _ | (with_reducible apply Sub.take; focus (repeat (first | with_reducible exact At.here | with_reducible apply At.there))) | with_reducible apply Sub.drop))))
      have OKR := hide okri
      clear h okri
      go_wp2_with fail
      refine (rdnum_st gr ri 1 _ OKR.out.hb OKR.out.hl OKR.out.hz H1.out).mono ?_
      rintro e w4 ⟨rfl, h5⟩
      obtain ⟨o, ho⟩ : ∃ o, o = 2 + i * 2 := ⟨_, rfl⟩
      have hn1 := Rd.num1_lt OKR.out
      obtain ⟨nn, hnn⟩ := Int.eq_ofNat_of_zero_le hn1.1
      rw [hnn] at hn1 ⊢
      have OKR1 := hide (OKR.out.num 1)
      obtain ⟨rh, hrh⟩ : ∃ rh, rh = (ri.num 1).2 := ⟨_, rfl⟩
      rw [← hrh] at h5 OKR1
      have HG2 := hide (show ri.g2 = rh.hos nn by unfold Rd.g2 Rd.g1; rw [hnn, Int.toNat_natCast, ← hrh])
      have hnn255 : nn ≤ 255 := by have := hn1.2; omega
      have hvi : vs i = ⟨⟨none, 0, 0⟩, ⟨none, 0, 0⟩⟩ := HVSI.out i (Nat.le_refl _)
      have HVI0 := hide hvi
      rw [← ho]
      have HO := hide ho
      have H5 := hide (show St M0 w4 (tabB g now last vs :: ownR holdC 91 4 (.slice none 0 0) [] :: rdR gr rh :: rowR 33 1 (.slice C q ce) q (ts.map (.int .u64)) :: parT vs m i :: intsR .u8 v bs :: L) from (h5.ownNil holdC 91 4).sub (by (repeat (first | with_reducible exact Sub.refl _ | (with_reducible apply Sub.take; focus (repeat (first | with_reducible exact At.here | with_reducible apply At.there))) | with_reducible apply Sub.drop))))
      clear h5 H1 hnn hn1 hrh hvi ho
      go_wp2_with fail
      go_loopg [6, 7, 30] nn (fun gh okv sv kv wr => ∃ (k : Nat) (hs : List HoldM) (rr : Rd) (vs1 : Nat → RegV) (hv : SlV) (C : Option Addr) (q ce : Nat) (ts : List Int), gh = nn - k ∧ k ≤ nn ∧ okv = .bool (okToks last ts && chkT m i) ∧ sv = .slice C q ce ∧ kv = .int .u64 (k : Nat) ∧ (hs, rr) = rh.hos k ∧ vs1 i = ⟨hv, ⟨none, 0, 0⟩⟩ ∧ (∀ j, j ≠ i → vs1 j = vs j) ∧ q = ts.length ∧ q ≤ 255 * i + k ∧ ts = toksT m i ++ hs.map HoldM.t ∧ hv.n = hs.length ∧ hv.n ≤ k ∧
        St M0 wr (tabB g now last vs1 :: ownR holdC 91 4 (.slice hv.a hv.n hv.c) hs :: rdR gr rr :: rowR 33 1 (.slice C q ce) q (ts.map (.int .u64)) :: parT vs m i :: intsR .u8 v bs :: L))
      case atStart => exact ⟨0, [], rh, vs, ⟨none, 0, 0⟩, C, q, ce, ts, rfl, by omega, rfl, rfl, rfl, rfl, HVI0.out, fun _ _ => rfl, HQI.out, by omega, by rw [HTSI.out, ← HM.out]; simp, rfl, by show 0 ≤ 0; omega, H5.out⟩
      case round =>
        clear H5 HQI HTSI hq255
        clear C q ce ts
        obtain ⟨k, hs, rr, vs1, hv, C, q, ce, ts, hgk, hk, rfl, rfl, rfl, hrr, hvi, hoth, hq, hqk, hts, hnl0, hnk0, h⟩ := hrel
        obtain ⟨A, n, c⟩ := hv
        have hnl : n = hs.length := hnl0
        have hnk : n ≤ k := hnk0
        clear hnl0 hnk0
        have HG := hide hgk
        have HVI := hide hvi
        have HOT := hide hoth
        have HQ := hide hq
        have HTS := hide hts
        have HNL := hide hnl
        have HRR := hide hrr
        have okrr : rr.Ok := by
          have := OKR1.out.hos k
          rw [← hrr] at this
          exact this
        have OKK := hide okrr
        clear hgk hvi hoth hq hts hnl hrr okrr
        by_cases hlt : k < nn
        · have k0 : (0 : Int) ≤ (k : Int) := by omega
          have k1 : (k : Int) < (nn : Int) := by omega
          have H1 := hide (h.sub (L' := rdR gr rr :: tabB g now last vs1 :: ownR holdC 91 4 (.slice A n c) hs :: rowR 33 1 (.slice C q ce) q (ts.map (.int .u64)) :: parT vs m i :: intsR .u8 v bs :: L) (by (repeat (first | with_reducible exact Sub.refl _ | (with_reducible apply Sub.take; focus (repeat (first | with_reducible exact At.here | with_reducible apply At.there))) | with_reducible apply Sub.drop))))
          clear h
          have HR2 := hide (show (hs ++ [rr.ho.1], rr.ho.2) = rh.hos (k + 1) by
            show _ = ((rh.hos k).1 ++ [(rh.hos k).2.ho.1], (rh.hos k).2.ho.2)
            rw [← HRR.out])
          have b1 := Rd.num1_lt OKK.out
          have b2 := Rd.num1_lt (OKK.out.num 1)
          obtain ⟨zc, hzc⟩ : ∃ zc, zc = (rr.num 1).1 := ⟨_, rfl⟩
          obtain ⟨zm, hzm⟩ : ∃ zm, zm = ((rr.num 1).2.num 1).1 := ⟨_, rfl⟩
          obtain ⟨zt, hzt⟩ : ∃ zt, zt = (((rr.num 1).2.num 1).2.num 8).1 := ⟨_, rfl⟩
          obtain ⟨zu, hzu⟩ : ∃ zu, zu = ((((rr.num 1).2.num 1).2.num 8).2.num 8).1 := ⟨_, rfl⟩
          obtain ⟨ra, hra⟩ : ∃ ra, ra = (rr.num 1).2 := ⟨_, rfl⟩
          obtain ⟨rb, hrb⟩ : ∃ rb, rb = (ra.num 1).2 := ⟨_, rfl⟩
          obtain ⟨rc, hrc⟩ : ∃ rc, rc = (rb.num 8).2 := ⟨_, rfl⟩
          obtain ⟨rr2, hrr2⟩ : ∃ rr2, rr2 = (rc.num 8).2 := ⟨_, rfl⟩
          obtain ⟨z, hz⟩ : ∃ z : HoldM, z = ⟨zc, zm, zt, zu⟩ := ⟨_, rfl⟩
          have HHO := hide (show rr.ho = (z, rr2) by rw [hz, hrr2, hrc, hrb, hra, hzc, hzm, hzt, hzu]; rfl)
          rw [← hra] at hzm hzt hzu
          rw [← hrb] at hzt hzu
          rw [← hrc] at hzu
          rw [← hzc] at b1
          rw [← hra, ← hzm] at b2
          have wcv : IntKind.i64.wrap zc = zc := IntWalk.i64_in _ (by omega)
          have wmv : IntKind.i64.wrap zm = zm := IntWalk.i64_in _ (by omega)
          have OKa := hide (show ra.Ok by rw [hra]; exact OKK.out.num 1)
          have OKb := hide (show rb.Ok by rw [hrb]; exact OKa.out.num 1)
          have OKc := hide (show rc.Ok by rw [hrc]; exact OKb.out.num 8)
          have HZ := hide hz
          have Hzc := hide hzc
          have Hzm := hide hzm
          have Hzt := hide hzt
          have Hzu := hide hzu
          have Hra := hide hra
          have Hrb := hide hrb
          have Hrc := hide hrc
          have Hr2 := hide hrr2
          clear hz hzc hzm hzt hzu hra hrb hrc hrr2 b1 b2
          go_wp2_with fail
          refine (rdnum_st gr rr 1 _ OKK.out.hb OKK.out.hl OKK.out.hz H1.out).mono ?_
          rintro e w5 ⟨rfl, h6⟩
          rw [← Hzc.out]
          rw [← Hra.out] at h6
          have H6 := hide h6
          clear h6 H1
          go_wp2_with fail
          refine (rdnum_st gr ra 1 _ OKa.out.hb OKa.out.hl OKa.out.hz H6.out).mono ?_
          rintro e w6 ⟨rfl, h7⟩
          rw [← Hzm.out]
          rw [← Hrb.out] at h7
          have H7 := hide h7
          clear h7 H6
          go_wp2_with fail
          refine (rdnum_st gr rb 8 _ OKb.out.hb OKb.out.hl OKb.out.hz H7.out).mono ?_
          rintro e w7 ⟨rfl, h8⟩
          rw [← Hzt.out]
          rw [← Hrc.out] at h8
          have H8 := hide h8
          clear h8 H7
          go_wp2_with fail
          refine (rdnum_st gr rc 8 _ OKc.out.hb OKc.out.hl OKc.out.hz H8.out).mono ?_
          rintro e w8 ⟨rfl, h9⟩
          rw [← Hzu.out]
          rw [← Hr2.out] at h9
          have h10 := h9.alloc 91 #[.int .i64 zc, .int .i64 zm, .int .u64 zt, .int .u64 zu]
          generalize hy : w8.heap.size = y at h10
          have HY := hide hy
          have H10 := hide h10
          clear h9 h10 H8 Hzc Hzm Hzt Hzu Hra Hrb Hrc Hr2 OKa OKb OKc hy
          go_upto_region 12 with fail
          rw [HY.out]
          go_cut [6] (fun okv wx => okv = .bool ((okToks last ts && chkT m i) && tokB last ts zt) ∧ St M0 wx (blkR y 91 #[.int .i64 zc, .int .i64 zm, .int .u64 zt, .int .u64 zu] :: rdR gr rr2 :: tabB g now last vs1 :: ownR holdC 91 4 (.slice A n c) hs :: rowR 33 1 (.slice C q ce) q (ts.map (.int .u64)) :: parT vs m i :: intsR .u8 v bs :: L))
          case first =>
            obtain ⟨ob, hob⟩ : ∃ ob, (okToks last ts && chkT m i) = ob := ⟨_, rfl⟩
            rw [hob]
            obtain ⟨d1, hd1⟩ : ∃ d1, decide (0 < zt) = d1 := ⟨_, rfl⟩
            have hd1' : decide (zt > 0) = d1 := hd1
            obtain ⟨d2, hd2⟩ : ∃ d2, decide (zt ≤ last) = d2 := ⟨_, rfl⟩
            have y2 := (H10.out.blk 0 rfl).cell 2
            have b1 := (H10.out.blk 2 rfl).cell 1
            obtain ⟨d3, hd3⟩ : ∃ d3, ts.contains zt = d3 := ⟨_, rfl⟩
            have HB := hide (show tokB last ts zt = (d1 && d2 && !d3) by unfold tokB; rw [hd1, hd2, hd3])
            have HI := hide (fun nd => Ints.of_own ((H10.out.drewN nd).row 4 rfl))
            have HOB := hide hob
            clear hob
            cases ob
            case' true => cases d1
            case' true.true => cases d2
            case true.true.true =>
              cases d3
              all_goals
                go_wp2_with fail
                go_quiet ((go_at_call 107; exact Calls.quiet_of_same ((conU_any _ ts zt _ (HI.out _)).mono (fun e w' ⟨h1, h2⟩ => ⟨(by rw [h1, hd3] : e = .returned (.bool _)), h2⟩))))
                go_wp2_with fail
                go_meet
                exact ⟨by rw [HB.out, HOB.out]; rfl, H10.out.drewN _⟩
            all_goals
              go_wp2_with fail
              go_quiet (fail)
              go_wp2_with fail
              go_meet
              exact ⟨by rw [HB.out, HOB.out]; rfl, H10.out.drewN _⟩
          case rest =>
            clear H10 HY
            obtain ⟨hokv, h⟩ := hcut
            have ec : zc = z.c := by rw [HZ.out]
            have em : zm = z.m := by rw [HZ.out]
            have et : zt = z.t := by rw [HZ.out]
            have eu : zu = z.u := by rw [HZ.out]
            clear HZ
            subst ec
            subst em
            subst et
            subst eu
            rw [show ((okToks last ts && chkT m i) && tokB last ts z.t) = (okToks last (ts ++ [z.t]) && chkT m i) by
              rw [okToks_snoc]
              cases okToks last ts <;> cases chkT m i <;> cases tokB last ts z.t <;> rfl] at hokv
            subst hokv
            have HRN := hide (show (hs ++ [z], rr2) = rh.hos (k + 1) by
              have := HR2.out
              rw [HHO.out] at this
              exact this)
            clear HR2
            have HR2 := HRN
            clear HRN
            have HTH := hide (show (tabC now last vs1)[o]? = some (.slice A n c) by rw [HO.out]; refine (tabC_h now last vs1 hi4).trans ?_; rw [HVI.out])
            have y2 := (h.blk 0 rfl).cell 2
            have h5 := ((h.front (X := rowR 33 1 (.slice C q ce) q (ts.map (.int .u64))) (by (repeat (first | with_reducible exact At.here | with_reducible apply At.there)))).alloc 33 #[.int .u64 z.t]).swap
            have HB := hide (h5.blk 1 rfl)
            have y2 : (wc.alloc (.cells #[.int .u64 z.t] 33)).cell? ⟨y, 2, none⟩ = some (.int .u64 z.t) := (h5.blk 2 rfl).cell 2
            have H5 := hide h5
            have y2 : wc.cell? ⟨y, 2, none⟩ = some (.int .u64 z.t) := (h.blk 0 rfl).cell 2
            clear h h5
            have HNK := hide hnk
            have HQK := hide hqk
            go_wp2_with (at_builtin; refine St.app_step u64_row H5.out rfl _ _ rfl rfl (some ⟨wc.heap.size, 0, none⟩) 1 1 rfl [.int .u64 z.t] (sl_blkT (cs := [.int .u64 z.t]) HB.out) (by intro u hu; simp at hu; subst hu; rfl) (by have := HQK.out; omega) (by have := HQK.out; omega) ?_; intro C6 c6 w9 h11)
            rw [show ts.map (Value.int .u64) ++ [.int .u64 z.t] = (ts ++ [z.t]).map (.int .u64) by rw [List.map_append]; rfl] at h11
            have h0 : St M0 w9 (tabB g now last vs1 :: blkR y 91 #[.int .i64 z.c, .int .i64 z.m, .int .u64 z.t, .int .u64 z.u] :: ownR holdC 91 4 (.slice A n c) hs :: rdR gr rr2 :: rowR 33 1 (.slice C6 (q + 1) c6) (q + 1) ((ts ++ [z.t]).map (.int .u64)) :: parT vs m i :: intsR .u8 v bs :: L) := h11.sub (by (repeat (first | with_reducible exact Sub.refl _ | (with_reducible apply Sub.take; focus (repeat (first | with_reducible exact At.here | with_reducible apply At.there))) | with_reducible apply Sub.drop)))
            clear h11 H5 HB y2
            refine region_flow (M0 := M0) (L0 := rdR gr rr2 :: rowR 33 1 (.slice C6 (q + 1) c6) (q + 1) ((ts ++ [z.t]).map (.int .u64)) :: parT vs m i :: intsR .u8 v bs :: L) [⟨none, some 10, fun e => tabB g now last vs1⟩, ⟨none, none, fun e => blkR y 91 #[.int .i64 z.c, .int .i64 z.m, .int .u64 z.t, .int .u64 z.u]⟩, ⟨none, some 7, fun e => ownR holdC 91 4 (.slice A n c) hs⟩, ⟨some 6, none, fun e => blkR (e 6).n 91 #[.int .i64 z.c, .int .i64 z.m, .int .u64 z.t, .int .u64 z.u]⟩, ⟨some 7, none, fun e => ownR holdC 91 4 (.slice (e 7).A (n + 1) (e 7).n) (hs ++ [z])⟩, ⟨some 10, none, fun e => tabB g now last (upd vs1 i ⟨⟨(e 7).A, n + 1, (e 7).n⟩, (vs1 i).w⟩)⟩] [[], [], [1], [1, 2], [1, 2, 3], [], [5], [1, 2, 3, 4, 5, 6], [0, 1, 2, 3, 4, 5, 6, 7], [0, 1, 2, 3, 4, 5, 6, 7, 8], [0, 1, 2, 3, 4, 5, 6, 7, 8, 9]] [0, 1, 2, 3, 4, 5, 6, 7, 8, 9, 10] rfl (by kernel_rfl) (by kernel_rfl) (by kernel_rfl) (by rfl) (fun _ => rfl) (show St M0 _ (tabB g now last vs1 :: blkR y 91 #[.int .i64 z.c, .int .i64 z.m, .int .u64 z.t, .int .u64 z.u] :: ownR holdC 91 4 (.slice A n c) hs :: rdR gr rr2 :: rowR 33 1 (.slice C6 (q + 1) c6) (q + 1) ((ts ++ [z.t]).map (.int .u64)) :: parT vs m i :: intsR .u8 v bs :: L) from h0) ?_
            refine flow_run _ rfl (fun _ => rfl) (fun e wx Lx h => by (go_simp; try rfl)) (by intro e; rfl) (by intro e; rfl) (by intro e x; rfl) ?_
            (simp only [Act.put, List.setIfInBounds_toArray, List.set_cons_succ, List.set_cons_zero])
            refine flow_run _ rfl (fun _ => rfl) (fun e wx Lx h => by (go_simp; try rfl)) (by intro e; rfl) (by intro e; rfl) (by intro e x; rfl) ?_
            (simp only [Act.put, List.setIfInBounds_toArray, List.set_cons_succ, List.set_cons_zero])
            refine flow_run _ rfl (fun _ => rfl) (fun e wx Lx h => by (go_simp; try rfl)) (by intro e; rfl) (by intro e; rfl) (by intro e x; rfl) ?_
            (simp only [Act.put, List.setIfInBounds_toArray, List.set_cons_succ, List.set_cons_zero])
            refine flow_run _ rfl (fun _ => rfl) (fun e wx Lx h => by (go_simp; try rfl)) (by intro e; rfl) (by intro e; rfl) (by intro e x; rfl) ?_
            (simp only [Act.put, List.setIfInBounds_toArray, List.set_cons_succ, List.set_cons_zero])
            refine flow_run _ rfl (fun _ => rfl) (fun e wx Lx h => by (have h : St M0 wx (tabB g now last vs1 :: blkR y 91 #[.int .i64 z.c, .int .i64 z.m, .int .u64 z.t, .int .u64 z.u] :: ownR holdC 91 4 (.slice A n c) hs :: Lx) := h; have bo : wx.cell? ⟨g, o, none⟩ = some (.slice A n c) := ((h.blkA (g := g) (t := 79) (cs := tabC now last vs1) (by (repeat (first | with_reducible exact At.here | with_reducible apply At.there)))).cell o).trans HTH.out; have y0 := (h.blkA (g := y) (t := 91) (cs := #[.int .i64 z.c, .int .i64 z.m, .int .u64 z.t, .int .u64 z.u]) (by (repeat (first | with_reducible exact At.here | with_reducible apply At.there)))).cell 0; have y1 := (h.blkA (g := y) (t := 91) (cs := #[.int .i64 z.c, .int .i64 z.m, .int .u64 z.t, .int .u64 z.u]) (by (repeat (first | with_reducible exact At.here | with_reducible apply At.there)))).cell 1; have y2 := (h.blkA (g := y) (t := 91) (cs := #[.int .i64 z.c, .int .i64 z.m, .int .u64 z.t, .int .u64 z.u]) (by (repeat (first | with_reducible exact At.here | with_reducible apply At.there)))).cell 2; have y3 := (h.blkA (g := y) (t := 91) (cs := #[.int .i64 z.c, .int .i64 z.m, .int .u64 z.t, .int .u64 z.u]) (by (repeat (first | with_reducible exact At.here | with_reducible apply At.there)))).cell 3; go_simp; try rfl)) (by intro e; rfl) (by intro e; rfl) (by intro e x; rfl) ?_
            (simp only [Act.put, List.setIfInBounds_toArray, List.set_cons_succ, List.set_cons_zero])
            refine flow_run _ rfl (fun _ => rfl) (fun e wx Lx h => by (have h : St M0 wx (tabB g now last vs1 :: blkR y 91 #[.int .i64 z.c, .int .i64 z.m, .int .u64 z.t, .int .u64 z.u] :: ownR holdC 91 4 (.slice A n c) hs :: Lx) := h; have bo : wx.cell? ⟨g, o, none⟩ = some (.slice A n c) := ((h.blkA (g := g) (t := 79) (cs := tabC now last vs1) (by (repeat (first | with_reducible exact At.here | with_reducible apply At.there)))).cell o).trans HTH.out; have y0 := (h.blkA (g := y) (t := 91) (cs := #[.int .i64 z.c, .int .i64 z.m, .int .u64 z.t, .int .u64 z.u]) (by (repeat (first | with_reducible exact At.here | with_reducible apply At.there)))).cell 0; have y1 := (h.blkA (g := y) (t := 91) (cs := #[.int .i64 z.c, .int .i64 z.m, .int .u64 z.t, .int .u64 z.u]) (by (repeat (first | with_reducible exact At.here | with_reducible apply At.there)))).cell 1; have y2 := (h.blkA (g := y) (t := 91) (cs := #[.int .i64 z.c, .int .i64 z.m, .int .u64 z.t, .int .u64 z.u]) (by (repeat (first | with_reducible exact At.here | with_reducible apply At.there)))).cell 2; have y3 := (h.blkA (g := y) (t := 91) (cs := #[.int .i64 z.c, .int .i64 z.m, .int .u64 z.t, .int .u64 z.u]) (by (repeat (first | with_reducible exact At.here | with_reducible apply At.there)))).cell 3; go_simp; try rfl)) (by intro e; rfl) (by intro e; rfl) (by intro e x; rfl) ?_
            (simp only [Act.put, List.setIfInBounds_toArray, List.set_cons_succ, List.set_cons_zero])
            refine flow_do (fun e => .slice (some ⟨(e 6).n, 0, none⟩) 1 1) rfl (fun _ => rfl) (by intro e; rfl) (fun e wx Lx h => by (
              have h : St M0 wx (tabB g now last vs1 :: blkR y 91 #[.int .i64 z.c, .int .i64 z.m, .int .u64 z.t, .int .u64 z.u] :: ownR holdC 91 4 (.slice A n c) hs :: Lx) := h
              have hk : St M0 _ (tabB g now last vs1 :: blkR y 91 #[.int .i64 z.c, .int .i64 z.m, .int .u64 z.t, .int .u64 z.u] :: ownR holdC 91 4 (.slice A n c) hs :: blkR wx.heap.size 91 #[.int .i64 z.c, .int .i64 z.m, .int .u64 z.t, .int .u64 z.u] :: Lx) := (h.alloc 91 #[.int .i64 z.c, .int .i64 z.m, .int .u64 z.t, .int .u64 z.u]).sub (by (repeat (first | with_reducible exact Sub.refl _ | (with_reducible apply Sub.take; focus (repeat (first | with_reducible exact At.here | with_reducible apply At.there))) | with_reducible apply Sub.drop)))
              exact ⟨⟨none, wx.heap.size, default⟩, _, exec_buildSlice1 rfl rfl (hold_build _ _ _ _ _), hk⟩)) ?_
            (simp only [Act.put, List.setIfInBounds_toArray, List.set_cons_succ, List.set_cons_zero])
            refine flow_do (fun e => .slice (e 7).A (n + 1) (e 7).n) rfl (fun _ => rfl) (by intro e; rfl) (fun e wx Lx h => by (
              have h : St M0 wx (tabB g now last vs1 :: blkR y 91 #[.int .i64 z.c, .int .i64 z.m, .int .u64 z.t, .int .u64 z.u] :: ownR holdC 91 4 (.slice A n c) hs :: blkR (e 6).n 91 #[.int .i64 z.c, .int .i64 z.m, .int .u64 z.t, .int .u64 z.u] :: Lx) := h
              have hz := sl_blkT (cs := [.int .i64 z.c, .int .i64 z.m, .int .u64 z.t, .int .u64 z.u]) (h.blkA (g := (e 6).n) (t := 91) (cs := #[.int .i64 z.c, .int .i64 z.m, .int .u64 z.t, .int .u64 z.u]) (by (repeat (first | with_reducible exact At.here | with_reducible apply At.there))))
              obtain ⟨A', c', w', hr, h2⟩ := (h.front (X := ownR holdC 91 4 (.slice A n c) hs) (by (repeat (first | with_reducible exact At.here | with_reducible apply At.there)))).own1 hold_elem _ ⟨(e 6).n, 0, none⟩ 1 z hz (hold_one z) rfl (by omega) (by omega)
              have hk : St M0 _ (tabB g now last vs1 :: blkR y 91 #[.int .i64 z.c, .int .i64 z.m, .int .u64 z.t, .int .u64 z.u] :: blkR (e 6).n 91 #[.int .i64 z.c, .int .i64 z.m, .int .u64 z.t, .int .u64 z.u] :: ownR holdC 91 4 (.slice A' (n + 1) c') (hs ++ [z]) :: Lx) := h2.sub (by (repeat (first | with_reducible exact Sub.refl _ | (with_reducible apply Sub.take; focus (repeat (first | with_reducible exact At.here | with_reducible apply At.there))) | with_reducible apply Sub.drop)))
              exact ⟨⟨A', c', default⟩, _, exec_append rfl rfl rfl hr, hk⟩)) ?_
            (simp only [Act.put, List.setIfInBounds_toArray, List.set_cons_succ, List.set_cons_zero])
            refine flow_run _ rfl (fun _ => rfl) (fun e wx Lx h => by (go_simp; try rfl)) (by intro e; rfl) (by intro e; rfl) (by intro e x; rfl) ?_
            (simp only [Act.put, List.setIfInBounds_toArray, List.set_cons_succ, List.set_cons_zero])
            refine flow_run _ rfl (fun _ => rfl) (fun e wx Lx h => by (go_simp; try rfl)) (by intro e; rfl) (by intro e; rfl) (by intro e x; rfl) ?_
            (simp only [Act.put, List.setIfInBounds_toArray, List.set_cons_succ, List.set_cons_zero])
            refine flow_store _ _ _ (fun e => .pointer (some ⟨g, o, none⟩)) (fun e => .slice (e 7).A (n + 1) (e 7).n) rfl (fun _ => rfl) rfl (fun _ => rfl) (fun _ => rfl) (fun e wx Lx h => by (
              have h : St M0 wx (tabB g now last vs1 :: blkR y 91 #[.int .i64 z.c, .int .i64 z.m, .int .u64 z.t, .int .u64 z.u] :: blkR (e 6).n 91 #[.int .i64 z.c, .int .i64 z.m, .int .u64 z.t, .int .u64 z.u] :: ownR holdC 91 4 (.slice (e 7).A (n + 1) (e 7).n) (hs ++ [z]) :: Lx) := h
              have bo : wx.cell? ⟨g, o, none⟩ = some (.slice A n c) := ((h.blkA (g := g) (t := 79) (cs := tabC now last vs1) (by (repeat (first | with_reducible exact At.here | with_reducible apply At.there)))).cell o).trans HTH.out
              have f := (h.blkA (g := g) (t := 79) (cs := tabC now last vs1) (by (repeat (first | with_reducible exact At.here | with_reducible apply At.there)))).frozen
              have h1 := (h.front (X := tabB g now last vs1) (by (repeat (first | with_reducible exact At.here | with_reducible apply At.there)))).put_ o (.slice (e 7).A (n + 1) (e 7).n) (tabC now last (upd vs1 i ⟨⟨(e 7).A, n + 1, (e 7).n⟩, (vs1 i).w⟩)) (by rw [HO.out]; exact tabC_seth now last vs1 hi4 ⟨(e 7).A, n + 1, (e 7).n⟩)
              have hk : St M0 _ (blkR y 91 #[.int .i64 z.c, .int .i64 z.m, .int .u64 z.t, .int .u64 z.u] :: blkR (e 6).n 91 #[.int .i64 z.c, .int .i64 z.m, .int .u64 z.t, .int .u64 z.u] :: ownR holdC 91 4 (.slice (e 7).A (n + 1) (e 7).n) (hs ++ [z]) :: tabB g now last (upd vs1 i ⟨⟨(e 7).A, n + 1, (e 7).n⟩, (vs1 i).w⟩) :: Lx) := h1.sub (by (repeat (first | with_reducible exact Sub.refl _ | (with_reducible apply Sub.take; focus (repeat (first | with_reducible exact At.here | with_reducible apply At.there))) | with_reducible apply Sub.drop)))
              exact ⟨_, (by (go_simp; try rfl)), hk⟩)) ?_
            simp only [Act.put]
            refine flow_nil ?_
            intro e w1 h
            have h : St M0 w1 (blkR y 91 #[.int .i64 z.c, .int .i64 z.m, .int .u64 z.t, .int .u64 z.u] :: blkR (e 6).n 91 #[.int .i64 z.c, .int .i64 z.m, .int .u64 z.t, .int .u64 z.u] :: ownR holdC 91 4 (.slice (e 7).A (n + 1) (e 7).n) (hs ++ [z]) :: tabB g now last (upd vs1 i ⟨⟨(e 7).A, n + 1, (e 7).n⟩, (vs1 i).w⟩) :: rdR gr rr2 :: rowR 33 1 (.slice C6 (q + 1) c6) (q + 1) ((ts ++ [z.t]).map (.int .u64)) :: parT vs m i :: intsR .u8 v bs :: L) := h
            obtain ⟨A', hA'⟩ : ∃ A', (e 7).A = A' := ⟨_, rfl⟩
            obtain ⟨c', hc'⟩ : ∃ c', (e 7).n = c' := ⟨_, rfl⟩
            have h5 := h.sub (L' := tabB g now last (upd vs1 i ⟨⟨(e 7).A, n + 1, (e 7).n⟩, (vs1 i).w⟩) :: ownR holdC 91 4 (.slice (e 7).A (n + 1) (e 7).n) (hs ++ [z]) :: rdR gr rr2 :: rowR 33 1 (.slice C6 (q + 1) c6) (q + 1) ((ts ++ [z.t]).map (.int .u64)) :: parT vs m i :: intsR .u8 v bs :: L) (by (repeat (first | with_reducible exact Sub.refl _ | (with_reducible apply Sub.take; focus (repeat (first | with_reducible exact At.here | with_reducible apply At.there))) | with_reducible apply Sub.drop)))
            rw [hA', hc', show (vs1 i).w = ⟨none, 0, 0⟩ by rw [HVI.out]] at h5
            have H5 := hide h5
            clear h0 h h5 hA' hc'
            go_wp2_with fail
            go_roundg (nn - (k + 1))
            case measure => have := HG.out; omega
            case rel => exact ⟨k + 1, hs ++ [z], rr2, _, ⟨A', n + 1, c'⟩, C6, q + 1, c6, ts ++ [z.t], rfl, by omega, rfl, rfl, by go_num, HR2.out, updT_same _ _ _, fun j hj => by rw [updT_ne _ _ hj]; exact HOT.out j hj, by rw [List.length_append]; have := HQ.out; simp; omega, by omega, by rw [HTS.out]; simp, by show n + 1 = _; rw [List.length_append, ← HNL.out]; rfl, by show n + 1 ≤ k + 1; omega, H5.out⟩
        · obtain rfl : nn = k := by omega
          have HG2 := hide (HG2.out.trans HRR.out.symm)
          have H1 := hide (h.sub (L' := rdR gr rr :: tabB g now last vs1 :: ownR holdC 91 4 (.slice A n c) hs :: rowR 33 1 (.slice C q ce) q (ts.map (.int .u64)) :: parT vs m i :: intsR .u8 v bs :: L) (by (repeat (first | with_reducible exact Sub.refl _ | (with_reducible apply Sub.take; focus (repeat (first | with_reducible exact At.here | with_reducible apply At.there))) | with_reducible apply Sub.drop))))
          clear h HG HRR
          go_wp2_with fail
          refine (rdnum_st gr rr 1 _ OKK.out.hb OKK.out.hl OKK.out.hz H1.out).mono ?_
          rintro e w5 ⟨rfl, h6⟩
          have hn1 := Rd.num1_lt OKK.out
          obtain ⟨nm, hnm⟩ := Int.eq_ofNat_of_zero_le hn1.1
          rw [hnm] at hn1 ⊢
          have OKW := hide (OKK.out.num 1)
          obtain ⟨rv, hrv⟩ : ∃ rv, rv = (rr.num 1).2 := ⟨_, rfl⟩
          rw [← hrv] at h6 OKW
          have HG4 := hide (show ri.g4 = rv.wos nm by unfold Rd.g4 Rd.g3; rw [HG2.out]; show Rd.wos (rr.num 1).2 (rr.num 1).1.toNat = _; rw [hnm, Int.toNat_natCast, ← hrv])
          have HLH := hide (show ri.g2.1 = hs by rw [HG2.out])
          have hnm255 : nm ≤ 255 := by have := hn1.2; omega
          have H6 := hide (show St M0 w5 (tabB g now last vs1 :: ownR wantC 87 2 (.slice none 0 0) [] :: rdR gr rv :: ownR holdC 91 4 (.slice A n c) hs :: rowR 33 1 (.slice C q ce) q (ts.map (.int .u64)) :: parT vs m i :: intsR .u8 v bs :: L) from (h6.ownNil wantC 87 2).sub (by (repeat (first | with_reducible exact Sub.refl _ | (with_reducible apply Sub.take; focus (repeat (first | with_reducible exact At.here | with_reducible apply At.there))) | with_reducible apply Sub.drop))))
          obtain ⟨nh, hnh⟩ : ∃ nh, nh = n := ⟨_, rfl⟩
          rw [← hnh] at H6 HVI
          clear h6 H1 hnm hn1 hrv hnh
          go_wp2_with fail
          go_loopg [83] nm (fun gh kv wr => ∃ (k : Nat) (ws : List WantM) (rw : Rd) (vs2 : Nat → RegV) (D : Option Addr) (n d : Nat), gh = nm - k ∧ k ≤ nm ∧ kv = .int .u64 (k : Nat) ∧ (ws, rw) = rv.wos k ∧ vs2 i = ⟨⟨A, nh, c⟩, ⟨D, n, d⟩⟩ ∧ (∀ j, j ≠ i → vs2 j = vs j) ∧ n = ws.length ∧ n ≤ k ∧
            St M0 wr (tabB g now last vs2 :: ownR wantC 87 2 (.slice D n d) ws :: rdR gr rw :: ownR holdC 91 4 (.slice A nh c) hs :: rowR 33 1 (.slice C q ce) q (ts.map (.int .u64)) :: parT vs m i :: intsR .u8 v bs :: L))
          case atStart => exact ⟨0, [], rv, vs1, none, 0, 0, rfl, by omega, rfl, rfl, HVI.out, HOT.out, rfl, by omega, H6.out⟩
          case round =>
            clear H6 HVI HOT HNL OKK HG2 hnk
            obtain ⟨k, ws, rw, vs2, D, n, d, hgk, hk, rfl, hrw, hvi, hoth, hnl, hnk, h⟩ := hrel
            have HG := hide hgk
            have HVI := hide hvi
            have HOT := hide hoth
            have HNL := hide hnl
            have HRW := hide hrw
            have okrw : rw.Ok := by
              have := OKW.out.wos k
              rw [← hrw] at this
              exact this
            have OK := hide okrw
            have OK1 := hide (okrw.num 1)
            clear hgk hvi hoth hnl hrw okrw
            by_cases hlt : k < nm
            · have k0 : (0 : Int) ≤ (k : Int) := by omega
              have k1 : (k : Int) < (nm : Int) := by omega
              have HR2 := hide (show (ws ++ [rw.wo.1], rw.wo.2) = rv.wos (k + 1) by
                show _ = ((rv.wos k).1 ++ [(rv.wos k).2.wo.1], (rv.wos k).2.wo.2)
                rw [← HRW.out])
              have b1 := Rd.num1_lt OK.out
              have b2 := Rd.num1_lt OK1.out
              obtain ⟨zc, hzc⟩ : ∃ zc, (rw.num 1).1 = zc := ⟨_, rfl⟩
              obtain ⟨zm, hzm⟩ : ∃ zm, ((rw.num 1).2.num 1).1 = zm := ⟨_, rfl⟩
              rw [hzc] at b1
              rw [hzm] at b2
              have HRN := hide (show (ws ++ [⟨zc, zm⟩], ((rw.num 1).2.num 1).2) = rv.wos (k + 1) by
                rw [← HR2.out, ← hzc, ← hzm]
                rfl)
              clear HR2
              have HR2 := HRN
              clear HRN
              have HZC := hide hzc
              have HZM := hide hzm
              have wc1 : IntKind.i64.wrap zc = zc := IntWalk.i64_in _ (by omega)
              have wm1 : IntKind.i64.wrap zm = zm := IntWalk.i64_in _ (by omega)
              have HTW := hide (show (tabC now last vs2)[o + 1]? = some (.slice D n d) by rw [HO.out]; refine (tabC_w now last vs2 hi4).trans ?_; rw [HVI.out])
              have HH := hide h
              clear h hzc hzm b1 b2
              go_wp2_with fail
              have h0 := HH.out.sub (L' := tabB g now last vs2 :: rdR gr rw :: ownR wantC 87 2 (.slice D n d) ws :: ownR holdC 91 4 (.slice A nh c) hs :: rowR 33 1 (.slice C q ce) q (ts.map (.int .u64)) :: parT vs m i :: intsR .u8 v bs :: L) (by (repeat (first | with_reducible exact Sub.refl _ | (with_reducible apply Sub.take; focus (repeat (first | with_reducible exact At.here | with_reducible apply At.there))) | with_reducible apply Sub.drop)))
              clear HH
              refine region_flow (M0 := M0) (L0 := ownR holdC 91 4 (.slice A nh c) hs :: rowR 33 1 (.slice C q ce) q (ts.map (.int .u64)) :: parT vs m i :: intsR .u8 v bs :: L) [⟨none, some 16, fun e => tabB g now last vs2⟩, ⟨none, some 6, fun e => rdR gr rw⟩, ⟨some 6, some 9, fun e => rdR gr (rw.num 1).2⟩, ⟨some 9, none, fun e => rdR gr ((rw.num 1).2.num 1).2⟩, ⟨none, some 13, fun e => ownR wantC 87 2 (.slice D n d) ws⟩, ⟨some 12, none, fun e => blkR (e 12).n 87 #[.int .i64 zc, .int .i64 zm]⟩, ⟨some 13, none, fun e => ownR wantC 87 2 (.slice (e 13).A (n + 1) (e 13).n) (ws ++ [⟨zc, zm⟩])⟩, ⟨some 16, none, fun e => tabB g now last (upd vs2 i ⟨(vs2 i).h, ⟨(e 13).A, n + 1, (e 13).n⟩⟩)⟩] [[], [], [1], [1, 2], [1, 2, 3], [], [5], [5, 6], [], [5, 6, 8], [5, 6, 8, 9], [5, 6, 7, 8, 9, 10], [5, 6, 7, 8, 9, 10, 11], [1, 2, 3, 4, 5, 6, 7, 8, 9, 10, 11, 12], [0, 1, 2, 3, 4, 5, 6, 7, 8, 9, 10, 11, 12, 13], [0, 1, 2, 3, 4, 5, 6, 7, 8, 9, 10, 11, 12, 13, 14], [0, 1, 2, 3, 4, 5, 6, 7, 8, 9, 10, 11, 12, 13, 14, 15]] [0, 1, 2, 3, 4, 5, 6, 7, 8, 9, 10, 11, 12, 13, 14, 15, 16] rfl (by kernel_rfl) (by kernel_rfl) (by kernel_rfl) (by rfl) (fun _ => rfl) (show St M0 _ (tabB g now last vs2 :: rdR gr rw :: ownR wantC 87 2 (.slice D n d) ws :: ownR holdC 91 4 (.slice A nh c) hs :: rowR 33 1 (.slice C q ce) q (ts.map (.int .u64)) :: parT vs m i :: intsR .u8 v bs :: L) from h0) ?_
              refine flow_run _ rfl (fun _ => rfl) (fun e wx Lx h => by (go_simp; try rfl)) (by intro e; rfl) (by intro e; rfl) (by intro e x; rfl) ?_
              (simp only [Act.put, List.setIfInBounds_toArray, List.set_cons_succ, List.set_cons_zero])
              refine flow_run _ rfl (fun _ => rfl) (fun e wx Lx h => by (go_simp; try rfl)) (by intro e; rfl) (by intro e; rfl) (by intro e x; rfl) ?_
              (simp only [Act.put, List.setIfInBounds_toArray, List.set_cons_succ, List.set_cons_zero])
              refine flow_run _ rfl (fun _ => rfl) (fun e wx Lx h => by (go_simp; try rfl)) (by intro e; rfl) (by intro e; rfl) (by intro e x; rfl) ?_
              (simp only [Act.put, List.setIfInBounds_toArray, List.set_cons_succ, List.set_cons_zero])
              refine flow_run _ rfl (fun _ => rfl) (fun e wx Lx h => by (go_simp; try rfl)) (by intro e; rfl) (by intro e; rfl) (by intro e x; rfl) ?_
              (simp only [Act.put, List.setIfInBounds_toArray, List.set_cons_succ, List.set_cons_zero])
              refine flow_run _ rfl (fun _ => rfl) (fun e wx Lx h => by (have h : St M0 wx (tabB g now last vs2 :: ownR wantC 87 2 (.slice D n d) ws :: Lx) := h; have bo : wx.cell? ⟨g, o + 1, none⟩ = some (.slice D n d) := ((h.blkA (g := g) (t := 79) (cs := tabC now last vs2) (by (repeat (first | with_reducible exact At.here | with_reducible apply At.there)))).cell (o + 1)).trans HTW.out; go_simp; try rfl)) (by intro e; rfl) (by intro e; rfl) (by intro e x; rfl) ?_
              (simp only [Act.put, List.setIfInBounds_toArray, List.set_cons_succ, List.set_cons_zero])
              refine flow_run _ rfl (fun _ => rfl) (fun e wx Lx h => by (go_simp; try rfl)) (by intro e; rfl) (by intro e; rfl) (by intro e x; rfl) ?_
              (simp only [Act.put, List.setIfInBounds_toArray, List.set_cons_succ, List.set_cons_zero])
              refine flow_call 106 (fun e => #[.pointer (some ⟨gr, 0, none⟩), .int .i64 1]) (fun e => .int .u64 zc) rfl (fun _ => rfl) (by intro e; rfl) (fun e wx => by (go_simp; try rfl)) (fun e wx Lx h => by (
                have h : St M0 wx (tabB g now last vs2 :: rdR gr rw :: ownR wantC 87 2 (.slice D n d) ws :: Lx) := h
                refine (rdnum_st gr rw 1 _ OK.out.hb OK.out.hl OK.out.hz (h.front (X := rdR gr rw) (by (repeat (first | with_reducible exact At.here | with_reducible apply At.there))))).mono ?_
                rintro u wy ⟨rfl, h1⟩
                have hk : St M0 wy (tabB g now last vs2 :: rdR gr (rw.num 1).2 :: ownR wantC 87 2 (.slice D n d) ws :: Lx) := h1.sub (by (repeat (first | with_reducible exact Sub.refl _ | (with_reducible apply Sub.take; focus (repeat (first | with_reducible exact At.here | with_reducible apply At.there))) | with_reducible apply Sub.drop)))
                exact ⟨⟨none, 0, default⟩, (by rw [HZC.out]), hk⟩)) ?_
              (simp only [Act.put, List.setIfInBounds_toArray, List.set_cons_succ, List.set_cons_zero])
              refine flow_run (fun e => .int .i64 zc) rfl (fun _ => rfl) (fun e wx Lx h => by (go_simp; try rfl)) (by intro e; rfl) (by intro e; rfl) (by intro e x; rfl) ?_
              (simp only [Act.put, List.setIfInBounds_toArray, List.set_cons_succ, List.set_cons_zero])
              refine flow_run _ rfl (fun _ => rfl) (fun e wx Lx h => by (go_simp; try rfl)) (by intro e; rfl) (by intro e; rfl) (by intro e x; rfl) ?_
              (simp only [Act.put, List.setIfInBounds_toArray, List.set_cons_succ, List.set_cons_zero])
              refine flow_call 106 (fun e => #[.pointer (some ⟨gr, 0, none⟩), .int .i64 1]) (fun e => .int .u64 zm) rfl (fun _ => rfl) (by intro e; rfl) (fun e wx => by (go_simp; try rfl)) (fun e wx Lx h => by (
                have h : St M0 wx (tabB g now last vs2 :: rdR gr (rw.num 1).2 :: ownR wantC 87 2 (.slice D n d) ws :: Lx) := h
                refine (rdnum_st gr (rw.num 1).2 1 _ OK1.out.hb OK1.out.hl OK1.out.hz (h.front (X := rdR gr (rw.num 1).2) (by (repeat (first | with_reducible exact At.here | with_reducible apply At.there))))).mono ?_
                rintro u wy ⟨rfl, h1⟩
                have hk : St M0 wy (tabB g now last vs2 :: rdR gr ((rw.num 1).2.num 1).2 :: ownR wantC 87 2 (.slice D n d) ws :: Lx) := h1.sub (by (repeat (first | with_reducible exact Sub.refl _ | (with_reducible apply Sub.take; focus (repeat (first | with_reducible exact At.here | with_reducible apply At.there))) | with_reducible apply Sub.drop)))
                exact ⟨⟨none, 0, default⟩, (by rw [HZM.out]), hk⟩)) ?_
              (simp only [Act.put, List.setIfInBounds_toArray, List.set_cons_succ, List.set_cons_zero])
              refine flow_run (fun e => .int .i64 zm) rfl (fun _ => rfl) (fun e wx Lx h => by (go_simp; try rfl)) (by intro e; rfl) (by intro e; rfl) (by intro e x; rfl) ?_
              (simp only [Act.put, List.setIfInBounds_toArray, List.set_cons_succ, List.set_cons_zero])
              refine flow_run _ rfl (fun _ => rfl) (fun e wx Lx h => by (go_simp; try rfl)) (by intro e; rfl) (by intro e; rfl) (by intro e x; rfl) ?_
              (simp only [Act.put, List.setIfInBounds_toArray, List.set_cons_succ, List.set_cons_zero])
              refine flow_do (fun e => .slice (some ⟨(e 12).n, 0, none⟩) 1 1) rfl (fun _ => rfl) (by intro e; rfl) (fun e wx Lx h => by (
                have h : St M0 wx (tabB g now last vs2 :: rdR gr ((rw.num 1).2.num 1).2 :: ownR wantC 87 2 (.slice D n d) ws :: Lx) := h
                have hk : St M0 _ (tabB g now last vs2 :: rdR gr ((rw.num 1).2.num 1).2 :: ownR wantC 87 2 (.slice D n d) ws :: blkR wx.heap.size 87 #[.int .i64 zc, .int .i64 zm] :: Lx) := (h.alloc 87 #[.int .i64 zc, .int .i64 zm]).sub (by (repeat (first | with_reducible exact Sub.refl _ | (with_reducible apply Sub.take; focus (repeat (first | with_reducible exact At.here | with_reducible apply At.there))) | with_reducible apply Sub.drop)))
                exact ⟨⟨none, wx.heap.size, default⟩, _, exec_buildSlice1 rfl rfl (want_build _ _ _), hk⟩)) ?_
              (simp only [Act.put, List.setIfInBounds_toArray, List.set_cons_succ, List.set_cons_zero])
              refine flow_do (fun e => .slice (e 13).A (n + 1) (e 13).n) rfl (fun _ => rfl) (by intro e; rfl) (fun e wx Lx h => by (
                have h : St M0 wx (tabB g now last vs2 :: rdR gr ((rw.num 1).2.num 1).2 :: ownR wantC 87 2 (.slice D n d) ws :: blkR (e 12).n 87 #[.int .i64 zc, .int .i64 zm] :: Lx) := h
                have hz := sl_blkT (cs := [.int .i64 zc, .int .i64 zm]) (h.blkA (g := (e 12).n) (t := 87) (cs := #[.int .i64 zc, .int .i64 zm]) (by (repeat (first | with_reducible exact At.here | with_reducible apply At.there))))
                obtain ⟨A', c', w', hr, h2⟩ := (h.front (X := ownR wantC 87 2 (.slice D n d) ws) (by (repeat (first | with_reducible exact At.here | with_reducible apply At.there)))).own1 want_elem _ ⟨(e 12).n, 0, none⟩ 1 ⟨zc, zm⟩ hz (want_one ⟨zc, zm⟩) rfl (by omega) (by omega)
                have hk : St M0 _ (tabB g now last vs2 :: rdR gr ((rw.num 1).2.num 1).2 :: blkR (e 12).n 87 #[.int .i64 zc, .int .i64 zm] :: ownR wantC 87 2 (.slice A' (n + 1) c') (ws ++ [⟨zc, zm⟩]) :: Lx) := h2.sub (by (repeat (first | with_reducible exact Sub.refl _ | (with_reducible apply Sub.take; focus (repeat (first | with_reducible exact At.here | with_reducible apply At.there))) | with_reducible apply Sub.drop)))
                exact ⟨⟨A', c', default⟩, _, exec_append rfl rfl rfl hr, hk⟩)) ?_
              (simp only [Act.put, List.setIfInBounds_toArray, List.set_cons_succ, List.set_cons_zero])
              refine flow_run _ rfl (fun _ => rfl) (fun e wx Lx h => by (go_simp; try rfl)) (by intro e; rfl) (by intro e; rfl) (by intro e x; rfl) ?_
              (simp only [Act.put, List.setIfInBounds_toArray, List.set_cons_succ, List.set_cons_zero])
              refine flow_run _ rfl (fun _ => rfl) (fun e wx Lx h => by (go_simp; try rfl)) (by intro e; rfl) (by intro e; rfl) (by intro e x; rfl) ?_
              (simp only [Act.put, List.setIfInBounds_toArray, List.set_cons_succ, List.set_cons_zero])
              refine flow_store _ _ _ (fun e => .pointer (some ⟨g, o + 1, none⟩)) (fun e => .slice (e 13).A (n + 1) (e 13).n) rfl (fun _ => rfl) rfl (fun _ => rfl) (fun _ => rfl) (fun e wx Lx h => by (
                have h : St M0 wx (tabB g now last vs2 :: rdR gr ((rw.num 1).2.num 1).2 :: blkR (e 12).n 87 #[.int .i64 zc, .int .i64 zm] :: ownR wantC 87 2 (.slice (e 13).A (n + 1) (e 13).n) (ws ++ [⟨zc, zm⟩]) :: Lx) := h
                have bo : wx.cell? ⟨g, o + 1, none⟩ = some (.slice D n d) := ((h.blkA (g := g) (t := 79) (cs := tabC now last vs2) (by (repeat (first | with_reducible exact At.here | with_reducible apply At.there)))).cell (o + 1)).trans HTW.out
                have f := (h.blkA (g := g) (t := 79) (cs := tabC now last vs2) (by (repeat (first | with_reducible exact At.here | with_reducible apply At.there)))).frozen
                have h1 := (h.front (X := tabB g now last vs2) (by (repeat (first | with_reducible exact At.here | with_reducible apply At.there)))).put_ (o + 1) (.slice (e 13).A (n + 1) (e 13).n) (tabC now last (upd vs2 i ⟨(vs2 i).h, ⟨(e 13).A, n + 1, (e 13).n⟩⟩)) (by rw [HO.out]; exact tabC_setw now last vs2 hi4 ⟨(e 13).A, n + 1, (e 13).n⟩)
                have hk : St M0 _ (rdR gr ((rw.num 1).2.num 1).2 :: blkR (e 12).n 87 #[.int .i64 zc, .int .i64 zm] :: ownR wantC 87 2 (.slice (e 13).A (n + 1) (e 13).n) (ws ++ [⟨zc, zm⟩]) :: tabB g now last (upd vs2 i ⟨(vs2 i).h, ⟨(e 13).A, n + 1, (e 13).n⟩⟩) :: Lx) := h1.sub (by (repeat (first | with_reducible exact Sub.refl _ | (with_reducible apply Sub.take; focus (repeat (first | with_reducible exact At.here | with_reducible apply At.there))) | with_reducible apply Sub.drop)))
                exact ⟨_, (by (go_simp; try rfl)), hk⟩)) ?_
              simp only [Act.put]
              refine flow_nil ?_
              intro e w1 h
              have h : St M0 w1 (rdR gr ((rw.num 1).2.num 1).2 :: blkR (e 12).n 87 #[.int .i64 zc, .int .i64 zm] :: ownR wantC 87 2 (.slice (e 13).A (n + 1) (e 13).n) (ws ++ [⟨zc, zm⟩]) :: tabB g now last (upd vs2 i ⟨(vs2 i).h, ⟨(e 13).A, n + 1, (e 13).n⟩⟩) :: ownR holdC 91 4 (.slice A nh c) hs :: rowR 33 1 (.slice C q ce) q (ts.map (.int .u64)) :: parT vs m i :: intsR .u8 v bs :: L) := h
              obtain ⟨A', hA'⟩ : ∃ A', (e 13).A = A' := ⟨_, rfl⟩
              obtain ⟨c', hc'⟩ : ∃ c', (e 13).n = c' := ⟨_, rfl⟩
              have h5 := h.sub (L' := tabB g now last (upd vs2 i ⟨(vs2 i).h, ⟨(e 13).A, n + 1, (e 13).n⟩⟩) :: ownR wantC 87 2 (.slice (e 13).A (n + 1) (e 13).n) (ws ++ [⟨zc, zm⟩]) :: rdR gr ((rw.num 1).2.num 1).2 :: ownR holdC 91 4 (.slice A nh c) hs :: rowR 33 1 (.slice C q ce) q (ts.map (.int .u64)) :: parT vs m i :: intsR .u8 v bs :: L) (by (repeat (first | with_reducible exact Sub.refl _ | (with_reducible apply Sub.take; focus (repeat (first | with_reducible exact At.here | with_reducible apply At.there))) | with_reducible apply Sub.drop)))
              rw [hA', hc', show (vs2 i).h = ⟨A, nh, c⟩ by rw [HVI.out]] at h5
              have H5 := hide h5
              clear h0 h h5 hA' hc'
              go_wp2_with fail
              go_roundg (nm - (k + 1))
              case measure => have := HG.out; omega
              case rel => exact ⟨k + 1, ws ++ [⟨zc, zm⟩], ((rw.num 1).2.num 1).2, _, A', n + 1, c', rfl, by omega, by go_num, HR2.out, updT_same _ _ _, fun j hj => by rw [updT_ne _ _ hj]; exact HOT.out j hj, by rw [List.length_append, ← HNL.out]; rfl, by omega, H5.out⟩
            · obtain rfl : nm = k := by omega
              have h5 := (h.sub (L' := ownR wantC 87 2 (.slice D n d) ws :: tabB g now last vs2 :: ownR holdC 91 4 (.slice A nh c) hs :: rdR gr rw :: rowR 33 1 (.slice C q ce) q (ts.map (.int .u64)) :: parT vs m i :: intsR .u8 v bs :: L) (by (repeat (first | with_reducible exact Sub.refl _ | (with_reducible apply Sub.take; focus (repeat (first | with_reducible exact At.here | with_reducible apply At.there))) | with_reducible apply Sub.drop)))).ownKeep
              have H5 := hide (h5.sub (L' := tabB g now last vs2 :: ownR holdC 91 4 (.slice A nh c) hs :: keepR wantC 2 (.slice D n d) ws :: rdR gr rw :: rowR 33 1 (.slice C q ce) q (ts.map (.int .u64)) :: parT vs m i :: intsR .u8 v bs :: L) (by (repeat (first | with_reducible exact Sub.refl _ | (with_reducible apply Sub.take; focus (repeat (first | with_reducible exact At.here | with_reducible apply At.there))) | with_reducible apply Sub.drop))))
              have HG4 := hide (HG4.out.trans HRW.out.symm)
              have HTA := hide (show r2.tab (i + 1) = (upd m i ⟨hs, ws⟩, rw) by
                rw [HTAB.out]
                unfold Rd.lreg
                rw [HG4.out, HLH.out])
              have HTS2 := hide (show ts = toksT (upd m i ⟨hs, ws⟩) (i + 1) by rw [toksT_succ, toksT_upd _ _ _ _ (Nat.le_refl _), updT_same]; exact HTS.out)
              have HFIN := hide (fun (wx : World) (hx : St M0 wx (tabB g now last vs2 :: ownR holdC 91 4 (.slice A nh c) hs :: keepR wantC 2 (.slice D n d) ws :: rdR gr rw :: rowR 33 1 (.slice C q ce) q (ts.map (.int .u64)) :: parT vs m i :: intsR .u8 v bs :: L)) =>
                show St M0 wx (tabB g now last vs2 :: rdR gr rw :: rowR 33 1 (.slice C q ce) q (ts.map (.int .u64)) :: parT vs2 (upd m i ⟨hs, ws⟩) (i + 1) :: intsR .u8 v bs :: L) from
                  ((hx.sub (L' := parT vs m i :: ownR holdC 91 4 (.slice A nh c) hs :: keepR wantC 2 (.slice D n d) ws :: tabB g now last vs2 :: rdR gr rw :: rowR 33 1 (.slice C q ce) q (ts.map (.int .u64)) :: intsR .u8 v bs :: L) (by (repeat (first | with_reducible exact Sub.refl _ | (with_reducible apply Sub.take; focus (repeat (first | with_reducible exact At.here | with_reducible apply At.there))) | with_reducible apply Sub.drop)))).parStep (vs' := vs2) (hv := ⟨A, nh, c⟩) (wv := ⟨D, n, d⟩) HVI.out HOT.out).sub (by (repeat (first | with_reducible exact Sub.refl _ | (with_reducible apply Sub.take; focus (repeat (first | with_reducible exact At.here | with_reducible apply At.there))) | with_reducible apply Sub.drop))))
              have HVS2 := hide (show ∀ j, i + 1 ≤ j → vs2 j = ⟨⟨none, 0, 0⟩, ⟨none, 0, 0⟩⟩ from fun j hj => (HOT.out j (by omega)).trans (HVSI.out j (by omega)))
              have HCH := hide (show chkT (upd m i ⟨hs, ws⟩) (i + 1) = (chkT m i && checkB ⟨hs, ws⟩) by rw [chkT_succ, chkT_upd _ _ _ _ (Nat.le_refl _), updT_same])
              have HQK := hide (show q ≤ 255 * (i + 1) by omega)
              clear h h5 HG HG4 HTAB HRW HOT HVSI HTS HLH
              obtain ⟨ob, hob⟩ : ∃ ob, (okToks last ts && chkT m i) = ob := ⟨_, rfl⟩
              rw [hob]
              have HOB := hide hob
              clear hob
              cases ob with
              | false =>
                go_wp2_with fail
                go_roundg (4 - (i + 1))
                case measure => have := HGI.out; omega
                case rel =>
                  exact ⟨i + 1, vs2, C, q, ce, ts, rfl, by omega, by rw [HTA.out]; show _ = Value.bool (okToks last ts && chkT (upd m i ⟨hs, ws⟩) (i + 1)); rw [HCH.out, ← Bool.and_assoc, HOB.out]; rfl, rfl, by go_num, HQ.out, HQK.out, by rw [HTA.out]; exact HTS2.out, HVS2.out, by rw [HTA.out]; exact HFIN.out _ H5.out⟩
              | true =>
                go_wp2_with fail
                rw [HO.out]
                refine (check_st g i now last vs2 A D nh c n d hs ws _ hi4 HVI.out H5.out).mono ?_
                rintro e w7 ⟨rfl, h7⟩
                obtain ⟨cb, hcb⟩ : ∃ cb, checkB ⟨hs, ws⟩ = cb := ⟨_, rfl⟩
                rw [hcb]
                have HCB := hide hcb
                have H7 := hide h7
                clear h7 H5 hcb
                go_wp2_with fail
                go_roundg (4 - (i + 1))
                case measure => have := HGI.out; omega
                case rel => exact ⟨i + 1, vs2, C, q, ce, ts, rfl, by omega, by rw [HTA.out]; show _ = Value.bool (okToks last ts && chkT (upd m i ⟨hs, ws⟩) (i + 1)); rw [HCH.out, ← Bool.and_assoc, HOB.out, HCB.out]; rfl, rfl, by go_num, HQ.out, HQK.out, by rw [HTA.out]; exact HTS2.out, HVS2.out, by rw [HTA.out]; exact HFIN.out _ H7.out⟩
    · obtain rfl : i = 4 := by omega
      have H1 := hide (h.sub (L' := rdR gr ri :: tabB g now last vs :: rowR 33 1 (.slice C q ce) q (ts.map (.int .u64)) :: parT vs m 4 :: intsR .u8 v bs :: L) (by (repeat (first | with_reducible exact Sub.refl _ | (with_reducible apply Sub.take; focus (repeat (first | with_reducible exact At.here | with_reducible apply At.there))) | with_reducible apply Sub.drop))))
      clear h
      go_wp2_with fail
      refine (rdend_st gr ri _ H1.out).mono ?_
      rintro e w4 ⟨rfl, h5⟩
      obtain ⟨ee, hee⟩ : ∃ ee, ee = ri.endE := ⟨_, rfl⟩
      rw [← hee]
      have ht4 : Rd.t4 ⟨bs, false⟩ = (m, ri) := by
        unfold Rd.t4 Rd.t2 Rd.t1
        rw [← HR0.out, ← HR2.out, HM.out, hri]
      have HUT := hide (show uTab bs = ⟨now, last, m⟩ by
        unfold uTab
        rw [ht4, HNOW.out, HLAST.out, HR0.out]
        rfl)
      have HUE := hide (show uE bs = if ee ≠ 0 then ee else if (okToks last ts && chkT m 4) = true then 0 else 1 by
        unfold uE uOk
        rw [ht4, HUT.out, hee, HTSI.out, ← HM.out])
      have HT5 := hide (show St M0 w4 (tabR g (uTab bs) :: intsR .u8 v bs :: L) by
        rw [HUT.out]
        exact ((h5.sub (L' := parT vs m 4 :: tabB g now last vs :: intsR .u8 v bs :: L) (by (repeat (first | with_reducible exact Sub.refl _ | (with_reducible apply Sub.take; focus (repeat (first | with_reducible exact At.here | with_reducible apply At.there))) | with_reducible apply Sub.drop)))).parTab))
      have HL5 := hide (h5.sub (L' := intsR .u8 v bs :: L) (by (repeat (first | with_reducible exact Sub.refl _ | (with_reducible apply Sub.take; focus (repeat (first | with_reducible exact At.here | with_reducible apply At.there))) | with_reducible apply Sub.drop))))
      obtain ⟨ob, hob⟩ : ∃ ob, (okToks last ts && chkT m 4) = ob := ⟨_, rfl⟩
      rw [hob]
      have HOB := hide hob
      clear h5 H1 hee ht4 hob HTAB hri HVSI HGI
      by_cases he : ee = 0
      · subst he
        cases ob with
        | false =>
          have HE := hide (show uE bs = 1 by rw [HUE.out, HOB.out]; rfl)
          go_wp2_with fail
          go_ret2
          exact .inr ⟨by rw [HE.out]; decide, by rw [HE.out]; rfl, HL5.out⟩
        | true =>
          have HE := hide (show uE bs = 0 by rw [HUE.out, HOB.out]; rfl)
          go_wp2_with fail
          go_ret2
          exact .inl ⟨HE.out, g, rfl, HT5.out⟩
      · have b1 := isF he
        have b2 := isN he
        have HE := hide (show uE bs = ee by rw [HUE.out]; exact if_pos he)
        have HNE := hide he
        clear he
        go_wp2_with fail
        go_ret2
        exact .inr ⟨by rw [HE.out]; exact HNE.out, by rw [HE.out]; rfl, HL5.out⟩
end Go.Proofs.Ytbgknfdaaffeaaa
