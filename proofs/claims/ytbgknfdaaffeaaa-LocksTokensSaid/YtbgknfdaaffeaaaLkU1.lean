/- Locks: Contains of numbers; the check of a region. Printed by gen_lku1.py. -/
import Derived.Test.YtbgknfdaaffeaaaLkK
import Derived.Test.YtbgknfdaaffeaaaLkUm
namespace Go.Proofs.Ytbgknfdaaffeaaa
open Go.RowKit Go.Shelf

set_option maxHeartbeats 400000 in
theorem idxU_any (v : Value) (xs : List Int) (x : Int) (w : World) (hv : Ints w .u64 v xs) : Calls Try.prog 147 #[v, .int .u64 x] w fun e w' => (∃ n : Int, e = .returned (.int .i64 n) ∧ decide (n ≥ 0) = xs.contains x) ∧ w' = w := by
  obtain ⟨A, c, rfl, hc, hm, hs⟩ := hv
  have hlen : xs.length ≤ 9223372036854775807 := by unfold maxLen at hm; omega
  generalize hn : xs.length = n at *
  have HN := hide hn
  have HS := hide hs
  clear hn hs hm
  go_enter Try.func147, Try.ntmps147
  go_wp2_with fail
  go_loopg [8] n (fun gh iv wr => ∃ (k : Nat), gh = n - k ∧ k ≤ n ∧ iv = .int .i64 (k : Nat) ∧ (∀ y ∈ xs.take k, y ≠ x) ∧ wr = w)
  case atStart => exact ⟨0, rfl, by omega, rfl, fun y hy => by simp at hy, rfl⟩
  case round =>
    obtain ⟨k, hg, hk, rfl, hno, rfl⟩ := hrel
    have HG := hide hg
    have HNO := hide hno
    clear hg hno
    by_cases hlt : k < n
    · have hx := List.getElem?_eq_getElem (l := xs) (i := k) (by rw [HN.out]; exact hlt)
      generalize xs[k]'(by rw [HN.out]; exact hlt) = y at hx
      obtain ⟨ad, u, rfl, _, _, hu, hcu⟩ := HS.out.at_ hlt
      rw [List.getElem?_map, hx] at hu
      obtain rfl : Value.int .u64 y = u := by simpa using hu
      have HX := hide hx
      have k0 : (0 : Int) ≤ (k : Int) := by omega
      have k1 : (k : Int) < (n : Int) := by omega
      clear hu hx
      by_cases he : x = y
      · have b1 := isT he
        have E := hide (show decide (((k : Nat) : Int) ≥ 0) = xs.contains x by
          rw [decide_eq_true (by omega), List.contains_eq_mem, decide_eq_true (by rw [he]; exact List.mem_of_getElem? HX.out)])
        clear he
        go_wp2_with fail
        go_ret
        exact ⟨⟨_, rfl, E.out⟩, rfl⟩
      · have b1 := isF he
        have HNO2 := hide (show ∀ a ∈ xs.take (k + 1), a ≠ x from fun a ha => by
          rw [List.take_add_one, HX.out] at ha
          rcases List.mem_append.1 ha with ha | ha
          · exact HNO.out a ha
          · simp at ha
            rw [ha]
            exact fun e => he e.symm)
        clear he
        go_wp2_with fail
        go_roundg (n - (k + 1))
        case measure => have := HG.out; omega
        case rel => exact ⟨k + 1, rfl, by omega, by go_num, HNO2.out, rfl⟩
    · obtain rfl : n = k := by omega
      have E := hide (show decide ((-1 : Int) ≥ 0) = xs.contains x by
        rw [List.contains_eq_mem, decide_eq_false (by omega), decide_eq_false]
        intro hm
        exact HNO.out x (by rw [List.take_of_length_le (by rw [HN.out]; exact Nat.le_refl _)]; exact hm) rfl)
      go_wp2_with fail
      go_ret
      exact ⟨⟨_, rfl, E.out⟩, rfl⟩
theorem conU_any (v : Value) (xs : List Int) (x : Int) (w : World) (hv : Ints w .u64 v xs) : Calls Try.prog 107 #[v, .int .u64 x] w fun e w' => e = .returned (.bool (xs.contains x)) ∧ w' = w := by
  have HV := hide hv
  clear hv
  go_enter Try.func107, Try.ntmps107
  go_wp2_with fail
  refine (idxU_any v xs x w HV.out).mono ?_
  rintro e w1 ⟨⟨m, rfl, hd⟩, rfl⟩
  have hd' : decide (0 ≤ m) = xs.contains x := hd
  cases hb : xs.contains x
  all_goals
    rw [hb] at hd hd'
    go_wp2_with fail
    go_ret
    exact ⟨by rw [hb]; rfl, rfl⟩
set_option maxHeartbeats 400000 in
theorem idxI_any (v : Value) (xs : List Int) (x : Int) (w : World) (hv : Ints w .i64 v xs) : Calls Try.prog 163 #[v, .int .i64 x] w fun e w' => (∃ n : Int, e = .returned (.int .i64 n) ∧ decide (n ≥ 0) = xs.contains x) ∧ w' = w := by
  obtain ⟨A, c, rfl, hc, hm, hs⟩ := hv
  have hlen : xs.length ≤ 9223372036854775807 := by unfold maxLen at hm; omega
  generalize hn : xs.length = n at *
  have HN := hide hn
  have HS := hide hs
  clear hn hs hm
  go_enter Try.func163, Try.ntmps163
  go_wp2_with fail
  go_loopg [8] n (fun gh iv wr => ∃ (k : Nat), gh = n - k ∧ k ≤ n ∧ iv = .int .i64 (k : Nat) ∧ (∀ y ∈ xs.take k, y ≠ x) ∧ wr = w)
  case atStart => exact ⟨0, rfl, by omega, rfl, fun y hy => by simp at hy, rfl⟩
  case round =>
    obtain ⟨k, hg, hk, rfl, hno, rfl⟩ := hrel
    have HG := hide hg
    have HNO := hide hno
    clear hg hno
    by_cases hlt : k < n
    · have hx := List.getElem?_eq_getElem (l := xs) (i := k) (by rw [HN.out]; exact hlt)
      generalize xs[k]'(by rw [HN.out]; exact hlt) = y at hx
      obtain ⟨ad, u, rfl, _, _, hu, hcu⟩ := HS.out.at_ hlt
      rw [List.getElem?_map, hx] at hu
      obtain rfl : Value.int .i64 y = u := by simpa using hu
      have HX := hide hx
      have k0 : (0 : Int) ≤ (k : Int) := by omega
      have k1 : (k : Int) < (n : Int) := by omega
      clear hu hx
      by_cases he : x = y
      · have b1 := isT he
        have E := hide (show decide (((k : Nat) : Int) ≥ 0) = xs.contains x by
          rw [decide_eq_true (by omega), List.contains_eq_mem, decide_eq_true (by rw [he]; exact List.mem_of_getElem? HX.out)])
        clear he
        go_wp2_with fail
        go_ret
        exact ⟨⟨_, rfl, E.out⟩, rfl⟩
      · have b1 := isF he
        have HNO2 := hide (show ∀ a ∈ xs.take (k + 1), a ≠ x from fun a ha => by
          rw [List.take_add_one, HX.out] at ha
          rcases List.mem_append.1 ha with ha | ha
          · exact HNO.out a ha
          · simp at ha
            rw [ha]
            exact fun e => he e.symm)
        clear he
        go_wp2_with fail
        go_roundg (n - (k + 1))
        case measure => have := HG.out; omega
        case rel => exact ⟨k + 1, rfl, by omega, by go_num, HNO2.out, rfl⟩
    · obtain rfl : n = k := by omega
      have E := hide (show decide ((-1 : Int) ≥ 0) = xs.contains x by
        rw [List.contains_eq_mem, decide_eq_false (by omega), decide_eq_false]
        intro hm
        exact HNO.out x (by rw [List.take_of_length_le (by rw [HN.out]; exact Nat.le_refl _)]; exact hm) rfl)
      go_wp2_with fail
      go_ret
      exact ⟨⟨_, rfl, E.out⟩, rfl⟩
theorem conI_any (v : Value) (xs : List Int) (x : Int) (w : World) (hv : Ints w .i64 v xs) : Calls Try.prog 148 #[v, .int .i64 x] w fun e w' => e = .returned (.bool (xs.contains x)) ∧ w' = w := by
  have HV := hide hv
  clear hv
  go_enter Try.func148, Try.ntmps148
  go_wp2_with fail
  refine (idxI_any v xs x w HV.out).mono ?_
  rintro e w1 ⟨⟨m, rfl, hd⟩, rfl⟩
  have hd' : decide (0 ≤ m) = xs.contains x := hd
  cases hb : xs.contains x
  all_goals
    rw [hb] at hd hd'
    go_wp2_with fail
    go_ret
    exact ⟨by rw [hb]; rfl, rfl⟩
set_option maxHeartbeats 8000000 in
set_option maxRecDepth 100000 in
theorem check_st {M0 : Imm} {L : List Res} (g i : Nat) (now last : Int) (vs : Nat → RegV) (A B : Option Addr) (n c m d : Nat) (hs : List HoldM) (ws : List WantM) (w : World) (hi4 : i < 4) (hvi : vs i = ⟨⟨A, n, c⟩, ⟨B, m, d⟩⟩)
    (h : St M0 w (tabB g now last vs :: ownR holdC 91 4 (.slice A n c) hs :: keepR wantC 2 (.slice B m d) ws :: L)) :
    Calls Try.prog 108 #[.pointer (some ⟨g, 2 + i * 2, none⟩)] w fun e w' => e = .returned (.bool (checkB ⟨hs, ws⟩)) ∧ St M0 w' (tabB g now last vs :: ownR holdC 91 4 (.slice A n c) hs :: keepR wantC 2 (.slice B m d) ws :: L) := by
  obtain ⟨o, ho⟩ : ∃ o, o = 2 + i * 2 := ⟨_, rfl⟩
  rw [← ho]
  have HTH := hide (show (tabC now last vs)[o]? = some (.slice A n c) by rw [ho]; refine (tabC_h now last vs hi4).trans ?_; rw [hvi])
  have HTW := hide (show (tabC now last vs)[o + 1]? = some (.slice B m d) by rw [ho]; refine (tabC_w now last vs hi4).trans ?_; rw [hvi])
  have ch : w.cell? ⟨g, o, none⟩ = some (.slice A n c) := ((h.blk 0 rfl).cell o).trans HTH.out
  have cw : w.cell? ⟨g, o + 1, none⟩ = some (.slice B m d) := ((h.blk 0 rfl).cell (o + 1)).trans HTW.out
  obtain ⟨hn, hnc, hcm, _⟩ := (h.flatO (C := holdC) (e := 91) (size := 4) (v := .slice A n c) (xs := hs) (by (repeat (first | with_reducible exact At.here | with_reducible apply At.there)))).sl
  obtain ⟨hmw, hmd, hdm, _⟩ := (h.flatK (C := wantC) (size := 2) (v := .slice B m d) (xs := ws) (by (repeat (first | with_reducible exact At.here | with_reducible apply At.there)))).sl
  have HN := hide hn
  have HNW := hide hmw
  have HVI := hide hvi
  have H := hide h
  have HC0 := hide (show checkB ⟨hs, ws⟩ = (decide (n ≤ 4) && decide (m ≤ 4) && ckH (decide (1 < n)) [] hs && ckW (hs.map HoldM.c) ws) by rw [hn, hmw]; rfl)
  clear h hn hmw ho hvi
  go_enter Try.func108, Try.ntmps108
  by_cases hn4 : n ≤ 4
  case' neg =>
    have d1 : decide ((n : Int) > 4) = true := decide_eq_true (by omega)
    have d1' : decide ((4 : Int) < (n : Int)) = true := d1
    have E := hide (show checkB ⟨hs, ws⟩ = false by rw [HC0.out, decide_eq_false hn4]; rfl)
    clear hn4
    go_wp2_with fail
    go_ret
    exact ⟨by rw [E.out]; try rfl, H.out⟩
  case pos =>
    have d1 : decide ((n : Int) > 4) = false := decide_eq_false (by omega)
    have d1' : decide ((4 : Int) < (n : Int)) = false := d1
    by_cases hm4 : m ≤ 4
    case' neg =>
      have d2 : decide ((m : Int) > 4) = true := decide_eq_true (by omega)
      have d2' : decide ((4 : Int) < (m : Int)) = true := d2
      have E := hide (show checkB ⟨hs, ws⟩ = false by rw [HC0.out, decide_eq_false hm4, Bool.and_false]; rfl)
      clear hm4
      go_wp2_with fail
      go_ret
      exact ⟨by rw [E.out]; try rfl, H.out⟩
    case pos =>
      have d2 : decide ((m : Int) > 4) = false := decide_eq_false (by omega)
      have d2' : decide ((4 : Int) < (m : Int)) = false := d2
      have HCK := hide (show checkB ⟨hs, ws⟩ = (ckH (decide (1 < n)) [] hs && ckW (hs.map HoldM.c) ws) by rw [HC0.out, decide_eq_true hn4, decide_eq_true hm4]; rfl)
      have H1 := hide (H.out.nilRow 3 1)
      clear H HC0
      go_wp2_with fail
      clear ch cw d1 d1' d2 d2'
      go_loopg [3, 27] n (fun gh sv iv wr => ∃ (k q : Nat) (C : Option Addr) (ce : Nat) (xs : List Int), gh = n - k ∧ k ≤ n ∧ sv = .slice C q ce ∧ iv = .int .i64 (k : Nat) ∧ q = xs.length ∧ q ≤ k ∧ xs = (hs.take k).map HoldM.c ∧ ckH (decide (1 < n)) [] hs = ckH (decide (1 < n)) xs (hs.drop k) ∧
        St M0 wr (rowR 3 1 (.slice C q ce) q (xs.map (.int .i64)) :: tabB g now last vs :: ownR holdC 91 4 (.slice A n c) hs :: keepR wantC 2 (.slice B m d) ws :: L))
      case atStart => exact ⟨0, 0, none, 0, [], rfl, by omega, rfl, rfl, rfl, by omega, rfl, rfl, H1.out⟩
      case round =>
        clear H1
        obtain ⟨k, q, C, ce, xs, hg, hk, rfl, rfl, hq, hqk, hxs, hck, h⟩ := hrel
        have HG := hide hg
        have HQ := hide hq
        have HXS := hide hxs
        have HCC := hide hck
        clear hg hq hxs hck
        by_cases hlt : k < n
        · have hx := List.getElem?_eq_getElem (l := hs) (i := k) (by rw [← HN.out]; exact hlt)
          have hdk := List.drop_eq_getElem_cons (l := hs) (i := k) (by rw [← HN.out]; exact hlt)
          generalize hs[k]'(by rw [← HN.out]; exact hlt) = z at hx hdk
          obtain ⟨ad2, rfl, hcs⟩ := (h.flatO (C := holdC) (e := 91) (size := 4) (v := .slice A n c) (xs := hs) (by (repeat (first | with_reducible exact At.here | with_reducible apply At.there)))).at_ holdC_len hx
          obtain ⟨e0, e1, e2, e3⟩ := cells4F hcs
          have HST := hide (show ckH (decide (1 < n)) xs (hs.drop k) = ((nodeB z.c && modeB z.m && !xs.contains z.c && !(decide (1 < n) && (z.m == 2))) && ckH (decide (1 < n)) (xs ++ [z.c]) (hs.drop (k + 1))) by rw [hdk]; rfl)
          have HX2 := hide (show (hs.take (k + 1)).map HoldM.c = xs ++ [z.c] by rw [HXS.out, List.take_add_one, hx]; simp)
          have h4 := h.alloc 91 #[.int .i64 z.c, .int .i64 z.m, .int .u64 z.t, .int .u64 z.u]
          have k0 : (0 : Int) ≤ (k : Int) := by omega
          have k1 : (k : Int) < (n : Int) := by omega
          generalize hy : wr.heap.size = y at h4
          have HY := hide hy
          have H4 := hide h4
          clear h h4 hx hdk hcs hy
          go_wp2_with fail
          rw [HY.out]
          refine (node_st z.c _ H4.out).mono ?_
          rintro e w2 ⟨rfl, h5⟩
          have H5 := hide h5
          have y1 : w2.cell? ⟨y, 1, none⟩ = some (.int .i64 z.m) := (h5.blk 0 rfl).cell 1
          clear HY H4 h5 e0 e1 e2 e3
          cases hb1 : nodeB z.c with
          | false =>
            have E := hide (show checkB ⟨hs, ws⟩ = false by rw [HCK.out, HCC.out, HST.out, hb1]; rfl)
            go_wp2_with fail
            go_ret
            exact ⟨by rw [E.out]; try rfl, H5.out.tail.tail⟩
          | true =>
            go_wp2_with fail
            refine (mode_st z.m _ H5.out).mono ?_
            rintro e w3 ⟨rfl, h6⟩
            have y0 : w3.cell? ⟨y, 0, none⟩ = some (.int .i64 z.c) := (h6.blk 0 rfl).cell 0
            have y1 : w3.cell? ⟨y, 1, none⟩ = some (.int .i64 z.m) := (h6.blk 0 rfl).cell 1
            have ch : w3.cell? ⟨g, o, none⟩ = some (.slice (some ad2) n c) := ((h6.blkA (g := g) (t := 79) (cs := tabC now last vs) (by (repeat (first | with_reducible exact At.here | with_reducible apply At.there)))).cell o).trans HTH.out
            have hI : Ints w3 .i64 (.slice C q ce) xs := Ints.of_own (h6.row 1 rfl)
            have H6 := hide h6
            have HI := hide hI
            clear H5 h6 hI
            cases hb2 : modeB z.m with
            | false =>
              have E := hide (show checkB ⟨hs, ws⟩ = false by rw [HCK.out, HCC.out, HST.out, hb1, hb2]; rfl)
              go_wp2_with fail
              go_ret
              exact ⟨by rw [E.out]; try rfl, H6.out.tail.tail⟩
            | true =>
              go_wp2_with fail
              refine (conI_any (.slice C q ce) xs z.c _ HI.out).mono ?_
              rintro e w4 ⟨rfl, rfl⟩
              cases hb3 : xs.contains z.c with
              | true =>
                have E := hide (show checkB ⟨hs, ws⟩ = false by rw [HCK.out, HCC.out, HST.out, hb1, hb2, hb3]; rfl)
                go_wp2_with fail
                go_ret
                exact ⟨by rw [E.out]; try rfl, H6.out.tail.tail⟩
              | false =>
                obtain ⟨b5, hb5⟩ : ∃ b5, decide ((n : Int) > 1) = b5 := ⟨_, rfl⟩
                have hb5' : decide ((1 : Int) < (n : Int)) = b5 := hb5
                have hb5n : decide (1 < n) = b5 := by rw [← hb5]; exact decide_eq_decide.2 (by omega)
                obtain ⟨b6, hb6⟩ : ∃ b6, (z.m == 2) = b6 := ⟨_, rfl⟩
                have HS2 := hide (show ckH (decide (1 < n)) xs (hs.drop k) = (!(b5 && b6) && ckH (decide (1 < n)) (xs ++ [z.c]) (hs.drop (k + 1))) by rw [HST.out, hb1, hb2, hb3, hb6, hb5n]; rfl)
                clear hb5n
                cases b5 <;> cases b6
                case true.true =>
                  have E := hide (show checkB ⟨hs, ws⟩ = false by rw [HCK.out, HCC.out, HS2.out]; rfl)
                  go_wp2_with fail
                  go_ret
                  exact ⟨by rw [E.out]; try rfl, H6.out.tail.tail⟩
                all_goals
                  have HC2 := hide (show ckH (decide (1 < n)) [] hs = ckH (decide (1 < n)) (xs ++ [z.c]) (hs.drop (k + 1)) by rw [HCC.out, HS2.out]; rfl)
                  have h7 := ((H6.out.front (X := rowR 3 1 (.slice C q ce) q (xs.map (.int .i64))) (by (repeat (first | with_reducible exact At.here | with_reducible apply At.there)))).alloc 3 #[.int .i64 z.c]).swap
                  have HB := hide (h7.blk 1 rfl)
                  have H7 := hide h7
                  clear h7 H6 HI
                  go_wp2_with (at_builtin; refine St.app_step intK_row H7.out rfl _ _ rfl rfl (some ⟨w4.heap.size, 0, none⟩) 1 1 rfl [.int .i64 z.c] (sl_blkT (cs := [.int .i64 z.c]) HB.out) (by intro u hu; simp at hu; subst hu; rfl) (by omega) (by omega) ?_; intro A6 c6 w7 h9)
                  have h10 := h9.sub (L' := rowR 3 1 (.slice A6 (q + 1) c6) (q + 1) (xs.map (.int .i64) ++ [.int .i64 z.c]) :: tabB g now last vs :: ownR holdC 91 4 (.slice (some ad2) n c) hs :: keepR wantC 2 (.slice B m d) ws :: L) (by (repeat (first | with_reducible exact Sub.refl _ | (with_reducible apply Sub.take; focus (repeat (first | with_reducible exact At.here | with_reducible apply At.there))) | with_reducible apply Sub.drop)))
                  rw [show xs.map (Value.int .i64) ++ [.int .i64 z.c] = (xs ++ [z.c]).map (.int .i64) by rw [List.map_append]; rfl] at h10
                  have H10 := hide h10
                  clear h9 h10 H7 HB y0 y1 ch
                  go_wp2_with fail
                  go_roundg (n - (k + 1))
                  case measure => have := HG.out; omega
                  case rel => exact ⟨k + 1, q + 1, A6, c6, xs ++ [z.c], rfl, by omega, rfl, by go_num, by rw [List.length_append, ← HQ.out]; rfl, by omega, HX2.out.symm, HC2.out, H10.out⟩
        · obtain rfl : n = k := by omega
          have HCK2 := hide (show checkB ⟨hs, ws⟩ = ckW (hs.map HoldM.c) ws by
            rw [HCK.out, HCC.out, List.drop_of_length_le (by rw [← HN.out]; exact Nat.le_refl _)]
            exact Bool.true_and _)
          have HXS2 := hide (show xs = hs.map HoldM.c by rw [HXS.out, List.take_of_length_le (by rw [← HN.out]; exact Nat.le_refl _)])
          have cw : wr.cell? ⟨g, o + 1, none⟩ = some (.slice B m d) := ((h.blkA (g := g) (t := 79) (cs := tabC now last vs) (by (repeat (first | with_reducible exact At.here | with_reducible apply At.there)))).cell (o + 1)).trans HTW.out
          have H8 := hide h
          clear h HCK HCC HG HXS
          have HXS := HXS2
          have HCK := HCK2
          clear HXS2 HCK2
          go_wp2_with fail
          go_loopg [3, 71] m (fun gh sv iv wr => ∃ (k q : Nat) (C : Option Addr) (ce : Nat) (xs : List Int), gh = m - k ∧ k ≤ m ∧ sv = .slice C q ce ∧ iv = .int .i64 (k : Nat) ∧ q = xs.length ∧ q ≤ n + k ∧ xs = hs.map HoldM.c ++ (ws.take k).map WantM.c ∧ ckW (hs.map HoldM.c) ws = ckW xs (ws.drop k) ∧
            St M0 wr (rowR 3 1 (.slice C q ce) q (xs.map (.int .i64)) :: tabB g now last vs :: ownR holdC 91 4 (.slice A n c) hs :: keepR wantC 2 (.slice B m d) ws :: L))
          case atStart => exact ⟨0, q, C, ce, xs, rfl, by omega, rfl, rfl, HQ.out, by omega, by rw [HXS.out]; simp, by rw [HXS.out]; rfl, H8.out⟩
          case round =>
            clear H8 HXS HQ
            obtain ⟨k, q, C, ce, xs, hg, hk, rfl, rfl, hq, hqk, hxs, hck, h⟩ := hrel
            have HG := hide hg
            have HQ := hide hq
            have HXS := hide hxs
            have HCC := hide hck
            clear hg hq hxs hck
            by_cases hlt : k < m
            · have hx := List.getElem?_eq_getElem (l := ws) (i := k) (by rw [← HNW.out]; exact hlt)
              have hdk := List.drop_eq_getElem_cons (l := ws) (i := k) (by rw [← HNW.out]; exact hlt)
              generalize ws[k]'(by rw [← HNW.out]; exact hlt) = z at hx hdk
              obtain ⟨ad2, rfl, hcs⟩ := (h.flatK (C := wantC) (size := 2) (v := .slice B m d) (xs := ws) (by (repeat (first | with_reducible exact At.here | with_reducible apply At.there)))).at_ wantC_len hx
              obtain ⟨e0, e1⟩ := cells2F hcs
              have HST := hide (show ckW xs (ws.drop k) = ((nodeB z.c && modeB z.m && !xs.contains z.c) && ckW (xs ++ [z.c]) (ws.drop (k + 1))) by rw [hdk]; rfl)
              have HX2 := hide (show hs.map HoldM.c ++ (ws.take (k + 1)).map WantM.c = xs ++ [z.c] by rw [HXS.out, List.take_add_one, hx]; simp)
              have h4 := h.alloc 87 #[.int .i64 z.c, .int .i64 z.m]
              have k0 : (0 : Int) ≤ (k : Int) := by omega
              have k1 : (k : Int) < (m : Int) := by omega
              generalize hy : wr.heap.size = y at h4
              have HY := hide hy
              have H4 := hide h4
              clear h h4 hx hdk hcs hy
              go_wp2_with fail
              rw [HY.out]
              refine (node_st z.c _ H4.out).mono ?_
              rintro e w2 ⟨rfl, h5⟩
              have H5 := hide h5
              have y1 : w2.cell? ⟨y, 1, none⟩ = some (.int .i64 z.m) := (h5.blk 0 rfl).cell 1
              clear HY H4 h5 e0 e1
              cases hb1 : nodeB z.c with
              | false =>
                have E := hide (show checkB ⟨hs, ws⟩ = false by rw [HCK.out, HCC.out, HST.out, hb1]; rfl)
                go_wp2_with fail
                go_ret
                exact ⟨by rw [E.out]; try rfl, H5.out.tail.tail⟩
              | true =>
                go_wp2_with fail
                refine (mode_st z.m _ H5.out).mono ?_
                rintro e w3 ⟨rfl, h6⟩
                have y0 : w3.cell? ⟨y, 0, none⟩ = some (.int .i64 z.c) := (h6.blk 0 rfl).cell 0
                have y1 : w3.cell? ⟨y, 1, none⟩ = some (.int .i64 z.m) := (h6.blk 0 rfl).cell 1
                have ch : w3.cell? ⟨g, o, none⟩ = some (.slice A n c) := ((h6.blkA (g := g) (t := 79) (cs := tabC now last vs) (by (repeat (first | with_reducible exact At.here | with_reducible apply At.there)))).cell o).trans HTH.out
                have hI : Ints w3 .i64 (.slice C q ce) xs := Ints.of_own (h6.row 1 rfl)
                have H6 := hide h6
                have HI := hide hI
                clear H5 h6 hI
                cases hb2 : modeB z.m with
                | false =>
                  have E := hide (show checkB ⟨hs, ws⟩ = false by rw [HCK.out, HCC.out, HST.out, hb1, hb2]; rfl)
                  go_wp2_with fail
                  go_ret
                  exact ⟨by rw [E.out]; try rfl, H6.out.tail.tail⟩
                | true =>
                  go_wp2_with fail
                  refine (conI_any (.slice C q ce) xs z.c _ HI.out).mono ?_
                  rintro e w4 ⟨rfl, rfl⟩
                  cases hb3 : xs.contains z.c with
                  | true =>
                    have E := hide (show checkB ⟨hs, ws⟩ = false by rw [HCK.out, HCC.out, HST.out, hb1, hb2, hb3]; rfl)
                    go_wp2_with fail
                    go_ret
                    exact ⟨by rw [E.out]; try rfl, H6.out.tail.tail⟩
                  | false =>
                    have HC2 := hide (show ckW (hs.map HoldM.c) ws = ckW (xs ++ [z.c]) (ws.drop (k + 1)) by rw [HCC.out, HST.out, hb1, hb2, hb3]; rfl)
                    have h7 := ((H6.out.front (X := rowR 3 1 (.slice C q ce) q (xs.map (.int .i64))) (by (repeat (first | with_reducible exact At.here | with_reducible apply At.there)))).alloc 3 #[.int .i64 z.c]).swap
                    have HB := hide (h7.blk 1 rfl)
                    have H7 := hide h7
                    clear h7 H6 HI
                    go_wp2_with (at_builtin; refine St.app_step intK_row H7.out rfl _ _ rfl rfl (some ⟨w4.heap.size, 0, none⟩) 1 1 rfl [.int .i64 z.c] (sl_blkT (cs := [.int .i64 z.c]) HB.out) (by intro u hu; simp at hu; subst hu; rfl) (by omega) (by omega) ?_; intro A6 c6 w7 h9)
                    have h10 := h9.sub (L' := rowR 3 1 (.slice A6 (q + 1) c6) (q + 1) (xs.map (.int .i64) ++ [.int .i64 z.c]) :: tabB g now last vs :: ownR holdC 91 4 (.slice A n c) hs :: keepR wantC 2 (.slice (some ad2) m d) ws :: L) (by (repeat (first | with_reducible exact Sub.refl _ | (with_reducible apply Sub.take; focus (repeat (first | with_reducible exact At.here | with_reducible apply At.there))) | with_reducible apply Sub.drop)))
                    rw [show xs.map (Value.int .i64) ++ [.int .i64 z.c] = (xs ++ [z.c]).map (.int .i64) by rw [List.map_append]; rfl] at h10
                    have H10 := hide h10
                    clear h9 h10 H7 HB y0 y1 ch
                    go_wp2_with fail
                    go_roundg (m - (k + 1))
                    case measure => have := HG.out; omega
                    case rel => exact ⟨k + 1, q + 1, A6, c6, xs ++ [z.c], rfl, by omega, rfl, by go_num, by rw [List.length_append, ← HQ.out]; rfl, by omega, HX2.out.symm, HC2.out, H10.out⟩
            · obtain rfl : m = k := by omega
              have E := hide (show checkB ⟨hs, ws⟩ = true by
                rw [HCK.out, HCC.out, List.drop_of_length_le (by rw [← HNW.out]; exact Nat.le_refl _)]
                rfl)
              have H9 := hide h.tail
              clear h
              go_wp2_with fail
              go_ret
              exact ⟨by rw [E.out]; try rfl, H9.out⟩
end Go.Proofs.Ytbgknfdaaffeaaa
