/- Redo: the document's Plan. Printed by gen_redod.py. -/
import Derived.Test.YtbnjeekhoaapiaaRedoDm
import Derived.Test.YtbnjeekhoaapiaaRedoY
import Derived.Deep.DeepCutAuto
namespace Go.Proofs.Ytbnjeekhoaapiaa
open Go.RowKit

theorem reqs2_elem : ElemOf Try.prog 48 144 (.agg #[.int .i64 0, .int .i64 0, .int .i64 0, .int .u64 0, .int .u32 0, .slice none 0 0]) 6 64 := ⟨Try.underlying48, by kernel_rfl, by kernel_rfl, by omega⟩
theorem any_snoc (l : List PU) (x : PU) (p : PU → Bool) : (l ++ [x]).any p = (l.any p || p x) := by simp

set_option maxHeartbeats 4000000 in
set_option maxRecDepth 100000 in
theorem rplan_st {M0 : Imm} {L : List Res} (region token seq : Int) (l : List PU) (A : Option Addr) (n c : Nat) (w : World) (hs : 0 ≤ seq ∧ seq ≤ 4294967295) (hl : l.length ≤ 1000) (h : St M0 w (rowsR 3 PutR (.slice A n c) l :: L)) :
    Calls Try.prog 24 #[.int .i64 region, .int .u64 token, .int .u32 seq, .slice A n c] w fun e w' => ∃ v, e = .returned (.tuple #[v, .int .i64 (planE region l)]) ∧ St M0 w' (growR 144 6 ReqP v (planQ region token seq l) :: L) := by
  obtain ⟨A', c', e, hc, hm⟩ := (h.getRows 0 rfl).slice
  injection e with e1 e2 e3
  subst e1; subst e3
  have HN := hide e2
  have hn : n ≤ 1000 := by omega
  have H := hide h
  have HS := hide hs
  have HE := hide (show planE region l = if recsE l = 0 then (if l.any (fun x => x.region != region) = true then 1 else 0) else recsE l from rfl)
  have HQ := hide (show planQ region token seq l = if planE region l = 0 then (pQ region token seq l ((l.length + 3) / 4)).2 else [] from rfl)
  clear h e2 hs hl
  go_enter Try.func24, Try.ntmps24
  go_wp2_with fail
  go_loopg [10] n (fun gh i wr => ∃ k : Nat, gh = n - k ∧ k ≤ n ∧ i = .int .i64 (k : Nat) ∧ recsE (l.take k) = 0 ∧ St M0 wr (rowsR 3 PutR (.slice A n c) l :: L))
  case atStart => exact ⟨0, rfl, by omega, rfl, rfl, H.out⟩
  case round =>
    clear H
    obtain ⟨k, hg, hk, rfl, h0, h⟩ := hrel
    have HG := hide hg
    clear hg
    by_cases hlt : k < n
    · have hx := List.getElem?_eq_getElem (l := l) (i := k) (by rw [← HN.out]; exact hlt)
      generalize l[k]'(by rw [← HN.out]; exact hlt) = x at hx
      have ht : l.take (k + 1) = l.take k ++ [x] := by rw [List.take_add_one, hx]; rfl
      have hE := recsE_snoc (l.take k) x h0
      rw [← ht] at hE
      have hsplit : l.take (k + 1) ++ l.drop (k + 1) = l := List.take_append_drop _ _
      obtain ⟨ad, cs, rfl, _, hcs, ⟨v, rfl, hv⟩, h1⟩ := h.elem 0 rfl hx
      obtain ⟨B, d, rfl, _, _, _⟩ := id hv
      obtain ⟨e0, e1, e2⟩ := cells3 hcs
      have HE1 := hide hE
      have HSP := hide hsplit
      have H1 := hide (h1.pers1 (R' := fun w' => Ints w' .u8 (.slice B x.data.length d) x.data) (fun w' hr => by obtain ⟨v, e, hi⟩ := hr.2; injection e with _ e; injection e with _ e; injection e with e; subst e; exact hi))
      clear hx h h1 hv hcs ht hE hsplit h0
      have i0 : (0 : Int) ≤ (k : Int) := by omega
      have i1 : (k : Int) < (n : Int) := by omega
      go_wp2_with fail
      refine (rrec_st x B x.data.length d _ H1.out).mono ?_
      rintro e w2 ⟨v2, rfl, h⟩
      have H2 := hide h.tail
      clear h H1 e0 e1 e2
      by_cases he : recE x = 0
      · have HE2 := hide (HE1.out.trans he)
        rw [he]
        clear he HE1
        go_wp2_with fail
        go_roundg (n - (k + 1))
        case measure => have := HG.out; omega
        case rel => exact ⟨k + 1, rfl, by omega, by go_num, HE2.out, H2.out⟩
      · have hall : recsE l = recE x := by rw [← HSP.out, recsE_more _ _ (by rw [HE1.out]; exact he), HE1.out]
        have HALL := hide hall
        have hne : (recE x != 0) = true := by simp [he]
        have HNE := hide he
        generalize recE x = ee at *
        clear he hall HE1
        go_wp2_with fail
        go_ret2
        refine ⟨.slice none 0 0, ?_, ?_⟩
        · rw [HE.out, if_neg (by rw [HALL.out]; exact HNE.out), HALL.out]; rfl
        · rw [HQ.out, if_neg (by rw [HE.out, if_neg (by rw [HALL.out]; exact HNE.out), HALL.out]; exact HNE.out)]
          exact H2.out.tail.nilGrow _ _ _
    · obtain rfl : k = n := by omega
      have htk : l.take k = l := List.take_of_length_le (by rw [← HN.out]; exact Nat.le_refl _)
      rw [htk] at h0
      have H0 := hide h0
      have H := hide h
      clear h htk h0 HG hlt hk
      go_wp2_with fail
      go_loopg [13] k (fun gh i wr => ∃ q : Nat, gh = k - q ∧ q ≤ k ∧ i = .int .i64 (q : Nat) ∧ (l.take q).any (fun x => x.region != region) = false ∧ St M0 wr (rowsR 3 PutR (.slice A k c) l :: L))
      case atStart => exact ⟨0, rfl, by omega, rfl, rfl, H.out⟩
      case round =>
        clear H
        obtain ⟨q, hg, hq, rfl, ha, h⟩ := hrel
        have HG := hide hg
        clear hg
        by_cases hlt : q < k
        · have hx := List.getElem?_eq_getElem (l := l) (i := q) (by rw [← HN.out]; exact hlt)
          generalize l[q]'(by rw [← HN.out]; exact hlt) = x at hx
          have ht : l.take (q + 1) = l.take q ++ [x] := by rw [List.take_add_one, hx]; rfl
          have hE := any_snoc (l.take q) x (fun x => x.region != region)
          rw [← ht, ha, Bool.false_or] at hE
          have hmem := List.mem_of_getElem? hx
          obtain ⟨ad, cs, rfl, _, hcs, ⟨v, rfl, hv⟩, h1⟩ := h.elem 0 rfl hx
          obtain ⟨e0, e1, e2⟩ := cells3 hcs
          have HE1 := hide hE
          have HME := hide hmem
          have H1 := hide h
          clear hx h h1 hv hcs ht hE ha hmem e1 e2
          have i0 : (0 : Int) ≤ (q : Int) := by omega
          have i1 : (q : Int) < (k : Int) := by omega
          cases hne : (x.region != region) with
          | true =>
            have HX := hide (show planE region l = 1 by rw [HE.out, if_pos H0.out, if_pos (List.any_eq_true.2 ⟨x, HME.out, hne⟩)])
            go_wp2_with fail
            go_ret2
            refine ⟨.slice none 0 0, ?_, ?_⟩
            · rw [HX.out]; rfl
            · rw [HQ.out, HX.out]
              exact H1.out.tail.nilGrow _ _ _
          | false =>
            have HE2 := hide (HE1.out.trans hne)
            go_wp2_with fail
            go_roundg (k - (q + 1))
            case measure => have := HG.out; omega
            case rel => exact ⟨q + 1, rfl, by omega, by go_num, HE2.out, H1.out⟩
        · obtain rfl : q = k := by omega
          have htk : l.take q = l := List.take_of_length_le (by rw [← HN.out]; exact Nat.le_refl _)
          rw [htk] at ha
          have HX := hide (show planE region l = 0 by rw [HE.out, if_pos H0.out, if_neg (by rw [ha]; exact Bool.false_ne_true)])
          have H := hide (h.nilGrow 144 6 ReqP)
          clear h htk ha HG hlt hq
          go_wp2_with fail
          go_loopg [2, 14, 15] (q + 4) (fun gh sq out i wr => ∃ (j k : Nat) (B : Option Addr) (z d : Nat), gh = q + 4 - k ∧ k = 4 * j ∧ k < q + 4 ∧ sq = .int .u32 (pQ region token seq l j).1 ∧ out = .slice B z d ∧ i = .int .i64 (k : Nat) ∧ z ≤ 9 * j ∧ St M0 wr (growR 144 6 ReqP (.slice B z d) (pQ region token seq l j).2 :: rowsR 3 PutR (.slice A q c) l :: L))
          case atStart => exact ⟨0, 0, none, 0, 0, rfl, rfl, by omega, rfl, rfl, rfl, by omega, H.out⟩
          case round =>
            clear H
            obtain ⟨j, k, B, z, d, hg, hkj, hk, rfl, rfl, rfl, hz, h⟩ := hrel
            have HG := hide hg
            have HKJ := hide hkj
            clear hg
            by_cases hlt : k < q
            · have hnk : (q : Int) - (k : Int) = ((q - k : Nat) : Int) := by omega
              have HH := hide h
              clear h hkj
              obtain ⟨p, hp⟩ : ∃ p, p = min 4 (q - k) := ⟨_, rfl⟩
              have HP := hide hp
              clear hp
              go_upto_region 16 with (fail)
              go_cut [16] (fun t wx => t = .int .i64 (p : Nat) ∧ wx = wr)
              case first =>
                go_wp2_with fail
                all_goals
                  go_meet
                  refine ⟨?_, rfl⟩
                  have := HP.out
                  congr 1
                  omega
              case rest =>
                obtain ⟨rfl, rfl⟩ := hcut
                have hpl : ((l.drop k).take 4).length = p := by have := HN.out; have := HP.out; rw [List.length_take, List.length_drop]; omega
                have hp4 : p ≤ 4 := by have := HP.out; omega
                have hp1 : 0 < p := by have := HP.out; omega
                have hpk : k + p ≤ q := by have := HP.out; omega
                have hst : pQ region token seq l (j + 1) = ((partQ region token (pQ region token seq l j).1 ((l.drop k).take 4)).1, (pQ region token seq l j).2 ++ (partQ region token (pQ region token seq l j).1 ((l.drop k).take 4)).2) := by rw [HKJ.out]; rfl
                rw [partQ_list _ _ _ _ (by rw [hpl]; exact hp1), partQ_seq _ _ _ _ (by rw [hpl]; exact hp1), hpl] at hst
                have hget : ∀ (x : Nat) (y : PU), x < p → l[k + x]? = some y → ((l.drop k).take 4)[x]? = some y := fun x y hx hy => by rw [List.getElem?_take, if_pos (by omega), List.getElem?_drop]; exact hy
                have hsr := pQ_range region token seq l HS.out j
                have HST := hide hst
                have HPL := hide hpl
                have HGET := hide hget
                have HSR := hide hsr
                clear hst hpl hget hnk hsr
                generalize (l.drop k).take 4 = pt at *
                generalize (pQ region token seq l j).1 = s at *
                generalize (pQ region token seq l j).2 = rq at *
                go_wp2_with fail
                go_loopg [2, 14, 17] (2 * p + 1) (fun gh sq out i wr => ∃ (x : Nat) (B : Option Addr) (y d : Nat), gh = 2 * p + 1 - x ∧ x ≤ 2 * p + 1 ∧ sq = .int .u32 (IntKind.u32.wrap (s + x)) ∧ out = .slice B y d ∧ i = .int .i64 (x : Nat) ∧ y ≤ 9 * j + x ∧ St M0 wr (growR 144 6 ReqP (.slice B y d) (rq ++ (List.range x).map (reqAt region token s pt)) :: rowsR 3 PutR (.slice A q c) l :: L))
                case atStart => exact ⟨0, B, z, d, rfl, by omega, by rw [show IntKind.u32.wrap (s + (0 : Nat)) = s by rw [Int.natCast_zero, Int.add_zero]; exact IntWalk.u32_in _ HSR.out], rfl, rfl, by omega, by simpa using HH.out⟩
                case round =>
                  clear HH
                  obtain ⟨x, B, y, d, hg, hx, rfl, rfl, rfl, hy, h⟩ := hrel
                  have HGX := hide hg
                  clear hg
                  by_cases hltx : x < 2 * p + 1
                  · obtain ⟨sx, hsx⟩ : ∃ sx, sx = IntKind.u32.wrap (s + x) := ⟨_, rfl⟩
                    rw [← hsx]
                    have HSX := hide hsx
                    have HNX := hide (wrap_next s x)
                    rw [← hsx] at HNX
                    clear hsx
                    obtain ⟨r, hr⟩ : ∃ r, r = wr.heap.size := ⟨_, rfl⟩
                    have hA := h.alloc 144 #[.int .i64 0, .int .i64 region, .int .i64 0, .int .u64 token, .int .u32 sx, .slice none 0 0]
                    rw [← hr] at hA
                    have hyb : y ≤ 20000 := by have := HKJ.out; omega
                    clear h
                    go_upto_region 24 with (fail)
                    rw [← hr]
                    generalize World.alloc wr _ = w0 at hA ⊢
                    clear hr
                    by_cases hc1 : x < p
                    · have hkq : k + x < q := by omega
                      have hx0 := List.getElem?_eq_getElem (l := l) (i := k + x) (by rw [← HN.out]; exact hkq)
                      generalize l[k + x]'(by rw [← HN.out]; exact hkq) = m at hx0
                      have HREQ := hide (show reqAt region token s pt x = ⟨4, region, 0, token, sx, recB m⟩ by
                        rw [HSX.out]
                        unfold reqAt
                        rw [if_pos (by rw [HPL.out]; exact hc1), getD_some (HGET.out x m hc1 hx0)])
                      obtain ⟨ad, cs, rfl, _, hcs, ⟨v, rfl, hv⟩, h1⟩ := hA.elem 2 rfl hx0
                      obtain ⟨E, ec, rfl, _, _, _⟩ := id hv
                      obtain ⟨e0, e1, e2⟩ := cells3 hcs
                      have H1 := hide (h1.pers1 (R' := fun w' => Ints w' .u8 (.slice E m.data.length ec) m.data) (fun w' hr => by obtain ⟨v, e, hi⟩ := hr.2; injection e with _ e; injection e with _ e; injection e with e; subst e; exact hi))
                      clear hx0 hA h1 hv hcs
                      have i0 : (0 : Int) ≤ (k : Int) + (x : Int) := by omega
                      have i1 : (k : Int) + (x : Int) < (q : Int) := by omega
                      have d1 : decide ((x : Int) < (p : Int)) = true := decide_eq_true (by omega)
                      go_wp2_with fail
                      refine (rrec_st m E m.data.length ec _ H1.out).mono ?_
                      rintro e w2 ⟨v2, rfl, h⟩
                      obtain ⟨A3, c3, rfl, _, _, _⟩ := h.get 0 rfl
                      have y0 := (h.blk 1 rfl).cell 0
                      have y1 := (h.blk 1 rfl).cell 1
                      have y2 := (h.blk 1 rfl).cell 2
                      have y3 := (h.blk 1 rfl).cell 3
                      have y4 := (h.blk 1 rfl).cell 4
                      have y5 := (h.blk 1 rfl).cell 5
                      have f := (h.blk 1 rfl).frozen
                      have h2 := ((h.swap.set_ 0 (.int .i64 4)).set_ 5 (.slice A3 (recB m).length c3)).tail
                      have H5 := hide ((h2.pers1 (R' := fun w' => ReqP w' [.int .i64 4, .int .i64 region, .int .i64 0, .int .u64 token, .int .u32 sx, .slice A3 (recB m).length c3] ⟨4, region, 0, token, sx, recB m⟩) (fun w' hi => ⟨_, rfl, hi⟩)).swap)
                      clear h h2 H1 e0 e1 e2
                      obtain ⟨xs, hq2, hxl, hz⟩ := (H5.out).openGrowS
                      have HQ2 := hide hq2
                      have HXL := hide hxl
                      have HH := hide hz
                      clear hq2 hxl hz H5
                      go_wp2_with (at_builtin; refine St.app_step reqs2_elem (HH.out.junk _) rfl _ _ rfl rfl (some ⟨w2.heap.size, 0, none⟩) 1 1 rfl [.int .i64 4, .int .i64 region, .int .i64 0, .int .u64 token, .int .u32 sx, .slice A3 (recB m).length c3] (sl_newG (by simp)) (one_cells6 _ _ _ _ _ _ _ _) (by omega) (by omega) ?_; intro A4 c4 w4 h4)
                      have h7 := h4.snocGrow (x := ⟨4, region, 0, token, sx, recB m⟩) HQ2.out rfl HXL.out
                      rw [List.append_assoc, ← HREQ.out, ← range_snoc] at h7
                      have H7 := hide h7
                      clear h4 h7 HH
                      go_roundg (2 * p + 1 - (x + 1))
                      case measure => have := HGX.out; omega
                      case rel => exact ⟨x + 1, A4, y + 1, c4, rfl, by omega, by rw [← HNX.out, IntKind.wrap_u32], rfl, by go_num, by omega, H7.out⟩
                    · by_cases hc2 : x < 2 * p
                      · have hkq : k + x - p < q := by omega
                        have hx0 := List.getElem?_eq_getElem (l := l) (i := k + x - p) (by rw [← HN.out]; exact hkq)
                        generalize l[k + x - p]'(by rw [← HN.out]; exact hkq) = m at hx0
                        have HREQ := hide (show reqAt region token s pt x = ⟨2, region, m.index, token, sx, m.data⟩ by
                          rw [HSX.out]
                          unfold reqAt
                          rw [if_neg (by rw [HPL.out]; exact hc1), if_pos (by rw [HPL.out]; exact hc2), HPL.out, getD_some (HGET.out (x - p) m (by omega) (by rw [show k + (x - p) = k + x - p by omega]; exact hx0))])
                        obtain ⟨ad, cs, rfl, _, hcs, ⟨v, rfl, hv⟩, h1⟩ := hA.elem 2 rfl hx0
                        obtain ⟨E, ec, rfl, _, _, _⟩ := id hv
                        obtain ⟨e0, e1, e2⟩ := cells3 hcs
                        have e3 := (cells3 (((h1.swap.set_ 0 (.int .i64 2)).get 1 rfl).1)).2.1
                        have e4 := (cells3 ((((h1.swap.set_ 0 (.int .i64 2)).set_ 2 (.int .i64 m.index)).get 1 rfl).1)).2.2
                        have h2 := h1.pers1 (R' := fun w' => Ints w' .u8 (.slice E m.data.length ec) m.data) (fun w' hr => by obtain ⟨v, e, hi⟩ := hr.2; injection e with _ e; injection e with _ e; injection e with e; subst e; exact hi)
                        have y0 := (h2.blk 1 rfl).cell 0
                        have y1 := (h2.blk 1 rfl).cell 1
                        have y2 := (h2.blk 1 rfl).cell 2
                        have y3 := (h2.blk 1 rfl).cell 3
                        have y4 := (h2.blk 1 rfl).cell 4
                        have y5 := (h2.blk 1 rfl).cell 5
                        have f := (h2.blk 1 rfl).frozen
                        have h3 := (((h2.swap.set_ 0 (.int .i64 2)).set_ 2 (.int .i64 m.index)).set_ 5 (.slice E m.data.length ec)).tail
                        have H5 := hide ((h3.pers1 (R' := fun w' => ReqP w' [.int .i64 2, .int .i64 region, .int .i64 m.index, .int .u64 token, .int .u32 sx, .slice E m.data.length ec] ⟨2, region, m.index, token, sx, m.data⟩) (fun w' hi => ⟨_, rfl, hi⟩)).swap)
                        clear hx0 hA h1 h2 h3 hv hcs
                        have i0 : (0 : Int) ≤ (k : Int) + (x : Int) - (p : Int) := by omega
                        have i1 : (k : Int) + (x : Int) - (p : Int) < (q : Int) := by omega
                        have d1 : decide ((x : Int) < (p : Int)) = false := decide_eq_false (by omega)
                        have d2 : decide ((x : Int) < 2 * (p : Int)) = true := decide_eq_true (by omega)
                        obtain ⟨xs, hq2, hxl, hz⟩ := (H5.out).openGrowS
                        have HQ2 := hide hq2
                        have HXL := hide hxl
                        have HH := hide hz
                        clear hq2 hxl hz H5
                        go_wp2_with (at_builtin; refine St.app_step reqs2_elem (HH.out.junk _) rfl _ _ rfl rfl (some ⟨w0.heap.size, 0, none⟩) 1 1 rfl [.int .i64 2, .int .i64 region, .int .i64 m.index, .int .u64 token, .int .u32 sx, .slice E m.data.length ec] (sl_newG (by simp)) (one_cells6 _ _ _ _ _ _ _ _) (by omega) (by omega) ?_; intro A4 c4 w4 h4)
                        have h7 := h4.snocGrow (x := ⟨2, region, m.index, token, sx, m.data⟩) HQ2.out rfl HXL.out
                        rw [List.append_assoc, ← HREQ.out, ← range_snoc] at h7
                        have H7 := hide h7
                        clear h4 h7 HH
                        go_roundg (2 * p + 1 - (x + 1))
                        case measure => have := HGX.out; omega
                        case rel => exact ⟨x + 1, A4, y + 1, c4, rfl, by omega, by rw [← HNX.out, IntKind.wrap_u32], rfl, by go_num, by omega, H7.out⟩
                      · have hx2 : x = 2 * p := by omega
                        have HREQ := hide (show reqAt region token s pt x = ⟨5, region, p, token, sx, []⟩ by
                          rw [HSX.out]
                          unfold reqAt
                          rw [if_neg (by rw [HPL.out]; exact hc1), if_neg (by rw [HPL.out]; exact hc2), HPL.out])
                        have y0 := (hA.blk 0 rfl).cell 0
                        have y1 := (hA.blk 0 rfl).cell 1
                        have y2 := (hA.blk 0 rfl).cell 2
                        have y3 := (hA.blk 0 rfl).cell 3
                        have y4 := (hA.blk 0 rfl).cell 4
                        have y5 := (hA.blk 0 rfl).cell 5
                        have f := (hA.blk 0 rfl).frozen
                        have h3 := ((hA.set_ 0 (.int .i64 5)).set_ 2 (.int .i64 p)).tail
                        have H5 := hide ((h3.pers0 (R := fun w' => ReqP w' [.int .i64 5, .int .i64 region, .int .i64 p, .int .u64 token, .int .u32 sx, .slice none 0 0] ⟨5, region, p, token, sx, []⟩) (fun w' hi => ⟨_, rfl, Ints.none_ w' _⟩)).swap)
                        clear hA h3
                        have d1 : decide ((x : Int) < (p : Int)) = false := decide_eq_false (by omega)
                        have d2 : decide ((x : Int) < 2 * (p : Int)) = false := decide_eq_false (by omega)
                        obtain ⟨xs, hq2, hxl, hz⟩ := (H5.out).openGrowS
                        have HQ2 := hide hq2
                        have HXL := hide hxl
                        have HH := hide hz
                        clear hq2 hxl hz H5
                        go_wp2_with (at_builtin; refine St.app_step reqs2_elem (HH.out.junk _) rfl _ _ rfl rfl (some ⟨w0.heap.size, 0, none⟩) 1 1 rfl [.int .i64 5, .int .i64 region, .int .i64 p, .int .u64 token, .int .u32 sx, .slice none 0 0] (sl_newG (by simp)) (one_cells6 _ _ _ _ _ _ _ _) (by omega) (by omega) ?_; intro A4 c4 w4 h4)
                        have h7 := h4.snocGrow (x := ⟨5, region, p, token, sx, []⟩) HQ2.out rfl HXL.out
                        rw [List.append_assoc, ← HREQ.out, ← range_snoc] at h7
                        have H7 := hide h7
                        clear h4 h7 HH
                        go_roundg (2 * p + 1 - (x + 1))
                        case measure => have := HGX.out; omega
                        case rel => exact ⟨x + 1, A4, y + 1, c4, rfl, by omega, by rw [← HNX.out, IntKind.wrap_u32], rfl, by go_num, by omega, H7.out⟩
                  · obtain rfl : x = 2 * p + 1 := by omega
                    have H := hide h
                    clear h
                    go_wp2_with fail
                    go_roundg (q + 4 - (k + 4))
                    case measure => have := HG.out; omega
                    case rel => exact ⟨j + 1, k + 4, B, y, d, rfl, by have := HKJ.out; omega, by omega, by rw [HST.out], rfl, by go_num, by omega, by rw [HST.out]; exact H.out⟩
            · have H := hide (h.pick (L' := growR 144 6 ReqP (.slice B z d) (pQ region token seq l j).2 :: L) 2 [0])
              clear h
              go_wp2_with fail
              go_ret2
              refine ⟨.slice B z d, by rw [HX.out]; try rfl, ?_⟩
              rw [HQ.out, if_pos HX.out, show (l.length + 3) / 4 = j by have := HN.out; have := HKJ.out; omega]
              exact H.out
end Go.Proofs.Ytbnjeekhoaapiaa
