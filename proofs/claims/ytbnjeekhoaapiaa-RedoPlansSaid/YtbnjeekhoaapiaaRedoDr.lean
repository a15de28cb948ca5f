/- Redo: the document's Replay. -/
import Derived.Test.YtbnjeekhoaapiaaRedoD
namespace Go.Proofs.Ytbnjeekhoaapiaa
open Go.RowKit

set_option maxHeartbeats 2000000 in
set_option maxRecDepth 100000 in
theorem rrep_st {M0 : Imm} {L : List Res} (region token seq : Int) (rs : List (List Int)) (A : Option Addr) (n c : Nat) (w : World) (hs : 0 ≤ seq ∧ seq ≤ 4294967295) (hl : rs.length ≤ 1000) (hb : ∀ b ∈ rs, Bytes b)
    (h : St M0 w (rowsR 1 BytR (.slice A n c) rs :: L)) :
    Calls Try.prog 27 #[.int .i64 region, .int .u64 token, .int .u32 seq, .slice A n c] w fun e w' => ∃ v, e = .returned (.tuple #[v, .int .i64 (repE rs)]) ∧ St M0 w' (growR 144 6 ReqP v (repQ region token seq rs) :: L) := by
  obtain ⟨A', c', e, hc, hm⟩ := (h.getRows 0 rfl).slice
  injection e with e1 e2 e3
  subst e1; subst e3
  have HN := hide e2
  have hn : n ≤ 1000 := by omega
  have H := hide (h.nilGrow 144 6 ReqP)
  have HS := hide hs
  have HB := hide hb
  have hR := hide (show repQ region token seq rs = if repE rs = 0 then wAll region token seq (rs.map (parP region)) else [] from rfl)
  clear h e2 hs hl hb
  go_enter Try.func27, Try.ntmps27
  go_wp2_with fail
  go_loopg [10, 11] n (fun gh v i wr => ∃ (k : Nat) (B : Option Addr) (q d : Nat), gh = n - k ∧ k ≤ n ∧ v = .slice B q d ∧ i = .int .i64 (k : Nat) ∧ q = k ∧ repE (rs.take k) = 0 ∧ St M0 wr (growR 144 6 ReqP (.slice B q d) (wl (wQ region token seq) 0 ((rs.take k).map (parP region))) :: rowsR 1 BytR (.slice A n c) rs :: L))
  case atStart => exact ⟨0, none, 0, 0, rfl, by omega, rfl, rfl, rfl, rfl, H.out⟩
  case round =>
    clear H
    obtain ⟨k, B, q, d, hg, hk, rfl, rfl, hqk, h0, h⟩ := hrel
    have HG := hide hg
    have HQK := hide hqk
    have ql : q ≤ 1000 := by omega
    clear hg hqk
    by_cases hlt : k < n
    · have hx := List.getElem?_eq_getElem (l := rs) (i := k) (by rw [← HN.out]; exact hlt)
      generalize rs[k]'(by rw [← HN.out]; exact hlt) = x at hx
      have hbx := HB.out x (List.mem_of_getElem? hx)
      have ht : rs.take (k + 1) = rs.take k ++ [x] := by rw [List.take_add_one, hx]; rfl
      have hE := repE_snoc (rs.take k) x h0
      rw [← ht] at hE
      have hsplit : rs.take (k + 1) ++ rs.drop (k + 1) = rs := List.take_append_drop _ _
      obtain ⟨ad, cs, rfl, _, hcs, ⟨v, rfl, hv⟩, h1⟩ := h.elem 1 rfl hx
      obtain ⟨X, xc, rfl, _, _, _⟩ := id hv
      have e0 : wr.cell? (ad.add (k * 1)) = some (.slice X x.length xc) := by simpa [Addr.add] using hcs 0 _ rfl
      rw [Nat.mul_one] at e0
      have HE := hide hE
      have HW := hide (show wl (wQ region token seq) 0 ((rs.take (k + 1)).map (parP region)) = wl (wQ region token seq) 0 ((rs.take k).map (parP region)) ++ [⟨2, region, (parP region x).index, token, IntKind.u32.wrap (seq + k), (parP region x).data⟩] by
        rw [ht, List.map_append, List.map_singleton, wl_snoc, List.length_map, List.length_take, show min k rs.length = k by rw [← HN.out]; omega, Nat.zero_add]
        rfl)
      have HSP := hide hsplit
      have HBX := hide hbx
      have H1 := hide (h1.pers1 (R' := fun w' => Ints w' .u8 (.slice X x.length xc) x) (fun w' hr => by obtain ⟨v, e, hi⟩ := hr.2; injection e with e; subst e; exact hi))
      clear hx h h1 hv hcs ht hE hsplit hbx h0
      have i0 : (0 : Int) ≤ (k : Int) := by omega
      have i1 : (k : Int) < (n : Int) := by omega
      go_wp2_with fail
      refine (rpar_st region x X x.length xc _ HBX.out H1.out).mono ?_
      rintro e w2 ⟨v2, rfl, h⟩
      obtain ⟨A2, c2, rfl, _, _, _⟩ := h.get 0 rfl
      generalize parP region x = p at *
      generalize wl (wQ region token seq) 0 ((rs.take k).map (parP region)) = wq at *
      clear H1 e0
      by_cases he : parE x = 0
      · have HE0 := hide he
        rw [he]
        obtain ⟨xs, hq, hxl, hz⟩ := ((h.pers1 (R' := fun w' => ReqP w' [.int .i64 2, .int .i64 region, .int .i64 p.index, .int .u64 token, .int .u32 (IntKind.u32.wrap (seq + k)), .slice A2 p.data.length c2] ⟨2, region, p.index, token, IntKind.u32.wrap (seq + k), p.data⟩) (fun w' hi => ⟨_, rfl, hi⟩)).swap).openGrowS
        have HQ := hide hq
        have HXL := hide hxl
        have HH := hide (hz.junk (.cells #[.int .i64 p.region, .int .i64 p.index, .slice A2 p.data.length c2] 65))
        clear h hq hxl hz he
        obtain ⟨sx, hsx⟩ : ∃ sx, sx = IntKind.u32.wrap (seq + k) := ⟨_, rfl⟩
        have hcv : IntKind.u32.wrap (k : Int) = (k : Int) := IntWalk.u32_in _ (by omega)
        rw [← hsx] at HH HW
        have hsx' : IntKind.u32.wrap (seq + (k : Int)) = sx := hsx.symm
        clear hsx
        go_wp2_with (at_builtin; refine St.app_step reqs2_elem (HH.out.junk _) rfl _ _ rfl rfl (some ⟨w2.heap.size + 1, 0, none⟩) 1 1 rfl [.int .i64 2, .int .i64 region, .int .i64 p.index, .int .u64 token, .int .u32 sx, .slice A2 p.data.length c2] (sl_newG (by simp)) (one_cells6 _ _ _ _ _ _ _ _) (by omega) (by omega) ?_; intro A4 c4 w4 h4)
        have h7 := h4.snocGrow HQ.out rfl HXL.out
        have H7 := hide h7
        clear h4 h7 HH
        go_roundg (n - (k + 1))
        case measure => have := HG.out; omega
        case rel => exact ⟨k + 1, A4, q + 1, c4, rfl, by omega, rfl, by go_num, by have := HQK.out; omega, by rw [HE.out, HE0.out], by rw [HW.out]; exact H7.out⟩
      · have hall : repE rs = parE x := by rw [← HSP.out, repE_more _ _ (by rw [HE.out]; exact he), HE.out]
        have HALL := hide hall
        have hne : (parE x != 0) = true := by simp [he]
        have HNE := hide he
        have H2 := hide (h.tail.tail.tail)
        generalize parE x = ee at *
        clear h he hall
        go_wp2_with fail
        go_ret2
        refine ⟨.slice none 0 0, by rw [HALL.out]; try rfl, ?_⟩
        rw [hR.out, if_neg (by rw [HALL.out]; exact HNE.out)]
        exact (H2.out.junk _).nilGrow _ _ _
    · obtain rfl : k = n := by omega
      have htk : rs.take k = rs := List.take_of_length_le (by rw [← HN.out]; exact Nat.le_refl _)
      rw [htk] at h h0
      have HA := hide (show repQ region token seq rs = wl (wQ region token seq) 0 (rs.map (parP region)) ++ if 0 < k then [⟨5, region, k, token, IntKind.u32.wrap (seq + k), []⟩] else [] by
        rw [hR.out, if_pos h0]
        unfold wAll
        rw [List.length_map, ← HN.out])
      generalize wl (wQ region token seq) 0 (rs.map (parP region)) = wq at *
      have H0 := hide h0
      by_cases hp : 0 < k
      · have d0 : decide ((0 : Int) < (k : Int)) = true := decide_eq_true (by omega)
        have HA2 := hide (HA.out.trans (by rw [if_pos hp]))
        obtain ⟨sx, hsx⟩ : ∃ sx, sx = IntKind.u32.wrap (seq + k) := ⟨_, rfl⟩
        have hcv : IntKind.u32.wrap (k : Int) = (k : Int) := IntWalk.u32_in _ (by omega)
        rw [← hsx] at HA2
        have hsx' : IntKind.u32.wrap (seq + (k : Int)) = sx := hsx.symm
        clear hsx
        obtain ⟨xs, hq, hxl, hz⟩ := ((h.pick (L' := growR 144 6 ReqP (.slice B q d) wq :: L) 2 [0]).pers0 (R := fun w' => ReqP w' [.int .i64 5, .int .i64 region, .int .i64 k, .int .u64 token, .int .u32 sx, .slice none 0 0] ⟨5, region, k, token, sx, []⟩) (fun w' _ => ⟨_, rfl, Ints.none_ w' _⟩)).swap.openGrowS
        have HQ := hide hq
        have HXL := hide hxl
        have HH := hide hz
        clear h h0 htk hq hxl hz HA
        go_wp2_with (at_builtin; refine St.app_step reqs2_elem (HH.out.junk _) rfl _ _ rfl rfl (some ⟨wr.heap.size, 0, none⟩) 1 1 rfl [.int .i64 5, .int .i64 region, .int .i64 k, .int .u64 token, .int .u32 sx, .slice none 0 0] (sl_newG (by simp)) (one_cells6 _ _ _ _ _ _ _ _) (by omega) (by omega) ?_; intro A4 c4 w4 h4)
        have h7 := h4.snocGrow HQ.out rfl HXL.out
        have H7 := hide h7
        clear h4 h7 HH
        go_wp2_with fail
        go_ret2
        exact ⟨.slice A4 (q + 1) c4, by rw [H0.out]; try rfl, by rw [HA2.out]; exact H7.out⟩
      · have d0 : decide ((0 : Int) < (k : Int)) = false := decide_eq_false (by omega)
        have HA2 := hide (HA.out.trans (by rw [if_neg hp, List.append_nil]))
        have H := hide (h.pick (L' := growR 144 6 ReqP (.slice B q d) wq :: L) 2 [0])
        clear h h0 htk HA
        go_wp2_with fail
        go_ret2
        exact ⟨.slice B q d, by rw [H0.out]; try rfl, by rw [HA2.out]; exact H.out⟩
end Go.Proofs.Ytbnjeekhoaapiaa
