/- Redo: the program's Replay. -/
import Derived.Test.YtbnjeekhoaapiaaRedoW
namespace Go.Proofs.Ytbnjeekhoaapiaa
open Go.RowKit

def BytR (w : World) (cs : List Value) (b : List Int) : Prop := ∃ v, cs = [v] ∧ Ints w .u8 v b
def repE : List (List Int) → Int
  | [] => 0
  | b :: r => if parE b = 0 then repE r else parE b
theorem repE_snoc (l : List (List Int)) (b : List Int) (h : repE l = 0) : repE (l ++ [b]) = parE b := by
  induction l with
  | nil => show (if parE b = 0 then 0 else parE b) = _; split <;> simp_all
  | cons p r ih =>
    unfold repE at h
    show (if parE p = 0 then repE (r ++ [b]) else parE p) = _
    split at h
    · rename_i h1
      rw [if_pos h1]
      exact ih h
    · rename_i h1
      exact absurd h h1
theorem repE_more (l r : List (List Int)) (h : repE l ≠ 0) : repE (l ++ r) = repE l := by
  induction l with
  | nil => exact absurd rfl h
  | cons p q ih =>
    unfold repE at h
    show (if parE p = 0 then repE (q ++ r) else parE p) = if parE p = 0 then repE q else parE p
    split at h
    · rename_i h1
      rw [if_pos h1, if_pos h1]
      exact ih h
    · rename_i h1
      rw [if_neg h1, if_neg h1]
def repQ (region token seq : Int) (rs : List (List Int)) : List RQ := if repE rs = 0 then wAll region token seq (rs.map (parP region)) else []
theorem puts_elem : ElemOf Try.prog 46 62 (.agg #[.int .i64 0, .int .i64 0, .slice none 0 0]) 3 40 := ⟨Try.underlying46, by kernel_rfl, by kernel_rfl, by omega⟩
theorem parP_short (region : Int) (b : List Int) : (parP region b).data.length ≤ 23 := by
  unfold parP
  cases b with
  | nil => simp
  | cons i d =>
    show (if parE (i :: d) = 0 then (⟨region, i, d⟩ : PU) else ⟨0, 0, []⟩).data.length ≤ 23
    split
    · rename_i h
      have e : parE (i :: d) = if 4 ≤ i then 101 else if 23 < d.length then 2 else 0 := rfl
      rw [e] at h
      show d.length ≤ 23
      split at h
      · cases h
      · split at h
        · cases h
        · omega
    · simp

set_option maxHeartbeats 2000000 in
set_option maxRecDepth 100000 in
theorem rep_st {M0 : Imm} {L : List Res} (region token seq : Int) (rs : List (List Int)) (A : Option Addr) (n c : Nat) (w : World) (hs : 0 ≤ seq ∧ seq ≤ 4294967295) (hl : rs.length ≤ 1000) (hb : ∀ b ∈ rs, Bytes b ∧ b.length ≤ 140737488355328)
    (h : St M0 w (rowsR 1 BytR (.slice A n c) rs :: L)) :
    Calls Try.prog 26 #[.int .i64 region, .int .u64 token, .int .u32 seq, .slice A n c] w fun e w' => ∃ v, e = .returned (.tuple #[v, .int .i64 (repE rs)]) ∧ St M0 w' (growR 89 6 ReqP v (repQ region token seq rs) :: L) := by
  obtain ⟨A', c', e, hc, hm⟩ := (h.getRows 0 rfl).slice
  injection e with e1 e2 e3
  subst e1; subst e3
  have HN := hide e2
  have hn : n ≤ 1000 := by omega
  have H := hide (h.nilGrow 62 3 PutR)
  have HS := hide hs
  have HB := hide hb
  have hR := hide (show repQ region token seq rs = if repE rs = 0 then wAll region token seq (rs.map (parP region)) else [] from rfl)
  clear h e2 hl hs hb
  go_enter Try.func26, Try.ntmps26
  go_wp2_with fail
  go_loopg [10, 18] n (fun gh v i wr => ∃ (k : Nat) (B : Option Addr) (q d : Nat), gh = n - k ∧ k ≤ n ∧ v = .slice B q d ∧ i = .int .i64 (k : Nat) ∧ q = k ∧ repE (rs.take k) = 0 ∧ St M0 wr (growR 62 3 PutR (.slice B q d) ((rs.take k).map (parP region)) :: rowsR 1 BytR (.slice A n c) rs :: L))
  case atStart => exact ⟨0, none, 0, 0, rfl, by omega, rfl, rfl, rfl, rfl, H.out⟩
  case round =>
    clear H
    obtain ⟨k, B, q, d, hg, hk, rfl, rfl, hqk, h0, h⟩ := hrel
    have HG := hide hg
    have HQK := hide hqk
    have ql : q ≤ 1000 := by omega
    clear hg hqk
    by_cases hlt : k < n
    · have hx := List.getElem?_eq_getElem (l := rs) (i := k) (by rw [← HN.out]; exact hlt)
      generalize rs[k]'(by rw [← HN.out]; exact hlt) = x at hx
      have hbx := HB.out x (List.mem_of_getElem? hx)
      have ht : rs.take (k + 1) = rs.take k ++ [x] := by rw [List.take_add_one, hx]; rfl
      have hE := repE_snoc (rs.take k) x h0
      rw [← ht] at hE
      have hsplit : rs.take (k + 1) ++ rs.drop (k + 1) = rs := List.take_append_drop _ _
      obtain ⟨ad, cs, rfl, _, hcs, ⟨v, rfl, hv⟩, h1⟩ := h.elem 1 rfl hx
      obtain ⟨X, xc, rfl, _, _, _⟩ := id hv
      have e0 : wr.cell? (ad.add (k * 1)) = some (.slice X x.length xc) := by simpa [Addr.add] using hcs 0 _ rfl
      rw [Nat.mul_one] at e0
      have HE := hide hE
      have HT := hide ht
      have HSP := hide hsplit
      have HBX := hide hbx
      have H1 := hide (h1.pers1 (R' := fun w' => Ints w' .u8 (.slice X x.length xc) x) (fun w' hr => by obtain ⟨v, e, hi⟩ := hr.2; injection e with e; subst e; exact hi))
      clear hx h h1 hv hcs ht hE hsplit hbx h0
      have i0 : (0 : Int) ≤ (k : Int) := by omega
      have i1 : (k : Int) < (n : Int) := by omega
      go_wp2_with fail
      refine (par_st region x X x.length xc _ HBX.out.1 HBX.out.2 H1.out).mono ?_
      rintro e w2 ⟨v2, rfl, h⟩
      obtain ⟨A2, c2, rfl, _, _, _⟩ := h.get 0 rfl
      have HSH := hide (parP_short region x)
      generalize hpp : parP region x = p at *
      have HPP := hide hpp
      clear H1 e0 hpp
      by_cases he : parE x = 0
      · have HE0 := hide he
        rw [he]
        obtain ⟨xs, hq, hxl, hz⟩ := h.swap.openGrowS
        have HQ := hide hq
        have HXL := hide hxl
        have HH := hide (hz.junk (.cells #[.int .i64 p.region, .int .i64 p.index, .slice A2 p.data.length c2] 62))
        clear h hq hxl hz he
        go_wp2_with (at_builtin; refine St.app_step puts_elem (HH.out.junk _) rfl _ _ rfl rfl (some ⟨w2.heap.size + 1, 0, none⟩) 1 1 rfl [.int .i64 p.region, .int .i64 p.index, .slice A2 p.data.length c2] (sl_newG (by simp)) (by intro u hu; simp at hu; rcases hu with rfl | rfl | rfl <;> rfl) (by omega) (by omega) ?_; intro A4 c4 w4 h4)
        have h7 := ((h4.up2.pers1 (R' := fun w' => PutR w' [.int .i64 p.region, .int .i64 p.index, .slice A2 p.data.length c2] p) (fun w' hi => ⟨_, rfl, hi⟩)).dn2).snocGrow HQ.out rfl HXL.out
        have H7 := hide h7
        clear h4 h7 HH
        go_roundg (n - (k + 1))
        case measure => have := HG.out; omega
        case rel => exact ⟨k + 1, A4, q + 1, c4, rfl, by omega, rfl, by go_num, by have := HQK.out; omega, by rw [HE.out, HE0.out], by rw [HT.out, List.map_append, List.map_singleton, HPP.out]; exact H7.out⟩
      · have hall : repE rs = parE x := by rw [← HSP.out, repE_more _ _ (by rw [HE.out]; exact he), HE.out]
        have HALL := hide hall
        have hne : (parE x != 0) = true := by simp [he]
        have HNE := hide he
        have H2 := hide (h.tail.tail.tail)
        generalize parE x = ee at *
        clear h he hall
        go_wp2_with fail
        go_ret2
        refine ⟨.slice none 0 0, by rw [HALL.out]; try rfl, ?_⟩
        rw [hR.out, if_neg (by rw [HALL.out]; exact HNE.out)]
        exact (H2.out.junk _).nilGrow _ _ _
    · obtain rfl : k = n := by omega
      have htk : rs.take k = rs := List.take_of_length_le (by rw [← HN.out]; exact Nat.le_refl _)
      rw [htk] at h h0
      have hlen : (rs.map (parP region)).length ≤ 1000 := by rw [List.length_map, ← HN.out]; omega
      have HLEN := hide hlen
      have H0 := hide h0
      have h2 := (h.pick (L' := growR 62 3 PutR (.slice B q d) (rs.map (parP region)) :: L) 2 [0]).rowsGrow
      have h3 := (h2.nilGrow 89 6 ReqP).alloc 138 #[.int .i64 region, .int .u64 token, .int .u32 seq, .slice none 0 0]
      have h4 := St.addEx (f := fun v => starR (blkR wr.heap.size 138 #[.int .i64 region, .int .u64 token, .int .u32 seq, v]) (growR 89 6 ReqP v [])) (.slice none 0 0) h3.addStar
      have H4 : Hid (St M0 (wr.alloc (.cells #[.int .i64 region, .int .u64 token, .int .u32 seq, .slice none 0 0] 138)) (rowsR 3 PutR (.slice B q d) (rs.map (parP region)) :: planR wr.heap.size region token seq [] :: L)) := hide h4.swap
      clear h h0 htk hlen h2 h3 h4
      go_wp2_with fail
      refine (writes_st wr.heap.size region token seq [] (rs.map (parP region)) B q d _ HS.out (by have := HLEN.out; simp only [List.length_nil]; omega) (fun x hx => by obtain ⟨b, _, rfl⟩ := List.mem_map.1 hx; exact parP_short region b) H4.out).mono ?_
      rintro e w5 ⟨rfl, h⟩
      obtain ⟨v5, h5⟩ := h.ex
      have h6 := h5.star
      obtain ⟨A5, c5, q5, vs5, rfl, -, -⟩ := h6.swap.openGrow
      have x3 : w5.cell? ⟨wr.heap.size, 3, none⟩ = some (.slice A5 q5 c5) := (h6.blk 0 rfl).cell 3
      have H6 := hide h6.tail
      clear H4 h h5 h6
      go_wp2_with fail
      go_ret2
      refine ⟨.slice A5 q5 c5, by rw [H0.out]; try rfl, ?_⟩
      rw [hR.out, if_pos H0.out]
      exact H6.out
end Go.Proofs.Ytbnjeekhoaapiaa
