/- ImageFenced: the law's walk. Printed by gen_imgfe.py. -/
import Derived.Test.YtdhkklcjhbnnlaaImgL
import Derived.Test.YtdhkklcjhbnnlaaImgP
namespace Go.Proofs.Ytdhkklcjhbnnlaa
open Go.RowKit

theorem highI_good {m : Nat → Rg} {x : RQ} (h : Good m x) : highI m x.region = (m x.region.toNat).high := by
  have := RQ.wrong_zero h.w
  exact if_pos ⟨by omega, h.k⟩
theorem high_up (m : Nat → Rg) (x : RQ) : highI m x.region ≤ highI (doM m x) x.region := by
  by_cases h : (checkI m x).2 = 0 ∧ (checkI m x).1 = true
  · have hg := check_ok h.1
    have hz := RQ.wrong_zero hg.w
    have e : doM m x = upd m x.region.toNat ((m x.region.toNat).act x) := if_pos h
    rw [highI_good hg, e]
    unfold highI
    rw [if_pos ⟨by omega, hg.k⟩, upd_at]
    exact hg.t
  · have e : doM m x = m := if_neg h
    rw [e]
    exact Int.le_refl _
theorem high_token (m : Nat → Rg) (x : RQ) (h : (checkI m x).2 = 0) : highI m x.region ≤ x.token := by
  rw [highI_good (check_ok h)]
  exact (check_ok h).t
theorem fenced_e {m : Nat → Rg} {x : RQ} (hx : 0 ≤ x.token) (h : x.token < highI m x.region) : (checkI m x).2 = 100 ∨ (checkI m x).2 = 1 ∨ (checkI m x).2 = 2 ∨ (checkI m x).2 = 93 ∨ (checkI m x).2 = 101 := by
  have h4 : x.token < (m x.region.toNat).high := by
    unfold highI at h
    split at h
    · exact h
    · omega
  unfold checkI
  split
  · rename_i hw
    unfold RQ.wrong at hw ⊢
    split
    · exact .inr (.inl rfl)
    · split
      · exact .inr (.inr (.inl rfl))
      · rename_i h1 h2
        rw [if_neg h1, if_neg h2] at hw
        exact absurd rfl hw
  · split
    · exact .inr (.inr (.inr (.inl rfl)))
    · split
      · exact .inr (.inr (.inr (.inr rfl)))
      · rw [if_pos (.inl h4)]
        exact .inl rfl
theorem fenced_m {m : Nat → Rg} {x : RQ} (h : (checkI m x).2 ≠ 0) : doM m x = m ∧ doO m x = [] := ⟨if_neg (fun h' => h h'.1), if_neg h⟩

set_option maxRecDepth 100000 in
set_option maxHeartbeats 4000000 in
theorem fenced_st {M0 : Imm} {L : List Res} (v : Value) (l : List RQ) (r : RQ) (B : Option Addr) (nb d : Nat) (w : World) (hr : r.ok) (h : St M0 w (rowsR 6 ReqR v l :: intsR .u8 (.slice B nb d) r.data :: L)) :
    Calls Try.prog 12 #[v, reqV r (.slice B nb d)] w fun e w' => e = .returned (.bool true) ∧ St M0 w' L := by
  obtain ⟨A, c, rfl, hc, hm⟩ := (h.getRows 0 rfl).slice
  have hok : ∀ x ∈ l, x.ok := fun x hx => by
    obtain ⟨k, hk⟩ := List.mem_iff_getElem?.1 hx
    obtain ⟨_, _, _, _, h1, _⟩ := h.req 0 rfl hk
    exact h1
  generalize hn : l.length = n at *
  have HN := hide hn
  have HK := hide hok
  have HRQ := hide hr
  have HFE := hide (fun m => fenced_e (m := m) hr.t0)
  have h := h.alloc 69 #[.int .i64 r.op, .int .i64 r.region, .int .i64 r.index, .int .u64 r.token, .int .u32 r.seq, .slice B nb d]
  have H := hide h
  obtain ⟨op, region, index, token, seq, data⟩ := r
  clear hr
  clear hn h hok
  by_cases t0 : 80 < n
  · have dt0 : decide ((80 : Int) < (n : Int)) = true := decide_eq_true (by omega)
    go_enter Try.func12, Try.ntmps12
    go_wp2_with fail
    refine (awake_st _ H.out).mono ?_
    rintro e w1 ⟨rfl, h⟩
    have H1 := hide h
    clear H h
    go_wp2_with fail
    go_ret
    exact ⟨rfl, (H1.out.pick 3 []).grow ((Fr.refl _ _).alloc _)⟩
  have dt0 : decide ((80 : Int) < (n : Int)) = false := decide_eq_false (by omega)
  clear t0
  go_enter Try.func12, Try.ntmps12
  go_wp2_with fail
  refine (awake_st _ H.out).mono ?_
  rintro e w1 ⟨rfl, h⟩
  have H1 := hide h
  clear H h
  go_wp2_with fail
  have H2 := hide (H1.out.newImg.pick (L' := imgR w1.heap.size aw0 :: rowsR 6 ReqR (.slice A n c) l :: blkR w.heap.size 69 #[.int .i64 op, .int .i64 region, .int .i64 index, .int .u64 token, .int .u32 seq, .slice B nb d] :: intsR .u8 (.slice B nb d) data :: L) 4 [0, 2, 1, 3])
  clear H1 dt0
  generalize w1.heap.size = g at *
  go_loopg [7] n (fun gh i wr => ∃ (k : Nat), gh = n - k ∧ k ≤ n ∧ i = .int .i64 (k : Nat) ∧ St M0 wr (imgR g (runI (l.take k)) :: rowsR 6 ReqR (.slice A n c) l :: blkR w.heap.size 69 #[.int .i64 op, .int .i64 region, .int .i64 index, .int .u64 token, .int .u32 seq, .slice B nb d] :: intsR .u8 (.slice B nb d) data :: L))
  case atStart => exact ⟨0, rfl, by omega, rfl, H2.out⟩
  case round =>
    clear H2
    obtain ⟨k, hg, hk, rfl, h⟩ := hrel
    have HG := hide hg
    clear hg
    have hrun := run_ok HK.out k
    by_cases hlt : k < n
    · have hx := List.getElem?_eq_getElem (l := l) (i := k) (by rw [HN.out]; exact hlt)
      generalize l[k]'(by rw [HN.out]; exact hlt) = x at hx
      have hsn := runI_snoc hx
      obtain ⟨ad, B1, d1, rfl, hxo, h1⟩ := h.req 1 rfl hx
      obtain ⟨e0, e1, e2, e3, e4, e5⟩ := cells6 (h1.get 0 rfl).1
      generalize runI (l.take k) = m at *
      have HS := hide hsn
      have HR := hide hrun
      have hup := high_up m x
      have htk := high_token m x
      generalize hnx : x.data.length = nx at *
      have H1 := hide (h1.pick (L' := imgR g m :: persR (fun w' => (∀ j u, [Value.int .i64 x.op, .int .i64 x.region, .int .i64 x.index, .int .u64 x.token, .int .u32 x.seq, .slice B1 nx d1][j]? = some u → w'.cell? ((ad.add (k * 6)).add j) = some u) ∧ Ints w' .u8 (.slice B1 nx d1) x.data) :: rowsR 6 ReqR (.slice (some ad) n c) l :: blkR w.heap.size 69 #[.int .i64 op, .int .i64 region, .int .i64 index, .int .u64 token, .int .u32 seq, .slice B nb d] :: intsR .u8 (.slice B nb d) data :: L) 5 [1, 0, 2, 3, 4])
      have HUP := hide hup
      have HTK := hide htk
      clear hx hsn h h1 hrun hnx hup htk
      have i0 : (0 : Int) ≤ (k : Int) := by omega
      have i1 : (k : Int) < (n : Int) := by omega
      go_wp2_with fail
      refine (high_st g m x.region _ H1.out).mono ?_
      rintro e w2 ⟨rfl, h⟩
      obtain ⟨e0, e1, e2, e3, e4, e5⟩ := cells6 (h.get 1 rfl).1
      have h3 := (h.copy 1 rfl).pers1 (R' := fun w' => Ints w' .u8 (.slice B1 nx d1) x.data) (fun w' hr => hr.2)
      have H2 := hide h3
      clear H1 h h3
      go_wp2_with fail
      refine (do_st g m x B1 nx d1 _ hxo HR.out H2.out).mono ?_
      rintro e w3 ⟨V, rfl, h⟩
      obtain ⟨e0, e1, e2, e3, e4, e5⟩ := cells6 (h.get 2 rfl).1
      have H3 := hide h.swap
      clear H2 h
      go_wp2_with fail
      refine (high_st g (doM m x) x.region _ H3.out).mono ?_
      rintro e w4 ⟨rfl, h⟩
      obtain ⟨e0, e1, e2, e3, e4, e5⟩ := cells6 (h.get 2 rfl).1
      have H4 := hide h
      clear H3 h
      generalize highI m x.region = h1 at *
      generalize highI (doM m x) x.region = h2 at *
      have d1 : decide (h2 < h1) = false := decide_eq_false (by have := HUP.out; omega)
      by_cases hz : (checkI m x).2 = 0
      · have d2 : decide (x.token < h1) = false := decide_eq_false (by have := HTK.out hz; omega)
        rw [hz]
        clear hz
        go_wp2_with fail
        go_roundg (n - (k + 1))
        case measure => have := HG.out; omega
        case rel => exact ⟨k + 1, rfl, by omega, by go_num, by rw [HS.out]; exact H4.out.pick 6 [0, 3, 4, 5]⟩
      · have b0 := isF hz
        generalize (checkI m x).2 = z at *
        clear hz
        go_wp2_with fail
        go_roundg (n - (k + 1))
        case measure => have := HG.out; omega
        case rel => exact ⟨k + 1, rfl, by omega, by go_num, by rw [HS.out]; exact H4.out.pick 6 [0, 3, 4, 5]⟩
    · obtain rfl : k = n := by omega
      rw [List.take_of_length_le (by rw [HN.out]; exact Nat.le_refl _)] at h
      have hm := runI_ok l aw0 HK.out aw_ok0
      change ∀ k, (runI l k).ok at hm
      generalize runI l = m at *
      have HM := hide hm
      have H := hide h
      clear h hrun hm
      go_wp2_with fail
      refine (pack_st g m _ HM.out H.out).mono ?_
      rintro e w2 ⟨p, rfl, h⟩
      have h2 := h.ints
      obtain ⟨A2, c2, rfl, _, _, _⟩ := h2.get 0 rfl
      have H2 := hide (h2.pick (L' := imgR g m :: blkR w.heap.size 69 #[.int .i64 op, .int .i64 region, .int .i64 index, .int .u64 token, .int .u32 seq, .slice B nb d] :: intsR .u8 (.slice A2 (packI m).length c2) (packI m) :: intsR .u8 (.slice B nb d) data :: L) 5 [1, 3, 0, 4])
      obtain ⟨e0, e1, e2, e3, e4, e5⟩ := (H2.out.blk 1 rfl).six
      clear H h h2
      go_wp2_with fail
      refine (high_st g m region _ H2.out).mono ?_
      rintro e w3 ⟨rfl, h⟩
      obtain ⟨e0, e1, e2, e3, e4, e5⟩ := (h.blk 1 rfl).six
      have H3 := hide (h.pick (L' := intsR .u8 (.slice B nb d) data :: imgR g m :: blkR w.heap.size 69 #[.int .i64 op, .int .i64 region, .int .i64 index, .int .u64 token, .int .u32 seq, .slice B nb d] :: intsR .u8 (.slice A2 (packI m).length c2) (packI m) :: L) 4 [3, 0, 1, 2])
      clear H2 h
      go_wp2_with fail
      refine (do_st g m ⟨op, region, index, token, seq, data⟩ B nb d _ HRQ.out HM.out H3.out).mono ?_
      rintro e w4 ⟨V, rfl, h⟩
      obtain ⟨AV, cV, rfl, _, _⟩ := (h.getRows 0 rfl).slice
      have HM2 := hide (doM_ok HM.out HRQ.out)
      have HFM := hide (fun hz => fenced_m (m := m) (x := ⟨op, region, index, token, seq, data⟩) hz)
      have HF := hide (HFE.out m)
      have H4 := hide h.swap
      clear H3 h e0 e1 e2 e3 e4 e5
      go_wp2_with fail
      refine (pack_st g _ _ HM2.out H4.out).mono ?_
      rintro e w5 ⟨q, rfl, h⟩
      have h2 := h.ints
      obtain ⟨A3, c3, rfl, _, _, _⟩ := h2.get 0 rfl
      obtain ⟨e0, e1, e2, e3, e4, e5⟩ := (h2.blk 3 rfl).six
      have H5 := hide (h2.pick (L' := intsR .u8 (.slice A3 (packI (doM m ⟨op, region, index, token, seq, data⟩)).length c3) (packI (doM m ⟨op, region, index, token, seq, data⟩)) :: imgR g (doM m ⟨op, region, index, token, seq, data⟩) :: blkR w.heap.size 69 #[.int .i64 op, .int .i64 region, .int .i64 index, .int .u64 token, .int .u32 seq, .slice B nb d] :: intsR .u8 (.slice A2 (packI m).length c2) (packI m) :: L) 5 [0, 1, 3, 4])
      clear H4 h h2
      by_cases hlow : token < highI m region
      · have dl : decide (highI m region ≤ token) = false := decide_eq_false (by omega)
        have hz := HF.out hlow
        generalize highI m region = hi at *
        obtain ⟨hdm, hdo⟩ := HFM.out (by rcases hz with h | h | h | h | h <;> rw [h] <;> decide)
        have h5 := H5.out
        rw [hdm] at h5
        rw [hdo, hdm]
        have H6 := hide h5
        clear hlow HF HFM HFE hdm hdo H5 h5
        rcases hz with hz | hz | hz | hz | hz
        · rw [hz]
          clear hz
          go_wp2_with fail
          refine (same_true _ _ (packI m) _ (H6.out.get 3 rfl) (H6.out.get 0 rfl) H6.out).mono ?_
          rintro e w9 ⟨rfl, h⟩
          have H7 := hide h
          clear H6 h
          go_wp2_with fail
          go_ret
          exact ⟨rfl, H7.out.pick 4 []⟩
        · rw [hz]
          clear hz
          go_wp2_with fail
          refine (same_true _ _ (packI m) _ (H6.out.get 3 rfl) (H6.out.get 0 rfl) H6.out).mono ?_
          rintro e w9 ⟨rfl, h⟩
          have H7 := hide h
          clear H6 h
          go_wp2_with fail
          go_ret
          exact ⟨rfl, H7.out.pick 4 []⟩
        · rw [hz]
          clear hz
          go_wp2_with fail
          refine (same_true _ _ (packI m) _ (H6.out.get 3 rfl) (H6.out.get 0 rfl) H6.out).mono ?_
          rintro e w9 ⟨rfl, h⟩
          have H7 := hide h
          clear H6 h
          go_wp2_with fail
          go_ret
          exact ⟨rfl, H7.out.pick 4 []⟩
        · rw [hz]
          clear hz
          go_wp2_with fail
          refine (same_true _ _ (packI m) _ (H6.out.get 3 rfl) (H6.out.get 0 rfl) H6.out).mono ?_
          rintro e w9 ⟨rfl, h⟩
          have H7 := hide h
          clear H6 h
          go_wp2_with fail
          go_ret
          exact ⟨rfl, H7.out.pick 4 []⟩
        · rw [hz]
          clear hz
          go_wp2_with fail
          refine (same_true _ _ (packI m) _ (H6.out.get 3 rfl) (H6.out.get 0 rfl) H6.out).mono ?_
          rintro e w9 ⟨rfl, h⟩
          have H7 := hide h
          clear H6 h
          go_wp2_with fail
          go_ret
          exact ⟨rfl, H7.out.pick 4 []⟩
      · have dl : decide (highI m region ≤ token) = true := decide_eq_true (by omega)
        generalize highI m region = hi at *
        clear hlow
        go_wp2_with fail
        go_ret
        exact ⟨rfl, H5.out.pick 4 []⟩

end Go.Proofs.Ytdhkklcjhbnnlaa
