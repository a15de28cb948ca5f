/- ImageOnce: the law's walk. Printed by gen_imgon.py. -/
import Derived.Test.YtdhkklcjhbnnlaaImgL
import Derived.Test.YtdhkklcjhbnnlaaImgP
namespace Go.Proofs.Ytdhkklcjhbnnlaa
open Go.RowKit

theorem check_again {m : Nat → Rg} {x : RQ} (h0 : (checkI m x).2 = 0) (h1 : (checkI m x).1 = true) : checkI (doM m x) x = (false, 0) := by
  have hg := check_ok h0
  obtain ⟨hc, ht, _⟩ := check_fresh h1
  have hm : doM m x = upd m x.region.toNat ((m x.region.toNat).act x) := if_pos ⟨h0, h1⟩
  unfold checkI
  rw [if_neg (fun h => h hg.w), if_neg (by have := hg.k; omega), if_neg (fun h => by have := hg.i h.1; omega), hm, upd_at, if_neg ?_, if_pos hc]
  · show Rg.nextA x.token x.seq _ x = _
    unfold Rg.nextA
    rw [if_neg (by omega), if_pos rfl]
  · rintro (h | h)
    · have h : x.token < x.token := h
      omega
    · exact ht h.1
theorem once_m (m : Nat → Rg) (x : RQ) : doM (doM m x) x = doM m x := by
  by_cases h : (checkI m x).2 = 0 ∧ (checkI m x).1 = true
  · have := check_again h.1 h.2
    generalize doM m x = q at *
    unfold doM
    rw [if_neg (by rw [this]; simp)]
  · have hm : doM m x = m := if_neg h
    rw [hm, hm]
theorem once_e (m : Nat → Rg) (x : RQ) (h0 : (checkI m x).2 = 0) : (checkI (doM m x) x).2 = 0 := by
  by_cases h : (checkI m x).1 = true
  · rw [check_again h0 h]
  · have hm : doM m x = m := if_neg (fun h' => h h'.2)
    rw [hm, h0]

set_option maxRecDepth 100000 in
set_option maxHeartbeats 4000000 in
theorem once_st {M0 : Imm} {L : List Res} (v : Value) (l : List RQ) (w : World) (h : St M0 w (rowsR 6 ReqR v l :: L)) :
    Calls Try.prog 11 #[v] w fun e w' => e = .returned (.bool true) ∧ St M0 w' L := by
  obtain ⟨A, c, rfl, hc, hm⟩ := (h.getRows 0 rfl).slice
  have hok : ∀ x ∈ l, x.ok := fun x hx => by
    obtain ⟨k, hk⟩ := List.mem_iff_getElem?.1 hx
    obtain ⟨_, _, _, _, h1, _⟩ := h.req 0 rfl hk
    exact h1
  generalize hn : l.length = n at *
  have HN := hide hn
  have HK := hide hok
  have H := hide h
  clear hn h hok
  by_cases t0 : 60 < n
  · have dt0 : decide ((60 : Int) < (n : Int)) = true := decide_eq_true (by omega)
    go_enter Try.func11, Try.ntmps11
    go_wp2_with fail
    refine (awake_st _ H.out).mono ?_
    rintro e w1 ⟨rfl, h⟩
    have H1 := hide h
    clear H h
    go_wp2_with fail
    go_ret
    exact ⟨rfl, H1.out.tail.grow ((Fr.refl _ _).alloc _)⟩
  have dt0 : decide ((60 : Int) < (n : Int)) = false := decide_eq_false (by omega)
  clear t0
  go_enter Try.func11, Try.ntmps11
  go_wp2_with fail
  refine (awake_st _ H.out).mono ?_
  rintro e w1 ⟨rfl, h⟩
  have H1 := hide h
  clear H h
  go_wp2_with fail
  have H2 := hide H1.out.newImg
  clear H1 dt0
  generalize w1.heap.size = g at *
  go_loopg [5] n (fun gh i wr => ∃ (k : Nat), gh = n - k ∧ k ≤ n ∧ i = .int .i64 (k : Nat) ∧ St M0 wr (imgR g (runI (l.take k)) :: rowsR 6 ReqR (.slice A n c) l :: L))
  case atStart => exact ⟨0, rfl, by omega, rfl, H2.out⟩
  case round =>
    clear H2
    obtain ⟨k, hg, hk, rfl, h⟩ := hrel
    have HG := hide hg
    clear hg
    have hrun := run_ok HK.out k
    by_cases hlt : k < n
    · have hx := List.getElem?_eq_getElem (l := l) (i := k) (by rw [HN.out]; exact hlt)
      generalize l[k]'(by rw [HN.out]; exact hlt) = x at hx
      have hsn := runI_snoc hx
      obtain ⟨ad, B1, d1, rfl, hxo, h1⟩ := h.req 1 rfl hx
      obtain ⟨e0, e1, e2, e3, e4, e5⟩ := cells6 (h1.get 0 rfl).1
      generalize runI (l.take k) = m at *
      have HS := hide hsn
      have HR := hide hrun
      have HR2 := hide (doM_ok hrun hxo)
      have H1 := hide ((h1.copy 0 rfl).pers1 (R' := fun w' => Ints w' .u8 (.slice B1 x.data.length d1) x.data) (fun w' hr => hr.2))
      clear hx hsn h h1 hrun
      generalize hnx : x.data.length = nx at *
      clear hnx
      have i0 : (0 : Int) ≤ (k : Int) := by omega
      have i1 : (k : Int) < (n : Int) := by omega
      go_wp2_with fail
      refine (do_st g m x B1 nx d1 _ hxo HR.out (H1.out.pick (L' := intsR .u8 (.slice B1 nx d1) x.data :: imgR g m :: persR (fun w' => (∀ j u, [Value.int .i64 x.op, .int .i64 x.region, .int .i64 x.index, .int .u64 x.token, .int .u32 x.seq, .slice B1 nx d1][j]? = some u → w'.cell? ((ad.add (k * 6)).add j) = some u) ∧ Ints w' .u8 (.slice B1 nx d1) x.data) :: rowsR 6 ReqR (.slice (some ad) n c) l :: L) 3 [0, 2, 1])).mono ?_
      rintro e w3 ⟨V, rfl, h⟩
      obtain ⟨e0, e1, e2, e3, e4, e5⟩ := cells6 (h.get 2 rfl).1
      have H2 := hide h.tail
      clear H1 h
      go_wp2_with fail
      refine (pack_st g (doM m x) _ HR2.out H2.out).mono ?_
      rintro e w4 ⟨p, rfl, h⟩
      have h2 := h.ints
      obtain ⟨A2, c2, rfl, _, _, _⟩ := h2.get 0 rfl
      obtain ⟨e0, e1, e2, e3, e4, e5⟩ := cells6 (h2.get 2 rfl).1
      have h3 := (h2.copy 2 rfl).pers1 (R' := fun w' => Ints w' .u8 (.slice B1 nx d1) x.data) (fun w' hr => hr.2)
      have H3 := hide (h3.pick (L' := intsR .u8 (.slice B1 nx d1) x.data :: imgR g (doM m x) :: intsR .u8 (.slice A2 (packI (doM m x)).length c2) (packI (doM m x)) :: rowsR 6 ReqR (.slice (some ad) n c) l :: L) 5 [0, 2, 1, 4])
      clear H2 h h2 h3
      go_wp2_with fail
      refine (do_st g (doM m x) x B1 nx d1 _ hxo HR2.out H3.out).mono ?_
      rintro e w5 ⟨U, rfl, h⟩
      rw [once_m] at h
      have H4 := hide h.tail
      clear H3 h e0 e1 e2 e3 e4 e5
      go_wp2_with fail
      refine (pack_st g (doM m x) _ HR2.out H4.out).mono ?_
      rintro e w6 ⟨q, rfl, h⟩
      have h2 := h.ints
      obtain ⟨A3, c3, rfl, _, _, _⟩ := h2.get 0 rfl
      have H5 := hide h2
      clear H4 h h2
      go_wp2_with fail
      refine (same_true _ _ (packI (doM m x)) _ (H5.out.get 2 rfl) (H5.out.get 0 rfl) H5.out).mono ?_
      rintro e w7 ⟨rfl, h⟩
      have H6 := hide (h.pick (L' := imgR g (doM m x) :: rowsR 6 ReqR (.slice (some ad) n c) l :: L) 4 [1, 3])
      clear H5 h
      by_cases hz : (checkI m x).2 = 0
      · have hz2 := once_e m x hz
        rw [hz, hz2]
        clear hz hz2
        go_wp2_with fail
        go_roundg (n - (k + 1))
        case measure => have := HG.out; omega
        case rel => exact ⟨k + 1, rfl, by omega, by go_num, by rw [HS.out]; exact H6.out⟩
      · have b0 := isF hz
        generalize (checkI m x).2 = z at *
        clear hz
        go_wp2_with fail
        go_roundg (n - (k + 1))
        case measure => have := HG.out; omega
        case rel => exact ⟨k + 1, rfl, by omega, by go_num, by rw [HS.out]; exact H6.out⟩
    · obtain rfl : k = n := by omega
      have H := hide h
      clear h hrun
      go_wp2_with fail
      go_ret
      exact ⟨rfl, H.out.tail.tail⟩

end Go.Proofs.Ytdhkklcjhbnnlaa
