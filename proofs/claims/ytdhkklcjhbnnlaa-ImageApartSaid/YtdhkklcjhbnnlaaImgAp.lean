/- ImageApart: the law's walk. Printed by gen_imgap.py. -/
import Derived.Test.YtdhkklcjhbnnlaaImgL
import Derived.Test.YtdhkklcjhbnnlaaImgS
namespace Go.Proofs.Ytdhkklcjhbnnlaa
open Go.RowKit

theorem check_near {m q : Nat → Rg} {x : RQ} {a : Nat} (hx : x.region = a) (h : m a = q a) : checkI m x = checkI q x := by
  unfold checkI
  rw [hx, Int.toNat_natCast, h]
theorem doM_near {m q : Nat → Rg} {x : RQ} {a : Nat} (hx : x.region = a) (h : m a = q a) : doM m x a = doM q x a := by
  unfold doM
  rw [check_near hx h]
  split
  · rw [hx, Int.toNat_natCast, upd_at, upd_at, h]
  · exact h
theorem doO_near {m q : Nat → Rg} {x : RQ} {a : Nat} (hx : x.region = a) (h : m a = q a) : doO m x = doO q x := by
  have h2 := doM_near hx h
  unfold doO
  rw [check_near hx h]
  split
  · rw [show x.region.toNat = a by rw [hx, Int.toNat_natCast], h2]
  · rfl
theorem doM_far {m : Nat → Rg} {x : RQ} {a : Nat} (hx : x.region ≠ a) : doM m x a = m a := by
  unfold doM
  split
  · rename_i h
    have hz := RQ.wrong_zero (check_ok h.1).w
    exact upd_ne _ _ _ _ (by omega)
  · rfl

set_option maxRecDepth 100000 in
set_option maxHeartbeats 4000000 in
theorem apart_st {M0 : Imm} {L : List Res} (v : Value) (l : List RQ) (a : Int) (w : World) (h : St M0 w (rowsR 6 ReqR v l :: L)) :
    Calls Try.prog 10 #[v, .int .i64 a] w fun e w' => e = .returned (.bool true) ∧ St M0 w' L := by
  obtain ⟨A, c, rfl, hc, hm⟩ := (h.getRows 0 rfl).slice
  have hok : ∀ x ∈ l, x.ok := fun x hx => by
    obtain ⟨k, hk⟩ := List.mem_iff_getElem?.1 hx
    obtain ⟨_, _, _, _, h1, _⟩ := h.req 0 rfl hk
    exact h1
  generalize hn : l.length = n at *
  have HN := hide hn
  have HK := hide hok
  have H := hide h
  clear hn h hok
  by_cases t0 : 80 < n
  · have dt0 : decide ((80 : Int) < (n : Int)) = true := decide_eq_true (by omega)
    go_enter Try.func10, Try.ntmps10
    go_wp2_with fail
    refine (awake_st _ H.out).mono ?_
    rintro e w1 ⟨rfl, h⟩
    have H1 := hide h
    clear H h
    go_wp2_with fail
    go_ret
    exact ⟨rfl, H1.out.tail.grow (((Fr.refl _ _).alloc _).alloc _)⟩
  have dt0 : decide ((80 : Int) < (n : Int)) = false := decide_eq_false (by omega)
  by_cases t1 : a < 0
  · have dt1 : decide (a < 0) = true := decide_eq_true (by omega)
    go_enter Try.func10, Try.ntmps10
    go_wp2_with fail
    refine (awake_st _ H.out).mono ?_
    rintro e w1 ⟨rfl, h⟩
    have H1 := hide h
    clear H h
    go_wp2_with fail
    go_ret
    exact ⟨rfl, H1.out.tail.grow (((Fr.refl _ _).alloc _).alloc _)⟩
  have dt1 : decide (a < 0) = false := decide_eq_false (by omega)
  by_cases t2 : 3 < a
  · have dt2 : decide (3 < a) = true := decide_eq_true (by omega)
    go_enter Try.func10, Try.ntmps10
    go_wp2_with fail
    refine (awake_st _ H.out).mono ?_
    rintro e w1 ⟨rfl, h⟩
    have H1 := hide h
    clear H h
    go_wp2_with fail
    go_ret
    exact ⟨rfl, H1.out.tail.grow (((Fr.refl _ _).alloc _).alloc _)⟩
  have dt2 : decide (3 < a) = false := decide_eq_false (by omega)
  obtain ⟨a, rfl⟩ := Int.eq_ofNat_of_zero_le (show 0 ≤ a by omega)
  have ha : a < 4 := by omega
  clear t0 t1 t2
  go_enter Try.func10, Try.ntmps10
  go_wp2_with fail
  refine (awake_st _ H.out).mono ?_
  rintro e w1 ⟨rfl, h⟩
  have H1 := hide h
  clear H h
  go_wp2_with fail
  have h2 := H1.out.newImg.newImg
  simp only [World.size_alloc] at h2
  have H2 := hide h2
  clear H1 h2 dt0 dt1 dt2
  generalize w1.heap.size = g at *
  go_loopg [8] n (fun gh i wr => ∃ (k : Nat) (q : Nat → Rg), gh = n - k ∧ k ≤ n ∧ i = .int .i64 (k : Nat) ∧ (∀ j, (q j).ok) ∧ runI (l.take k) a = q a ∧ St M0 wr (imgR (g + 1) q :: imgR g (runI (l.take k)) :: rowsR 6 ReqR (.slice A n c) l :: L))
  case atStart => exact ⟨0, aw0, rfl, by omega, rfl, aw_ok0, rfl, H2.out⟩
  case round =>
    clear H2
    obtain ⟨k, q, hg, hk, rfl, hq, he, h⟩ := hrel
    have HG := hide hg
    have HQ := hide hq
    clear hg hq
    have hrun := run_ok HK.out k
    by_cases hlt : k < n
    · have hx := List.getElem?_eq_getElem (l := l) (i := k) (by rw [HN.out]; exact hlt)
      generalize l[k]'(by rw [HN.out]; exact hlt) = x at hx
      have hsn := runI_snoc hx
      obtain ⟨ad, B1, d1, rfl, hxo, h1⟩ := h.req 2 rfl hx
      obtain ⟨e0, e1, e2, e3, e4, e5⟩ := cells6 (h1.get 0 rfl).1
      generalize runI (l.take k) = m at *
      have HS := hide hsn
      have HE := hide he
      have HR := hide hrun
      have H1 := hide ((h1.copy 0 rfl).pers1 (R' := fun w' => Ints w' .u8 (.slice B1 x.data.length d1) x.data) (fun w' hr => hr.2))
      clear hx hsn h h1 hrun he
      generalize hnx : x.data.length = nx at *
      clear hnx
      have i0 : (0 : Int) ≤ (k : Int) := by omega
      have i1 : (k : Int) < (n : Int) := by omega
      go_wp2_with fail
      have h2 := H1.out.pick (L' := intsR .u8 (.slice B1 nx d1) x.data :: imgR g m :: imgR (g + 1) q :: persR (fun w' => (∀ j u, [Value.int .i64 x.op, .int .i64 x.region, .int .i64 x.index, .int .u64 x.token, .int .u32 x.seq, .slice B1 nx d1][j]? = some u → w'.cell? ((ad.add (k * 6)).add j) = some u) ∧ Ints w' .u8 (.slice B1 nx d1) x.data) :: rowsR 6 ReqR (.slice (some ad) n c) l :: L) 5 [0, 3, 2, 1, 4]
      refine (do_st g m x B1 nx d1 _ hxo HR.out h2).mono ?_
      clear h2
      rintro e w3 ⟨V, rfl, h⟩
      obtain ⟨e0, e1, e2, e3, e4, e5⟩ := cells6 (h.get 3 rfl).1
      clear H1
      have H2 := hide h
      clear h
      by_cases hreg : x.region = (a : Int)
      · have b1 : (x.region == (a : Int)) = true := isT hreg
        have HREG := hide hreg
        clear hreg
        go_wp2_with fail
        have h2 := ((H2.out.copy 3 rfl).pers1 (R' := fun w' => Ints w' .u8 (.slice B1 nx d1) x.data) (fun w' hr => hr.2)).pick (L' := intsR .u8 (.slice B1 nx d1) x.data :: imgR (g + 1) q :: imgR g (doM m x) :: rowsR 1 LogR V (doO m x) :: rowsR 6 ReqR (.slice (some ad) n c) l :: L) 6 [0, 3, 2, 1, 5]
        refine (do_st (g + 1) q x B1 nx d1 _ hxo HQ.out h2).mono ?_
        clear h2 H2
        rintro e w4 ⟨U, rfl, h⟩
        rw [check_near (m := m) (q := q) HREG.out HE.out]
        rw [doO_near (m := m) (q := q) HREG.out HE.out] at h
        have hxx : ((checkI q x).2 != (checkI q x).2) = false := by simp
        generalize (checkI q x).2 = z at *
        have H3 := hide h
        clear h e0 e1 e2 e3 e4 e5
        go_wp2_with fail
        refine (sames_true V U (doO q x) _ (H3.out.getRows 3 rfl) (H3.out.getRows 0 rfl) H3.out).mono ?_
        rintro e w5 ⟨rfl, h⟩
        have H4 := hide h
        clear H3 h
        go_wp2_with fail
        go_roundg (n - (k + 1))
        case measure => have := HG.out; omega
        case rel => exact ⟨k + 1, doM q x, rfl, by omega, by go_num, doM_ok HQ.out hxo, by rw [HS.out]; exact doM_near HREG.out HE.out, by rw [HS.out]; exact H4.out.pick 5 [1, 2, 4]⟩
      · have b1 := isF hreg
        have HREG := hide hreg
        clear hreg
        go_wp2_with fail
        go_roundg (n - (k + 1))
        case measure => have := HG.out; omega
        case rel => exact ⟨k + 1, q, rfl, by omega, by go_num, HQ.out, by rw [HS.out, doM_far HREG.out]; exact HE.out, by rw [HS.out]; exact H2.out.pick 5 [2, 1, 4]⟩
    · obtain rfl : k = n := by omega
      rw [List.take_of_length_le (by rw [HN.out]; exact Nat.le_refl _)] at h he
      have hh : highI (runI l) a = highI q a := by rw [highI_at _ _ ha, highI_at _ _ ha, he]
      have hs : seqI (runI l) a = seqI q a := by rw [seqI_at _ _ ha, seqI_at _ _ ha, he]
      have HH := hide hh
      have HSQ := hide hs
      have H := hide (h.pick (L' := imgR g (runI l) :: imgR (g + 1) q :: L) 3 [1, 0])
      clear h he hh hs hrun
      go_wp2_with fail
      refine (high_st g (runI l) a _ H.out).mono ?_
      rintro e w2 ⟨rfl, h⟩
      have H2 := hide h.swap
      clear H h
      go_wp2_with fail
      refine (high_st (g + 1) q a _ H2.out).mono ?_
      rintro e w3 ⟨rfl, h⟩
      have H3 := hide h.swap
      clear H2 h
      go_wp2_with fail
      refine (seq_st g (runI l) a _ H3.out).mono ?_
      rintro e w4 ⟨rfl, h⟩
      have H4 := hide h.swap
      clear H3 h
      go_wp2_with fail
      refine (seq_st (g + 1) q a _ H4.out).mono ?_
      rintro e w5 ⟨rfl, h⟩
      rw [HH.out, HSQ.out]
      generalize highI q a = y
      generalize seqI q a = z
      have hy : (y == y) = true := by simp
      have hz : (z == z) = true := by simp
      have H5 := hide h
      clear H4 h HH HSQ
      go_wp2_with fail
      go_ret
      exact ⟨rfl, H5.out.tail.tail⟩

end Go.Proofs.Ytdhkklcjhbnnlaa
