/- ImageLasts: the law's walk. -/
import Derived.Test.YtdhkklcjhbnnlaaImgL
namespace Go.Proofs.Ytdhkklcjhbnnlaa
open Go.RowKit

def hits (m : Nat → Rg) (x : RQ) (a b : Nat) : Prop := (checkI m x).2 = 0 ∧ (checkI m x).1 = true ∧ x.op = 2 ∧ x.region = a ∧ x.index = b
theorem doM_hit {m : Nat → Rg} {x : RQ} {a b : Nat} (h : hits m x a b) : (doM m x a).b b = x.data := by
  obtain ⟨h1, h2, h3, h4, h5⟩ := h
  unfold doM
  rw [if_pos ⟨h1, h2⟩, h4, Int.toNat_natCast, upd_at]
  show (if x.op = 2 then upd (m a).b x.index.toNat x.data else (m a).b) b = _
  rw [if_pos h3, h5, Int.toNat_natCast, upd_at]
theorem doM_miss {m : Nat → Rg} {x : RQ} {a b : Nat} (h : ¬ hits m x a b) : (doM m x a).b b = (m a).b b := by
  unfold doM
  split
  · rename_i h1
    have hg := check_ok h1.1
    have hz := RQ.wrong_zero hg.w
    unfold upd
    split
    · rename_i h4
      show (if x.op = 2 then upd (m x.region.toNat).b x.index.toNat x.data else (m x.region.toNat).b) b = _
      split
      · rename_i h3
        unfold upd
        rw [if_neg (fun h5 => h ⟨h1.1, h1.2, h3, by omega, by omega⟩), h4]
      · rw [h4]
    · rfl
  · rfl
theorem last_read {m : Nat → Rg} (hm : ∀ k, (m k).ok) {a b : Nat} (ha : a < 4) (hb : b < 4) : checkI m ⟨1, a, b, 18446744073709551615, 0, []⟩ = (false, 0) ∧ doO m ⟨1, a, b, 18446744073709551615, 0, []⟩ = [(m a).b b] := by
  have hw : RQ.wrong ⟨1, a, b, 18446744073709551615, 0, []⟩ = 0 := by
    unfold RQ.wrong
    rw [if_neg (by simp only; omega), if_neg (by simp)]
  have hc : checkI m ⟨1, a, b, 18446744073709551615, 0, []⟩ = (false, 0) := by
    have := (hm a).h1
    unfold checkI
    rw [if_neg (fun h => h hw), if_neg (by simp only; omega), if_neg (by simp only; omega), if_neg (by simp only [Int.toNat_natCast]; rintro (h | h) <;> omega), if_neg (fun h => by simp [RQ.changes] at h)]
  refine ⟨hc, ?_⟩
  unfold doO
  rw [hc, if_pos rfl]
  unfold doM
  rw [if_neg (by rw [hc]; simp)]
  show (if (1 : Int) = 1 then [(m (a : Int).toNat).b (b : Int).toNat] else _) = _
  rw [if_pos rfl, Int.toNat_natCast, Int.toNat_natCast]

set_option maxRecDepth 100000 in
set_option maxHeartbeats 4000000 in
theorem lasts_st {M0 : Imm} {L : List Res} (v : Value) (l : List RQ) (a b : Int) (w : World) (h : St M0 w (rowsR 6 ReqR v l :: L)) :
    Calls Try.prog 9 #[v, .int .i64 a, .int .i64 b] w fun e w' => e = .returned (.bool true) ∧ St M0 w' L := by
  obtain ⟨A, c, rfl, hc, hm⟩ := (h.getRows 0 rfl).slice
  have hok : ∀ x ∈ l, x.ok := fun x hx => by
    obtain ⟨k, hk⟩ := List.mem_iff_getElem?.1 hx
    obtain ⟨_, _, _, _, h1, _⟩ := h.req 0 rfl hk
    exact h1
  generalize hn : l.length = n at *
  have HN := hide hn
  have HK := hide hok
  have H := hide h
  clear hn h hok
  by_cases t0 : 80 < n
  · have dt0 : decide ((80 : Int) < (n : Int)) = true := decide_eq_true (by omega)
    go_enter Try.func9, Try.ntmps9
    go_wp2_with fail
    refine (awake_st _ H.out).mono ?_
    rintro e w1 ⟨rfl, h⟩
    have H1 := hide h
    clear H h
    go_wp2_with fail
    go_ret
    exact ⟨rfl, H1.out.tail.grow ((Fr.refl _ _).alloc _)⟩
  have dt0 : decide ((80 : Int) < (n : Int)) = false := decide_eq_false (by omega)
  by_cases t1 : a < 0
  · have dt1 : decide (a < 0) = true := decide_eq_true (by omega)
    go_enter Try.func9, Try.ntmps9
    go_wp2_with fail
    refine (awake_st _ H.out).mono ?_
    rintro e w1 ⟨rfl, h⟩
    have H1 := hide h
    clear H h
    go_wp2_with fail
    go_ret
    exact ⟨rfl, H1.out.tail.grow ((Fr.refl _ _).alloc _)⟩
  have dt1 : decide (a < 0) = false := decide_eq_false (by omega)
  by_cases t2 : 3 < a
  · have dt2 : decide (3 < a) = true := decide_eq_true (by omega)
    go_enter Try.func9, Try.ntmps9
    go_wp2_with fail
    refine (awake_st _ H.out).mono ?_
    rintro e w1 ⟨rfl, h⟩
    have H1 := hide h
    clear H h
    go_wp2_with fail
    go_ret
    exact ⟨rfl, H1.out.tail.grow ((Fr.refl _ _).alloc _)⟩
  have dt2 : decide (3 < a) = false := decide_eq_false (by omega)
  by_cases t3 : b < 0
  · have dt3 : decide (b < 0) = true := decide_eq_true (by omega)
    go_enter Try.func9, Try.ntmps9
    go_wp2_with fail
    refine (awake_st _ H.out).mono ?_
    rintro e w1 ⟨rfl, h⟩
    have H1 := hide h
    clear H h
    go_wp2_with fail
    go_ret
    exact ⟨rfl, H1.out.tail.grow ((Fr.refl _ _).alloc _)⟩
  have dt3 : decide (b < 0) = false := decide_eq_false (by omega)
  by_cases t4 : 3 < b
  · have dt4 : decide (3 < b) = true := decide_eq_true (by omega)
    go_enter Try.func9, Try.ntmps9
    go_wp2_with fail
    refine (awake_st _ H.out).mono ?_
    rintro e w1 ⟨rfl, h⟩
    have H1 := hide h
    clear H h
    go_wp2_with fail
    go_ret
    exact ⟨rfl, H1.out.tail.grow ((Fr.refl _ _).alloc _)⟩
  have dt4 : decide (3 < b) = false := decide_eq_false (by omega)
  obtain ⟨a, rfl⟩ := Int.eq_ofNat_of_zero_le (show 0 ≤ a by omega)
  obtain ⟨b, rfl⟩ := Int.eq_ofNat_of_zero_le (show 0 ≤ b by omega)
  have ha : a < 4 := by omega
  have hb : b < 4 := by omega
  clear t0 t1 t2 t3 t4
  go_enter Try.func9, Try.ntmps9
  go_wp2_with fail
  refine (awake_st _ H.out).mono ?_
  rintro e w1 ⟨rfl, h⟩
  have H1 := hide h
  clear H h
  go_wp2_with fail
  have H2 := hide ((H1.out.newImg.pers0 (R := fun w' => Ints w' .u8 (.slice none 0 0) []) (fun w' _ => Ints.none_ w' _)))
  clear H1 dt0 dt1 dt2 dt3 dt4
  generalize w1.heap.size = g at *
  go_loopg [9, 10] n (fun gh last i wr => ∃ k q B d, gh = n - k ∧ k ≤ n ∧ i = .int .i64 (k : Nat) ∧ last = .slice B q d ∧ St M0 wr (intsR .u8 (.slice B q d) ((runI (l.take k) a).b b) :: imgR g (runI (l.take k)) :: rowsR 6 ReqR (.slice A n c) l :: L))
  case atStart => exact ⟨0, 0, none, 0, rfl, by omega, rfl, rfl, H2.out⟩
  case round =>
    clear H2
    obtain ⟨k, q, B, d, hg, hk, rfl, rfl, h⟩ := hrel
    have HG := hide hg
    clear hg
    have hrun := run_ok HK.out k
    by_cases hlt : k < n
    · have hx := List.getElem?_eq_getElem (l := l) (i := k) (by rw [HN.out]; exact hlt)
      generalize l[k]'(by rw [HN.out]; exact hlt) = x at hx
      have hsn := runI_snoc hx
      obtain ⟨ad, B1, d1, rfl, hxo, h1⟩ := h.req 2 rfl hx
      obtain ⟨e0, e1, e2, e3, e4, e5⟩ := cells6 (h1.get 0 rfl).1
      generalize runI (l.take k) = m at *
      have HX := hide hx
      have HS := hide hsn
      have HR := hide hrun
      have H1 := hide h1
      clear hx hsn h h1 hrun
      generalize hnx : x.data.length = nx at *
      have HNX := hide hnx
      clear hnx
      have i0 : (0 : Int) ≤ (k : Int) := by omega
      have i1 : (k : Int) < (n : Int) := by omega
      go_wp2_with fail
      refine (check_st g m x B1 nx d1 _ hxo HR.out HNX.out.symm H1.out.up2).mono ?_
      rintro e w2 ⟨rfl, h⟩
      obtain ⟨e0, e1, e2, e3, e4, e5⟩ := cells6 (h.get 1 rfl).1
      have H2 := hide ((h.copy 1 rfl).pers1 (R' := fun w' => Ints w' .u8 (.slice B1 nx d1) x.data) (fun w' hr => hr.2))
      clear H1 h
      go_wp2_with fail
      refine (do_st g m x B1 nx d1 _ hxo HR.out H2.out).mono ?_
      rintro e w3 ⟨V, rfl, h⟩
      obtain ⟨e0, e1, e2, e3, e4, e5⟩ := cells6 (h.get 2 rfl).1
      have HD := hide ((h.copy 2 rfl).pers1 (R' := fun w' => Ints w' .u8 (.slice B1 nx d1) x.data) (fun w' hr => hr.2))
      have h4 := h.pick (L' := intsR .u8 (.slice B q d) ((m a).b b) :: imgR g (doM m x) :: rowsR 6 ReqR (.slice (some ad) n c) l :: L) 5 [3, 1, 4]
      have H4 := hide h4
      clear H2 h h4
      by_cases hh : hits m x a b
      · have HH := hide hh
        obtain ⟨c0, c1, c2, c3, c4⟩ := hh
        have b2 : (x.op == 2) = true := isT c2
        have b3 : (x.region == (a : Int)) = true := isT c3
        have b4 : (x.index == (b : Int)) = true := isT c4
        rw [c0, c1]
        clear c0 c1 c2 c3 c4
        go_wp2_with fail
        go_roundg (n - (k + 1))
        case measure => have := HG.out; omega
        case rel => exact ⟨k + 1, nx, B1, d1, rfl, by omega, by go_num, rfl, by rw [HS.out, doM_hit HH.out]; exact HD.out.pick 6 [0, 2, 5]⟩
      · have HM := hide hh
        have key : ∀ (p : Prop), (hits m x a b → p) → True := fun _ _ => trivial
        clear key
        by_cases c0 : (checkI m x).2 = 0
        · by_cases c1 : (checkI m x).1 = true
          · by_cases c2 : x.op = 2
            · by_cases c3 : x.region = (a : Int)
              · have c4 : x.index ≠ (b : Int) := fun h => hh ⟨c0, c1, c2, c3, h⟩
                have b2 : (x.op == 2) = true := isT c2
                have b3 : (x.region == (a : Int)) = true := isT c3
                have b4 := isF c4
                rw [c0, c1]
                clear hh c0 c1 c2 c3 c4
                go_wp2_with fail
                go_roundg (n - (k + 1))
                case measure => have := HG.out; omega
                case rel => exact ⟨k + 1, q, B, d, rfl, by omega, by go_num, rfl, by rw [HS.out, doM_miss HM.out]; exact H4.out⟩
              · have b2 : (x.op == 2) = true := isT c2
                have b3 := isF c3
                rw [c0, c1]
                clear hh c0 c1 c2 c3
                go_wp2_with fail
                go_roundg (n - (k + 1))
                case measure => have := HG.out; omega
                case rel => exact ⟨k + 1, q, B, d, rfl, by omega, by go_num, rfl, by rw [HS.out, doM_miss HM.out]; exact H4.out⟩
            · have b2 := isF c2
              rw [c0, c1]
              clear hh c0 c1 c2
              go_wp2_with fail
              go_roundg (n - (k + 1))
              case measure => have := HG.out; omega
              case rel => exact ⟨k + 1, q, B, d, rfl, by omega, by go_num, rfl, by rw [HS.out, doM_miss HM.out]; exact H4.out⟩
          · have c1 : (checkI m x).1 = false := by simpa using c1
            rw [c0, c1]
            clear hh c0 c1
            go_wp2_with fail
            go_roundg (n - (k + 1))
            case measure => have := HG.out; omega
            case rel => exact ⟨k + 1, q, B, d, rfl, by omega, by go_num, rfl, by rw [HS.out, doM_miss HM.out]; exact H4.out⟩
        · generalize (checkI m x).1 = ff
          generalize (checkI m x).2 = ee at c0 ⊢
          have b0 := isF c0
          clear hh c0
          go_wp2_with fail
          go_roundg (n - (k + 1))
          case measure => have := HG.out; omega
          case rel => exact ⟨k + 1, q, B, d, rfl, by omega, by go_num, rfl, by rw [HS.out, doM_miss HM.out]; exact H4.out⟩
    · obtain rfl : k = n := by omega
      rw [List.take_of_length_le (by rw [HN.out]; exact Nat.le_refl _)] at h
      have hfin := last_read (m := runI l) (runI_ok l aw0 HK.out aw_ok0) ha hb
      have HF := hide hfin
      have HO := hide (runI_ok l aw0 HK.out aw_ok0)
      have H := hide (h.swap)
      clear h hfin hrun
      go_wp2_with fail
      refine (do_none g (runI l) ⟨1, a, b, 18446744073709551615, 0, []⟩ _ rfl (aq_ok _ _ _ _ _ _) HO.out H.out).mono ?_
      rintro e w2 ⟨V, rfl, h⟩
      rw [HF.out.2] at h
      rw [HF.out.1]
      obtain ⟨A2, c2, rfl, _, _⟩ := (h.getRows 0 rfl).slice
      obtain ⟨ad, cs, rfl, _, hcs, ⟨vb, rfl, hvb⟩, h⟩ := h.elem 0 rfl (k := 0) (x := (runI l a).b b) rfl
      obtain ⟨B2, c3, rfl, _, _, _⟩ := hvb
      have k0 : w2.cell? ad = some (.slice B2 ((runI l a).b b).length c3) := by simpa [Addr.add] using hcs 0 _ rfl
      have H8 := hide h
      clear H h hcs
      go_wp2_with fail
      refine (same_true _ _ ((runI l a).b b) _ (H8.out.get 0 rfl).2.ints1 (H8.out.get 3 rfl) (H8.out.pick (L' := L) 5 [])).mono ?_
      rintro e w9 ⟨rfl, h⟩
      clear H8
      go_wp2_with fail
      go_ret
      exact ⟨rfl, h⟩

end Go.Proofs.Ytdhkklcjhbnnlaa
