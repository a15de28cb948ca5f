/- ImageUnpacks: the law's walk. -/
import Derived.Test.YtdhkklcjhbnnlaaUnpP
import Derived.Test.YtdhkklcjhbnnlaaUnpR
import Derived.Test.YtdhkklcjhbnnlaaEqSt
namespace Go.Proofs.Ytdhkklcjhbnnlaa
open Go.RowKit

set_option maxRecDepth 100000 in
set_option maxHeartbeats 4000000 in
theorem unpacks_st {M0 : Imm} {L : List Res} (v : Value) (bs : List Int) (w : World) (hb : Bytes bs) (h : St M0 w (intsR .u8 v bs :: L)) :
    Calls Try.prog 15 #[v] w fun e w' => e = .returned (.bool true) ∧ St M0 w' (intsR .u8 v bs :: L) := by
  obtain ⟨A, c, rfl, _, hm, _⟩ := h.get 0 rfl
  have H := hide h
  have HB := hide hb
  clear h hb
  by_cases t0 : 1500 < bs.length
  · have dt0 : decide ((1500 : Int) < (bs.length : Int)) = true := decide_eq_true (by omega)
    go_enter Try.func15, Try.ntmps15
    go_wp2_with fail
    refine (awake_st _ H.out).mono ?_
    rintro e w1 ⟨rfl, h⟩
    have H1 := hide h
    clear H h
    go_wp2_with fail
    go_ret
    exact ⟨rfl, H1.out⟩
  have dt0 : decide ((1500 : Int) < (bs.length : Int)) = false := decide_eq_false (by omega)
  go_enter Try.func15, Try.ntmps15
  go_wp2_with fail
  refine (awake_st _ H.out).mono ?_
  rintro e w1 ⟨rfl, h⟩
  have H1 := hide h
  clear H h
  go_wp2_with fail
  refine (unp_st _ bs _ HB.out (by omega) (H1.out.copy 0 rfl)).mono ?_
  rintro e w2 ⟨p, rfl, hgood, hbad, h⟩
  clear H1
  by_cases he : unpE bs = 0
  · obtain ⟨g, rfl, h2⟩ := hgood he
    obtain ⟨hpk, hok⟩ := unp_law (bs := bs) ⟨HB.out, by show bs.length ≤ 1000000000; omega, fun h => by cases h⟩ he
    generalize (Rd.img ⟨bs, false⟩ 4).1 = m at *
    have HE := hide he
    have H2 := hide h2
    have HPK := hide hpk
    have HOK := hide hok
    clear h h2 hgood hbad hpk hok he
    go_wp2_with fail
    refine (runp_st _ bs _ HB.out (by omega) (H2.out.copy 1 rfl)).mono ?_
    rintro e w3 ⟨p2, rfl, hg2, _, h⟩
    obtain ⟨g2, rfl⟩ := hg2 HE.out
    have H3 := hide h
    clear H2 hg2 h
    go_wp2_with fail
    refine (pack_st g m _ HOK.out H3.out).mono ?_
    rintro e w4 ⟨u, rfl, h⟩
    have h4 := h.ints
    rw [HPK.out] at h4
    have H4 := hide h4
    clear H3 h h4
    go_wp2_with fail
    refine (same_true _ _ bs _ (H4.out.get 0 rfl) (H4.out.get 2 rfl) H4.out).mono ?_
    rintro e w5 ⟨rfl, h⟩
    have H5 := hide h.tail.tail
    clear H4 h
    go_wp2_with fail
    go_ret
    exact ⟨rfl, H5.out⟩
  · obtain rfl := hbad he
    have HE := hide he
    have H2 := hide h
    clear h hgood hbad he
    go_wp2_with fail
    refine (runp_st _ bs _ HB.out (by omega) (H2.out.copy 0 rfl)).mono ?_
    rintro e w3 ⟨p2, rfl, _, hb2, h⟩
    obtain rfl := hb2 HE.out
    have H3 := hide h
    clear H2 hb2 h
    go_wp2_with fail
    go_ret
    exact ⟨rfl, H3.out⟩
end Go.Proofs.Ytdhkklcjhbnnlaa
