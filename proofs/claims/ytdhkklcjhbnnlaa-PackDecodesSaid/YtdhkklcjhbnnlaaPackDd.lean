/- PackDecodes, the walk. -/
import Derived.Test.YtdhkklcjhbnnlaaPackAw
import Derived.Test.YtdhkklcjhbnnlaaPackRD
namespace Go.Proofs.Ytdhkklcjhbnnlaa
open Go.RowKit

set_option maxRecDepth 100000 in
set_option maxHeartbeats 1000000 in
theorem decodes_st {M0 : Imm} {L : List Res} (v u : Value) (ks bs : List Int) (w : World) (hb : Bytes bs) (h : St M0 w (intsR .i64 v ks :: intsR .u8 u bs :: L)) :
    Calls Try.prog 4 #[v, u] w fun e w' => e = .returned (.bool true) ∧ St M0 w' (intsR .i64 v ks :: intsR .u8 u bs :: L) := by
  obtain ⟨A, c, rfl, _, hm, _⟩ := h.get 0 rfl
  obtain ⟨B, d, rfl, _, hm2, _⟩ := h.get 1 rfl
  unfold maxLen at hm hm2
  have H := hide h
  have HB := hide hb
  clear h hb
  go_enter Try.func4, Try.ntmps4
  go_wp2_with fail
  refine (awake_st _ H.out).mono ?_
  rintro e w1 ⟨rfl, h⟩
  have H1 := hide h
  clear H h
  by_cases h40 : 40 < ks.length
  · go_wp2_with fail
    go_ret
    exact ⟨rfl, H1.out⟩
  by_cases h3 : 3000 < bs.length
  · go_wp2_with fail
    go_ret
    exact ⟨rfl, H1.out⟩
  · go_wp2_with fail
    refine (dec_st _ _ ks bs _ (by omega) HB.out (by omega) H1.out).mono ?_
    rintro e w2 ⟨x, rfl, h⟩
    obtain ⟨A2, c2, rfl, _, _⟩ := (h.getRows 0 rfl).slice
    have H2 := hide h.dn2
    clear H1 h
    go_wp2_with fail
    refine (rdec_st _ _ ks bs _ (by omega) HB.out (by omega) H2.out).mono ?_
    rintro e w3 ⟨y, rfl, h⟩
    obtain ⟨A3, c3, rfl, _, _⟩ := (h.getRows 0 rfl).slice
    have H3 := hide h.up3
    clear H2 h
    go_wp2_with fail
    refine (alike_st _ _ (decL ks bs) _ H3.out).mono ?_
    rintro e w4 ⟨rfl, h⟩
    clear H3
    go_wp2_with fail
    go_ret
    exact ⟨rfl, h.tail.tail⟩

end Go.Proofs.Ytdhkklcjhbnnlaa
