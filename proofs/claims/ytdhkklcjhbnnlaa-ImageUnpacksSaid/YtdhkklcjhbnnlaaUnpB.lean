/- Unpack's closure. -/
import Derived.Test.YtdhkklcjhbnnlaaUnpM
namespace Go.Proofs.Ytdhkklcjhbnnlaa
open Go.RowKit

set_option maxHeartbeats 1000000 in
theorem clo_st {M0 : Imm} {L : List Res} (bP bO gr : Nat) (ok : Bool) (r : Rd) (w : World) (hr : r.Ok) (h : St M0 w (blkR bP 47 #[.pointer (some ⟨gr, 0, none⟩)] :: blkR bO 4 #[.bool ok] :: rdR gr r :: L)) :
    Calls Try.prog 74 #[.pointer (some ⟨bP, 0, none⟩), .pointer (some ⟨bO, 0, none⟩)] w fun e w' => ∃ v, e = .returned v ∧ St M0 w' (intsR .u8 v r.byt.1 :: blkR bP 47 #[.pointer (some ⟨gr, 0, none⟩)] :: blkR bO 4 #[.bool (ok && shortB r.byt.1)] :: rdR gr r.byt.2 :: L) := by
  have x0 := (h.blk 0 rfl).cell 0
  have H := hide h
  clear h
  go_enter Try.func74, Try.ntmps74
  go_wp2_with fail
  refine (rdbyt_st gr r _ hr.hb hr.hl hr.hz H.out.up2).mono ?_
  rintro e w2 ⟨v, rfl, h⟩
  obtain ⟨A, c, rfl, _, _, _⟩ := h.get 0 rfl
  have y0 := (h.blk 3 rfl).cell 0
  have f0 := (h.blk 3 rfl).frozen 0
  have H2 := hide h
  clear H h x0
  cases ok with
  | true =>
    have h3 : St M0 (w2.setCell ⟨bO, 0, none⟩ (.bool (decide ((r.byt.1.length : Int) ≤ 24)))) (blkR bO 4 #[.bool (decide ((r.byt.1.length : Int) ≤ 24))] :: intsR .u8 (.slice A r.byt.1.length c) r.byt.1 :: rdR gr r.byt.2 :: blkR bP 47 #[.pointer (some ⟨gr, 0, none⟩)] :: L) := H2.out.up3.set_ 0 _
    have e : (true && shortB r.byt.1) = decide ((r.byt.1.length : Int) ≤ 24) := by
      unfold shortB
      rw [Bool.true_and]
      exact decide_eq_decide.2 (by omega)
    have E := hide e
    have H3 := hide h3
    clear H2 h3 e
    go_wp2_with fail
    go_ret
    exact ⟨_, rfl, by rw [E.out]; exact H3.out.pick 4 [1, 3, 0, 2]⟩
  | false =>
    have h3 : St M0 (w2.setCell ⟨bO, 0, none⟩ (.bool false)) (blkR bO 4 #[.bool false] :: intsR .u8 (.slice A r.byt.1.length c) r.byt.1 :: rdR gr r.byt.2 :: blkR bP 47 #[.pointer (some ⟨gr, 0, none⟩)] :: L) := H2.out.up3.set_ 0 _
    have H3 := hide h3
    clear H2 h3
    go_wp2_with fail
    go_ret
    exact ⟨_, rfl, by rw [Bool.false_and]; exact H3.out.pick 4 [1, 3, 0, 2]⟩

end Go.Proofs.Ytdhkklcjhbnnlaa
