/- Cache: Fill, Len. -/
import Derived.Test.YtbgknfdaaffeaaaCaW
namespace Go.Proofs.Ytbgknfdaaffeaaa
open Go.RowKit Go.Shelf

def fillE (bl wr : List PU) (r i : Int) : Int := if wr.any (keyIs r i) = true then 1 else layE bl wr r i
def fillB (bl wr : List PU) (p : PU) : List PU := if wr.any (keyIs p.region p.index) = true then bl else layB bl wr p
set_option maxHeartbeats 1000000 in
theorem fill_st {M0 : Imm} {L : List Res} (g : Nat) (bl wr : List PU) (r i : Int) (A0 : Option Addr) (n0 c0 : Nat) (data : List Int) (w : World) (hl : bl.length ≤ 1000000) (hd : data.length ≤ 140737488355328) (h : St M0 w (intsR .u8 (.slice A0 n0 c0) data :: cacheR g bl wr :: L)) :
    Calls Try.prog 26 #[.pointer (some ⟨g, 0, none⟩), .agg #[.int .i64 r, .int .i64 i], .slice A0 n0 c0] w fun e w' => e = .returned (.int .i64 (fillE bl wr r i)) ∧ St M0 w' (cacheR g (fillB bl wr ⟨r, i, data⟩) wr :: L) := by
  have h1 := h.alloc 52 #[.int .i64 r, .int .i64 i]
  have y0 := (h1.blk 0 rfl).cell 0
  have y1 := (h1.blk 0 rfl).cell 1
  have H := hide (h1.pick (L' := cacheR g bl wr :: blkR w.heap.size 52 #[.int .i64 r, .int .i64 i] :: intsR .u8 (.slice A0 n0 c0) data :: L) 3 [2, 0, 1])
  have HD := hide hd
  have HL := hide hl
  clear h h1 hd hl
  go_enter Try.func26, Try.ntmps26
  go_wp2_with fail
  refine (dirty_st g bl wr r i _ H.out).mono ?_
  rintro e w2 ⟨rfl, h2⟩
  clear H y0 y1
  have y0 := (h2.blk 1 rfl).cell 0
  have y1 := (h2.blk 1 rfl).cell 1
  have H2 := hide h2
  clear h2
  cases hw : wr.any (keyIs r i) with
  | true =>
    have EE := hide (show fillE bl wr r i = 1 by unfold fillE; rw [if_pos hw])
    have EB := hide (show fillB bl wr ⟨r, i, data⟩ = bl by unfold fillB; exact if_pos hw)
    have H3 := hide (H2.out.pick (L' := cacheR g bl wr :: L) 3 [0])
    clear H2
    go_wp2_with fail
    go_ret
    exact ⟨by rw [EE.out]; try rfl, by rw [EB.out]; exact H3.out⟩
  | false =>
    have EE := hide (show fillE bl wr r i = layE bl wr r i by unfold fillE; rw [if_neg (by rw [hw]; exact Bool.false_ne_true)])
    have EB := hide (show fillB bl wr ⟨r, i, data⟩ = layB bl wr ⟨r, i, data⟩ by unfold fillB; exact if_neg (by rw [hw]; exact Bool.false_ne_true))
    have H3 := hide (H2.out.pick (L' := intsR .u8 (.slice A0 n0 c0) data :: cacheR g bl wr :: L) 3 [2, 0])
    clear H2
    go_wp2_with fail
    refine (lay_st g bl wr r i A0 n0 c0 data _ HL.out HD.out H3.out).mono ?_
    rintro e w3 ⟨rfl, h4⟩
    have H4 := hide h4
    clear h4 H3 y0 y1
    go_wp2_with fail
    go_ret
    exact ⟨by rw [EE.out]; try rfl, by rw [EB.out]; exact H4.out⟩
theorem len_st {M0 : Imm} {L : List Res} (g : Nat) (bl wr : List PU) (w : World) (h : St M0 w (cacheR g bl wr :: L)) :
    Calls Try.prog 35 #[.pointer (some ⟨g, 0, none⟩)] w fun e w' => e = .returned (.int .i64 (bl.length : Nat)) ∧ St M0 w' (cacheR g bl wr :: L) := by
  obtain ⟨A, c, B, d, _, _, _, _, h1⟩ := h.cacheO
  have x0 := (h1.blk 0 rfl).cell 0
  have H := hide h
  clear h h1
  go_enter Try.func35, Try.ntmps35
  go_wp2_with fail
  go_ret
  exact ⟨rfl, H.out⟩
end Go.Proofs.Ytbgknfdaaffeaaa
