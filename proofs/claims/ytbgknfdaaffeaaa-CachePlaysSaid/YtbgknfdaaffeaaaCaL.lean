/- Cache: lay's search. -/
import Derived.Test.YtbgknfdaaffeaaaCaF
namespace Go.Proofs.Ytbgknfdaaffeaaa
open Go.RowKit Go.Shelf

set_option maxHeartbeats 1000000 in
/-- dirty, where the cache's blocks are with somebody else -/
theorem dirtyO_st {M0 : Imm} {L : List Res} (g : Nat) (wr : List PU) (A B : Option Addr) (n c m d : Nat) (r i : Int) (w : World) (h : St M0 w (blkR g 43 #[.slice A n c, .slice B m d] :: growR 153 3 PutR (.slice B m d) wr :: L)) :
    Calls Try.prog 78 #[.pointer (some ⟨g, 0, none⟩), .agg #[.int .i64 r, .int .i64 i]] w fun e w' => e = .returned (.bool (wr.any (keyIs r i))) ∧ St M0 w' (blkR g 43 #[.slice A n c, .slice B m d] :: growR 153 3 PutR (.slice B m d) wr :: L) := by
  have h2 := h.alloc 52 #[.int .i64 r, .int .i64 i]
  have x0 := (h2.blk 1 rfl).cell 1
  have H := hide (h2.pick (L' := growR 153 3 PutR (.slice B m d) wr :: blkR w.heap.size 52 #[.int .i64 r, .int .i64 i] :: blkR g 43 #[.slice A n c, .slice B m d] :: L) 3 [2, 0, 1])
  clear h h2
  go_enter Try.func78, Try.ntmps78
  go_wp2_with fail
  refine (containsG_st 137 (.pointer (some ⟨w.heap.size, 0, none⟩)) (keyIs r i) wr B m d _ (enters_of Try.func137 (by kernel_rfl) rfl) (fun x v W _ hW => (dclo_st w.heap.size r i x v W hW 1 rfl).mono (fun e W' ⟨he, hf⟩ => ⟨he, hW.grow hf⟩)) H.out).mono ?_
  rintro e w2 ⟨rfl, h⟩
  have H2 := hide (h.pick (L' := blkR g 43 #[.slice A n c, .slice B m d] :: growR 153 3 PutR (.slice B m d) wr :: L) 3 [2, 0])
  clear H h x0
  go_wp2_with fail
  go_ret
  exact ⟨rfl, H2.out⟩
def cleanP (wr : List PU) (x : PU) : Bool := !wr.any (keyIs x.region x.index)
set_option maxHeartbeats 1000000 in
theorem lclo_st {M0 : Imm} {X : Res} {L : List Res} (g b : Nat) (wr : List PU) (A B : Option Addr) (n c m d : Nat) (y : PU) (v : Value) (w : World) (h : St M0 w (X :: blkR b 40 #[.pointer (some ⟨g, 0, none⟩)] :: blkR g 43 #[.slice A n c, .slice B m d] :: growR 153 3 PutR (.slice B m d) wr :: L)) :
    Calls Try.prog 138 #[putV y v, .pointer (some ⟨b, 0, none⟩)] w fun e w' => e = .returned (.bool (cleanP wr y)) ∧ St M0 w' (X :: blkR b 40 #[.pointer (some ⟨g, 0, none⟩)] :: blkR g 43 #[.slice A n c, .slice B m d] :: growR 153 3 PutR (.slice B m d) wr :: L) := by
  obtain ⟨yr, yi, dt⟩ := y
  have h1 := h.alloc 153 #[.int .i64 yr, .int .i64 yi, v]
  have x0 := (h1.blk 2 rfl).cell 0
  have y0 := (h1.blk 0 rfl).cell 0
  have y1 := (h1.blk 0 rfl).cell 1
  have H := hide (h1.pick (L' := blkR g 43 #[.slice A n c, .slice B m d] :: growR 153 3 PutR (.slice B m d) wr :: X :: blkR b 40 #[.pointer (some ⟨g, 0, none⟩)] :: L) 5 [3, 4, 1, 2])
  clear h h1
  go_enter Try.func138, Try.ntmps138
  go_wp2_with fail
  refine (dirtyO_st g wr A B n c m d yr yi _ H.out).mono ?_
  rintro e w2 ⟨rfl, h⟩
  have H2 := hide (h.pick (L' := X :: blkR b 40 #[.pointer (some ⟨g, 0, none⟩)] :: blkR g 43 #[.slice A n c, .slice B m d] :: growR 153 3 PutR (.slice B m d) wr :: L) 4 [2, 3, 0, 1])
  clear H h x0 y0 y1
  go_wp2_with fail
  go_ret
  exact ⟨rfl, H2.out⟩
end Go.Proofs.Ytbgknfdaaffeaaa
