/- Redo: the closures of Plan and Merge. -/
import Derived.Test.YtbnjeekhoaapiaaRedoI
namespace Go.Proofs.Ytbnjeekhoaapiaa
open Go.RowKit

theorem pclo_st {M0 : Imm} {L : List Res} (b : Nat) (region : Int) (x : PU) (v : Value) (W : World) (h : St M0 W (blkR b 3 #[.int .i64 region] :: L)) :
    Calls Try.prog 62 #[putV x v, .pointer (some ⟨b, 0, none⟩)] W fun e W' => e = .returned (.bool (x.region != region)) ∧ Fr Non W W' := by
  obtain ⟨r, i, d⟩ := x
  have h1 := h.alloc 62 #[.int .i64 r, .int .i64 i, v]
  have y0 : (W.alloc (.cells #[.int .i64 r, .int .i64 i, v] 62)).cell? ⟨b, 0, none⟩ = some (.int .i64 region) := (h1.blk 1 rfl).cell 0
  clear h h1
  go_enter Try.func62, Try.ntmps62
  go_wp2
  go_ret
  exact ⟨rfl, (Fr.refl _ _).alloc _⟩
end Go.Proofs.Ytbnjeekhoaapiaa
