/- Redo: Merge's closure. -/
import Derived.Test.YtbnjeekhoaapiaaRedoF
import Derived.Test.YtbnjeekhoaapiaaRedoN
namespace Go.Proofs.Ytbnjeekhoaapiaa
open Go.RowKit


theorem mclo_st {M0 : Imm} {L : List Res} (b : Nat) (x : PU) (u : Value) (y : PU) (v : Value) (W : World) (h : St M0 W (blkR b 62 #[.int .i64 x.region, .int .i64 x.index, u] :: L)) :
    Calls Try.prog 66 #[putV y v, .pointer (some ⟨b, 0, none⟩)] W fun e W' => e = .returned (.bool (keyP x y)) ∧ Fr Non W W' := by
  obtain ⟨r, i, d⟩ := y
  have h1 := h.alloc 62 #[.int .i64 r, .int .i64 i, v]
  have y0 : (W.alloc (.cells #[.int .i64 r, .int .i64 i, v] 62)).cell? ⟨b, 0, none⟩ = some (.int .i64 x.region) := (h1.blk 1 rfl).cell 0
  have y1 : (W.alloc (.cells #[.int .i64 r, .int .i64 i, v] 62)).cell? ⟨b, 1, none⟩ = some (.int .i64 x.index) := (h1.blk 1 rfl).cell 1
  clear h h1
  go_enter Try.func66, Try.ntmps66
  by_cases e1 : r = x.region
  · by_cases e2 : i = x.index
    · subst e1
      subst e2
      go_wp2
      go_ret
      exact ⟨by rw [show keyP x ⟨x.region, x.index, d⟩ = true by simp [keyP]]; try rfl, (Fr.refl _ _).alloc _⟩
    · subst e1
      have hk : keyP x ⟨x.region, i, d⟩ = false := by simp [keyP, e2]
      have b2 : (i == x.index) = false := isF e2
      go_wp2
      go_ret
      exact ⟨by rw [hk]; try rfl, (Fr.refl _ _).alloc _⟩
  · have hk : keyP x ⟨r, i, d⟩ = false := by simp [keyP, e1]
    go_wp2
    go_ret
    exact ⟨by rw [hk]; try rfl, (Fr.refl _ _).alloc _⟩
end Go.Proofs.Ytbnjeekhoaapiaa
