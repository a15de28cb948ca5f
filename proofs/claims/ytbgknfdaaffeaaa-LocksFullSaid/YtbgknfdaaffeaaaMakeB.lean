/- make([]byte, k). -/
import Derived.Test.YtbgknfdaaffeaaaCloneSt
import Derived.Test.YtbgknfdaaffeaaaFlow
import Derived.Laws.MakeOwn
namespace Go.Proofs.Ytbgknfdaaffeaaa
open Go.RowKit

theorem made_one (m : Nat) (x : Value) (hx : x.cells = #[x]) : madeCells x.cells m = (List.replicate m x).toArray := by
  rw [hx]
  apply Array.toList_inj.1
  unfold madeCells
  rw [Array.toList_map, Array.toList_range, List.eq_replicate_iff]
  refine ⟨by simp, fun b hb => ?_⟩
  obtain ⟨i, _, rfl⟩ := List.mem_map.1 hb
  simp [Nat.mod_one]
theorem make_b (k : Nat) (hk : k ≤ 100000) (w : World) : (Instr.makeSlice 48 (.int .i64 k) (.int .i64 k)).run Try.prog w = .ok (.slice (some ⟨w.heap.size, 0, none⟩) k k) (w.alloc (.cells (bv (List.replicate k 0)).toArray 5)) := by
  obtain ⟨i0, hi0, hz0, hs0, hb0⟩ := info_parts u8_row.hinfo
  have hr := run_make (P := Try.prog) (w := w) 48 5 i0 _ Try.underlying48 hi0 hz0 .i64 .i64 k k (by omega) (by omega) (by rw [hb0]; omega) (by omega)
  simp only [Int.toNat_natCast] at hr
  rw [hr]
  have e : madeCells (Value.cells (.int .u8 0)) (k * i0.size) = (bv (List.replicate k 0)).toArray := by
    rw [hs0, Nat.mul_one, made_one k (.int .u8 0) rfl]
    simp only [bv, List.map_replicate]
  rw [e]
theorem exec_makeSlice {P : Program} {a : Act} {o : Oper} {w w' : World} {u v v' : Value} {t : TypeId} {x y : Operand} (hop : o.op = .makeSlice t x y) (hx : a.eval x = u) (hy : a.eval y = v) (h : (Instr.makeSlice t u v).run P w = .ok v' w') : (execOp a.eval o).run P w = .ok (.value v') w' := by
  unfold execOp; simp only [hop, hx, hy, Sem.run_bind, Sem.run_pure, Result.andThen_ok, h]
end Go.Proofs.Ytbgknfdaaffeaaa
