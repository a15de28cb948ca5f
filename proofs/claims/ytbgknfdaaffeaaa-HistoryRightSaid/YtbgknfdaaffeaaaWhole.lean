/- A whole block stored at once, by resources. -/
import Derived.Test.YtbgknfdaaffeaaaSub
import Derived.Laws.Tables
import Derived.Deep.WholeRow
namespace Go.Proofs.Ytbgknfdaaffeaaa
open Go.RowKit

theorem Fr.setRow {w : World} {g : Nat} {F : Nat → Prop} (hF : F g) (cs : Array Value) : Fr F w (w.setRow g cs) := by
  refine ⟨rfl, rfl, rfl, by simp [World.setRow], fun b hlt hb => ?_⟩
  have : b ≠ g := fun e => hb (e ▸ hF)
  simp [World.setRow, Array.getElem?_modify, Ne.symm this]
theorem Blk.setRow {w : World} {g : Nat} {t : TypeId} {cs : Array Value} (h : Blk w g t cs) (cs' : Array Value) : Blk (w.setRow g cs') g t cs' := by
  unfold Blk at h ⊢
  simp [World.setRow, Array.getElem?_modify, h]
/-- a struct, or an array, stored over a whole block -/
theorem St.storeAll {P : Program} {M0 : Imm} {w : World} {L : List Res} {g : Nat} {t ty : TypeId} {cs : Array Value} (h : St M0 w (blkR g t cs :: L)) (cs' : Array Value) (hi : (P.info? ty).map (·.size) = some cs'.size) (ho : cs.size = cs'.size) (h1 : ∀ u ∈ cs'.toList, u.oneCell' = true) :
    ∃ w', (Instr.storeAt ty (.pointer (some ⟨g, 0, none⟩)) (.agg cs')).run P w = .ok () w' ∧ St M0 w' (blkR g t cs' :: L) := by
  refine ⟨w.setRow g cs', ?_, ?_⟩
  · simp only [Instr.storeAt, Instr.sureAddr, Sem.run_bind, Sem.run_pure, Result.andThen]
    exact run_storeVar_row (P := P) w g t ty cs cs' (h.blk 0 rfl) hi ho (Array.all_eq_true_iff_forall_mem.2 (fun v hv => h1 v (by simpa using hv)))
  · obtain ⟨M, F, _, _, hx, _, hk⟩ := h.head
    exact hk _ _ F (Fr.setRow ((hx.1 _).2 rfl) _) (fun _ => ⟨hx.1, hx.2.setRow _⟩) (fun _ hb => .inl hb)
end Go.Proofs.Ytbgknfdaaffeaaa
