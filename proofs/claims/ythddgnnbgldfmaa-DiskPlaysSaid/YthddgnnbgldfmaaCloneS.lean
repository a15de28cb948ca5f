/- slices.Clone at one type: what it answers lies in new memory and reads as the old one did. -/
import Derived.Test.YthddgnnbgldfmaaCells
import Derived.Test.YthddgnnbgldfmaaRows
namespace Go.Proofs.Ythddgnnbgldfmaa
open Go.RowKit

theorem info_sector : (Try.prog.info? 81).map (fun i => (i.zero, i.size, i.bytes)) = some (some (.agg (List.replicate 64 (.int .u8 0)).toArray), 64, 64) := by kernel_rfl
theorem empty_sector (w : World) : (Instr.buildSlice 76 0 #[]).run Try.prog w = .ok (.slice (some ⟨w.heap.size, 0, none⟩) 0 0) (w.alloc (.cells #[] 81)) := by kernel_rfl

set_option maxHeartbeats 400000 in
theorem clone_sector (a : Addr) (n c : Nat) (news : List Value) (w : World) (hl : news.length = n * 64) (hc : ∀ j u, news[j]? = some u → w.cell? (a.add j) = some u) (h1 : ∀ u ∈ news, u.oneCell' = true) (hn : n * 64 ≤ 140737488355328) :
    Calls Try.prog 49 #[.slice (some a) n c] w fun e w' => ∃ v g, e = .returned v ∧ w'.ownsRow 0 81 64 v n news ∧ v.ownBlock = some g ∧ w.heap.size ≤ g ∧ g < w'.heap.size ∧ Fr Non w w' := by
  have hnil := fun w => Lib.run_eql_slice_nil (P := Try.prog) w 76 81 (some a) n c 0 0 Try.underlying76
  have hemp := empty_sector
  have HL := hide hl
  have HC := hide (fun j u h => (World.cell?_alloc_lt w (.cells #[] 81) (a.add j) (World.block_lt_of_cell? _ _ (hc j u h))).trans (hc j u h))
  have H1 := hide h1
  have hown : (w.alloc (.cells #[] 81)).ownsRow 0 81 64 (.slice (some ⟨w.heap.size, 0, none⟩) 0 0) 0 [] := World.ownsRow_made w #[] 0 (Nat.zero_le _) (Nat.zero_le _) (by simp)
  have HO := hide hown
  clear hl hc h1 hown
  go_enter Try.func49, Try.ntmps49
  go_wp2_with (at_builtin; refine append_at rfl _ _ 76 rfl 0 81 (.agg (List.replicate 64 (.int .u8 0)).toArray) 64 64 Try.underlying76 info_sector (by kernel_rfl) (by omega) (.slice (some ⟨w.heap.size, 0, none⟩) 0 0) 0 [] rfl HO.out a n c rfl news HL.out HC.out H1.out (by omega) (by omega) (Nat.zero_le _) ?_; intro v w1 hown1 hf1 hb1)
  go_ret
  have hg : v.ownBlock = some w.heap.size ∨ v.ownBlock = some (w.heap.size + 1) := by
    rcases hb1 with h | h
    · exact .inl h
    · exact .inr (by rw [h]; simp)
  have hF : Fr Non w w1 := ((Fr.refl _ _).alloc _).step hf1 (by intro i hi hlt; simp [Value.ownBlock] at hi; omega)
  have hown2 : w1.ownsRow 0 81 64 v n news := by simpa using hown1
  rcases hg with h | h
  · exact ⟨v, _, rfl, hown2, h, Nat.le_refl _, (hown2.lt _ h).2, hF⟩
  · exact ⟨v, _, rfl, hown2, h, by omega, (hown2.lt _ h).2, hF⟩

theorem clone_sector_nil (n c : Nat) (w : World) :
    Calls Try.prog 49 #[.slice none n c] w fun e w' => e = .returned (.slice none 0 0) ∧ w = w' := by
  have hnil := fun w => Lib.run_eql_slice_nil (P := Try.prog) w 76 81 none n c 0 0 Try.underlying76
  go_enter Try.func49, Try.ntmps49
  go_wp2
  go_ret
  exact ⟨rfl, rfl⟩

end Go.Proofs.Ythddgnnbgldfmaa
