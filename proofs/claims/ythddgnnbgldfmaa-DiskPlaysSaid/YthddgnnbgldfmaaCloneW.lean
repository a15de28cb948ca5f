/- slices.Clone at one type: what it answers lies in new memory and reads as the old one did. -/
import Derived.Test.YthddgnnbgldfmaaCells
import Derived.Test.YthddgnnbgldfmaaRows
namespace Go.Proofs.Ythddgnnbgldfmaa
open Go.RowKit

theorem info_write : (Try.prog.info? 83).map (fun i => (i.zero, i.size, i.bytes)) = some (some (.agg (Value.int .i64 0 :: List.replicate 64 (.int .u8 0)).toArray), 65, 72) := by kernel_rfl
theorem empty_write (w : World) : (Instr.buildSlice 77 0 #[]).run Try.prog w = .ok (.slice (some ⟨w.heap.size, 0, none⟩) 0 0) (w.alloc (.cells #[] 83)) := by kernel_rfl

set_option maxHeartbeats 400000 in
theorem clone_write (a : Addr) (n c : Nat) (news : List Value) (w : World) (hl : news.length = n * 65) (hc : ∀ j u, news[j]? = some u → w.cell? (a.add j) = some u) (h1 : ∀ u ∈ news, u.oneCell' = true) (hn : n * 72 ≤ 140737488355328) :
    Calls Try.prog 50 #[.slice (some a) n c] w fun e w' => ∃ v g, e = .returned v ∧ w'.ownsRow 0 83 65 v n news ∧ v.ownBlock = some g ∧ w.heap.size ≤ g ∧ g < w'.heap.size ∧ Fr Non w w' := by
  have hnil := fun w => Lib.run_eql_slice_nil (P := Try.prog) w 77 83 (some a) n c 0 0 Try.underlying77
  have hemp := empty_write
  have HL := hide hl
  have HC := hide (fun j u h => (World.cell?_alloc_lt w (.cells #[] 83) (a.add j) (World.block_lt_of_cell? _ _ (hc j u h))).trans (hc j u h))
  have H1 := hide h1
  have hown : (w.alloc (.cells #[] 83)).ownsRow 0 83 65 (.slice (some ⟨w.heap.size, 0, none⟩) 0 0) 0 [] := World.ownsRow_made w #[] 0 (Nat.zero_le _) (Nat.zero_le _) (by simp)
  have HO := hide hown
  clear hl hc h1 hown
  go_enter Try.func50, Try.ntmps50
  go_wp2_with (at_builtin; refine append_at rfl _ _ 77 rfl 0 83 (.agg (Value.int .i64 0 :: List.replicate 64 (.int .u8 0)).toArray) 65 72 Try.underlying77 info_write (by kernel_rfl) (by omega) (.slice (some ⟨w.heap.size, 0, none⟩) 0 0) 0 [] rfl HO.out a n c rfl news HL.out HC.out H1.out (by omega) (by omega) (Nat.zero_le _) ?_; intro v w1 hown1 hf1 hb1)
  go_ret
  have hg : v.ownBlock = some w.heap.size ∨ v.ownBlock = some (w.heap.size + 1) := by
    rcases hb1 with h | h
    · exact .inl h
    · exact .inr (by rw [h]; simp)
  have hF : Fr Non w w1 := ((Fr.refl _ _).alloc _).step hf1 (by intro i hi hlt; simp [Value.ownBlock] at hi; omega)
  have hown2 : w1.ownsRow 0 83 65 v n news := by simpa using hown1
  rcases hg with h | h
  · exact ⟨v, _, rfl, hown2, h, Nat.le_refl _, (hown2.lt _ h).2, hF⟩
  · exact ⟨v, _, rfl, hown2, h, by omega, (hown2.lt _ h).2, hF⟩

theorem clone_write_nil (n c : Nat) (w : World) :
    Calls Try.prog 50 #[.slice none n c] w fun e w' => e = .returned (.slice none 0 0) ∧ w = w' := by
  have hnil := fun w => Lib.run_eql_slice_nil (P := Try.prog) w 77 83 none n c 0 0 Try.underlying77
  go_enter Try.func50, Try.ntmps50
  go_wp2
  go_ret
  exact ⟨rfl, rfl⟩

end Go.Proofs.Ythddgnnbgldfmaa
