/- slices.Clone of bytes, told with resources. -/
import Derived.Test.YtbgknfdaaffeaaaStApp
import Derived.Test.YtbgknfdaaffeaaaRows
namespace Go.Proofs.Ytbgknfdaaffeaaa
open Go.RowKit

theorem u8_row : ElemOf Try.prog 48 5 (.int .u8 0) 1 1 := ⟨Try.underlying48, by kernel_rfl, by kernel_rfl, by omega⟩
theorem empty_u8 (w : World) : (Instr.buildSlice 48 0 #[]).run Try.prog w = .ok (.slice (some ⟨w.heap.size, 0, none⟩) 0 0) (w.alloc (.cells #[] 5)) := by kernel_rfl
/-- an empty row -/
theorem St.emptyRow {M0 : Imm} {w : World} {L : List Res} (h : St M0 w L) (e : TypeId) : St M0 (w.alloc (.cells #[] e)) (rowR e 1 (.slice (some ⟨w.heap.size, 0, none⟩) 0 0) 0 [] :: L) :=
  h.newRow ((Fr.refl _ _).alloc _) (World.ownsRow_made w #[] 0 (Nat.zero_le _) (Nat.zero_le _) (by simp)) (fun b hb => by simp [Value.ownBlock] at hb; omega)

set_option maxHeartbeats 400000 in
theorem clone_st {M0 : Imm} {L : List Res} (A : Option Addr) (n c : Nat) (xs : List Int) (w : World) (hs : Sl w Any 1 A n (bv xs)) (hn : n ≤ 140737488355328) (h : St M0 w L) :
    Calls Try.prog 76 #[.slice A n c] w fun e w' => ∃ v, e = .returned v ∧ St M0 w' (rowR 5 1 v n (bv xs) :: L) := by
  rcases A with _ | a
  · have hm : n = 0 := by
      rcases Nat.eq_zero_or_pos n with h0 | h0
      · exact h0
      · obtain ⟨ad, h, _⟩ := hs.2 h0
        cases h
    subst hm
    have hx : xs = [] := List.eq_nil_of_length_eq_zero (by simpa using hs.1)
    subst hx
    have hnil := fun w => Lib.run_eql_slice_nil (P := Try.prog) w 48 5 none 0 c 0 0 Try.underlying48
    have H := hide h
    clear hs h
    go_enter Try.func76, Try.ntmps76
    go_wp2
    go_ret
    exact ⟨_, rfl, H.out.nilRow _ _⟩
  · have hnil := fun w => Lib.run_eql_slice_nil (P := Try.prog) w 48 5 (some a) n c 0 0 Try.underlying48
    have hemp := empty_u8
    have H := hide (h.emptyRow 5)
    have HS := hide ((hs.non ((Fr.refl Non w).alloc (.cells #[] 5))))
    clear hs h
    go_enter Try.func76, Try.ntmps76
    go_wp2_with (at_builtin; refine St.app_step u8_row H.out rfl _ _ rfl rfl (some a) n c rfl (bv xs) HS.out (bv_one _) (by omega) (by omega) ?_; intro A' c' w1 h1)
    go_ret
    exact ⟨_, rfl, (by simpa using h1)⟩

end Go.Proofs.Ytbgknfdaaffeaaa
