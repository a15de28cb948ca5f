/- History: are blocks alike? -/
import Derived.Test.YtbgknfdaaffeaaaHiC
namespace Go.Proofs.Ytbgknfdaaffeaaa
open Go.RowKit Go.Shelf

set_option maxHeartbeats 2000000 in
set_option maxRecDepth 100000 in
theorem sameB_st {M0 : Imm} {L : List Res} (v u : Nat → SV) (a b : BlH) (w : World) (ba : Byt4 a) (bb : Byt4 b) (h : St M0 w (fourR v a :: fourR u b :: L)) :
    Calls Try.prog 132 #[fourV v, fourV u] w fun e w' => ∃ t : Bool, e = .returned (.bool t) ∧ (t = true ↔ ∀ j, j < 4 → a j = b j) ∧ St M0 w' L := by
  have h1 := (h.alloc 142 (fourC v)).alloc 142 (fourC u)
  rw [World.size_alloc] at h1
  have H := hide h1
  have HA := hide ba
  have HB := hide bb
  clear h h1 ba bb
  go_enter Try.func132, Try.ntmps132
  go_wp2_with fail
  generalize w.heap.size = g at *
  go_loopg [6] 4 (fun gh i wr => ∃ k : Nat, gh = 4 - k ∧ k ≤ 4 ∧ i = .int .i64 (k : Nat) ∧ (∀ j, j < k → a j = b j) ∧ St M0 wr (blkR (g + 1) 142 (fourC u) :: blkR g 142 (fourC v) :: fourR v a :: fourR u b :: L))
  case atStart => exact ⟨0, rfl, by omega, rfl, fun j hj => by omega, H.out⟩
  case round =>
    clear H
    obtain ⟨k, hg, hk, rfl, hab, h⟩ := hrel
    have HG := hide hg
    have HAB := hide hab
    clear hg hab
    by_cases hlt : k < 4
    · have x0 : wr.cell? ⟨g, k, none⟩ = some (.slice (v k).a (v k).n (v k).c) := ((h.blk 1 rfl).cell k).trans (fourC_at v hlt)
      have y0 : wr.cell? ⟨g + 1, k, none⟩ = some (.slice (u k).a (u k).n (u k).c) := ((h.blk 0 rfl).cell k).trans (fourC_at u hlt)
      have hv := h.get 2 rfl k hlt
      have hu := h.get 3 rfl k hlt
      have HV := hide (fun m => hv.non ((Fr.refl _ _).drewN m))
      have HU := hide (fun m => hu.non ((Fr.refl _ _).drewN m))
      have HH := hide h
      clear h hv hu
      have i0 : (0 : Int) ≤ (k : Int) := by omega
      have i1 : (k : Int) < 4 := by omega
      by_cases he : a k = b k
      · have HE := hide he
        clear he
        go_wp2_with fail
        go_quiet ((go_at_call 156; exact Calls.quiet_of_same ((equal_q _ _ _ _ _ (HV.out _) (HU.out _) (HA.out k) (HB.out k)).mono (fun e w' ⟨h1, h2⟩ => ⟨(by rw [h1, decide_eq_true HE.out] : e = .returned (.bool true)), h2.symm⟩))))
        go_wp2_with fail
        go_roundg (4 - (k + 1))
        case measure => have := HG.out; omega
        case rel => exact ⟨k + 1, rfl, by omega, by go_num, fun j hj => by rcases Nat.lt_succ_iff_lt_or_eq.1 hj with h | rfl; exact HAB.out j h; exact HE.out, HH.out.drewN _⟩
      · have HE := hide he
        clear he
        go_wp2_with fail
        go_quiet ((go_at_call 156; exact Calls.quiet_of_same ((equal_q _ _ _ _ _ (HV.out _) (HU.out _) (HA.out k) (HB.out k)).mono (fun e w' ⟨h1, h2⟩ => ⟨(by rw [h1, decide_eq_false HE.out] : e = .returned (.bool false)), h2.symm⟩))))
        go_wp2_with fail
        go_ret
        exact ⟨false, rfl, ⟨fun h => Bool.noConfusion h, fun h => absurd (h k hlt) HE.out⟩, (HH.out.drewN _).sub (by (repeat (first | with_reducible exact Sub.refl _ | (with_reducible apply Sub.take; focus (repeat (first | with_reducible exact At.here | with_reducible apply At.there))) | with_reducible apply Sub.drop)))⟩
    · obtain rfl : k = 4 := by omega
      have H := hide h
      clear h
      go_wp2_with fail
      go_ret
      exact ⟨true, rfl, ⟨fun _ => HAB.out, fun _ => rfl⟩, H.out.sub (by (repeat (first | with_reducible exact Sub.refl _ | (with_reducible apply Sub.take; focus (repeat (first | with_reducible exact At.here | with_reducible apply At.there))) | with_reducible apply Sub.drop)))⟩
end Go.Proofs.Ytbgknfdaaffeaaa
