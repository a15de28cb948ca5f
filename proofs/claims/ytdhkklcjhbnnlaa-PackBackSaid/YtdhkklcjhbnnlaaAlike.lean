/- Two lists of fields that are one are told alike. -/
import Derived.Test.YtdhkklcjhbnnlaaEqSt
import Derived.Test.YtdhkklcjhbnnlaaPackE
namespace Go.Proofs.Ytdhkklcjhbnnlaa
open Go.RowKit

set_option maxRecDepth 100000 in
set_option maxHeartbeats 1000000 in
theorem alike_st {M0 : Imm} {L : List Res} (v u : Value) (fs : List Fld) (w : World) (h : St M0 w (rowsR 3 FldR v fs :: rowsR 3 FldR u fs :: L)) :
    Calls Try.prog 22 #[v, u] w fun e w' => e = .returned (.bool true) ∧ St M0 w' (rowsR 3 FldR v fs :: rowsR 3 FldR u fs :: L) := by
  obtain ⟨A, c, rfl, hc, hm⟩ := (h.getRows 0 rfl).slice
  obtain ⟨B, d, rfl, hc2, hm2⟩ := (h.getRows 1 rfl).slice
  generalize hn : fs.length = n at *
  have HN := hide hn
  have H := hide h
  clear hn h
  go_enter Try.func22, Try.ntmps22
  go_wp2
  go_loopw [5] (fun i wr => ∃ k : Nat, k ≤ n ∧ i = .int .i64 k ∧ St M0 wr (rowsR 3 FldR (.slice A n c) fs :: rowsR 3 FldR (.slice B n d) fs :: L)) (fun i _ => n - (intOf i).toNat)
  case atStart => exact ⟨0, Nat.zero_le _, rfl, H.out⟩
  case round =>
    clear H
    obtain ⟨k, hk, rfl, h⟩ := hrel
    by_cases hlt : k < n
    · have hx := List.getElem?_eq_getElem (l := fs) (i := k) (by rw [HN.out]; exact hlt)
      generalize fs[k]'(by rw [HN.out]; exact hlt) = f at hx
      obtain ⟨ad, cs, rfl, hl, hcs, vb, rfl, hb, _, _⟩ := (h.getRows 0 rfl).at_ hx
      obtain ⟨bd, cs2, rfl, hl2, hcs2, ub, rfl, hb2, _, _⟩ := (h.getRows 1 rfl).at_ hx
      obtain ⟨k0, k1, k2⟩ := cells3 hcs
      obtain ⟨j0, j1, j2⟩ := cells3 hcs2
      obtain ⟨A2, c2, rfl, hl3, hm3, _⟩ := id hb
      obtain ⟨B2, d2, rfl, hl4, hm4, _⟩ := id hb2
      have HB := hide (fun m => hb.non ((Fr.refl _ _).drewN m))
      have HB2 := hide (fun m => hb2.non ((Fr.refl _ _).drewN m))
      have H := hide h
      clear hx h hcs hl hb hcs2 hl2 hb2
      go_wp2
      go_quiet ((go_at_call 19; exact Calls.quiet_of (same_eq _ _ f.b _ (HB.out _) (HB2.out _))))
      go_wp2
      go_roundw
      case rel => exact ⟨k + 1, by omega, by go_num, H.out.drewN _⟩
      case measure => simp [intOf]; omega
    · go_wp2
      go_ret
      exact ⟨rfl, h⟩

end Go.Proofs.Ytdhkklcjhbnnlaa
