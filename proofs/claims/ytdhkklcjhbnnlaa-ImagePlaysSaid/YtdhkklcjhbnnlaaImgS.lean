/- Two lists of lists of bytes that are one are told alike. -/
import Derived.Test.YtdhkklcjhbnnlaaEqSt
import Derived.Test.YtdhkklcjhbnnlaaImgR
namespace Go.Proofs.Ytdhkklcjhbnnlaa
open Go.RowKit

theorem Rows.drewN {α : Type} {w : World} {size : Nat} {R : World → List Value → α → Prop} {v : Value} {xs : List α} (h : Rows w size R v xs) (hR : ∀ n cs x, R w cs x → R (w.drewN n) cs x) (n : Nat) : Rows (w.drewN n) size R v xs := by
  obtain ⟨css, A, c, e, h1, h2, h3⟩ := h
  refine ⟨css, A, c, e, h1, h2, fun i x hi => ?_⟩
  obtain ⟨ad, h4, h5, h6, h7⟩ := h3 i x hi
  exact ⟨ad, h4, h5, h6, hR n _ _ h7⟩
theorem drewN_two (w : World) (a b : Nat) : (w.drewN a).drewN b = w.drewN (a + b) := by
  unfold World.drewN
  simp [Nat.add_assoc]
theorem LogR.drewN {w : World} (n : Nat) (cs : List Value) (x : List Int) (h : LogR w cs x) : LogR (w.drewN n) cs x := by
  obtain ⟨v, e, hi⟩ := h
  exact ⟨v, e, hi.non ((Fr.refl _ _).drewN n)⟩

set_option maxRecDepth 100000 in
set_option maxHeartbeats 1000000 in
theorem sames_q (v u : Value) (xs : List (List Int)) (w : World) (hx : Rows w 1 LogR v xs) (hy : Rows w 1 LogR u xs) :
    Calls Try.prog 40 #[v, u] w fun e w' => e = .returned (.bool true) ∧ ∃ n, w' = w.drewN n := by
  obtain ⟨A, c, rfl, hc, hm⟩ := hx.slice
  obtain ⟨B, d, rfl, hc2, hm2⟩ := hy.slice
  have HA := hide (fun n => hx.drewN LogR.drewN n)
  have HB := hide (fun n => hy.drewN LogR.drewN n)
  clear hx hy
  generalize hn : xs.length = n at *
  have HN := hide hn
  clear hn
  go_enter Try.func40, Try.ntmps40
  go_wp2
  go_loopw [5] (fun i wr => ∃ k q : Nat, k ≤ n ∧ i = .int .i64 k ∧ wr = w.drewN q) (fun i _ => n - (intOf i).toNat)
  case atStart => exact ⟨0, 0, Nat.zero_le _, rfl, rfl⟩
  case round =>
    obtain ⟨k, q, hk, rfl, rfl⟩ := hrel
    by_cases hlt : k < n
    · have hx := List.getElem?_eq_getElem (l := xs) (i := k) (by rw [HN.out]; exact hlt)
      generalize xs[k]'(by rw [HN.out]; exact hlt) = x at hx
      obtain ⟨ad, cs, rfl, _, hcs, ⟨va, rfl, ha⟩⟩ := (HA.out q).at_ hx
      obtain ⟨bd, cs2, rfl, _, hcs2, ⟨vb, rfl, hb⟩⟩ := (HB.out q).at_ hx
      have k0 : (w.drewN q).cell? (ad.add k) = some va := by simpa [Addr.add] using hcs 0 _ rfl
      have j0 : (w.drewN q).cell? (bd.add k) = some vb := by simpa [Addr.add] using hcs2 0 _ rfl
      obtain ⟨A2, c2, rfl, _, _, _⟩ := id ha
      obtain ⟨B2, d2, rfl, _, _, _⟩ := id hb
      generalize hwr : w.drewN q = wr at *
      have HW := hide hwr
      clear hwr
      have HA2 := hide (fun m => ha.non ((Fr.refl _ _).drewN m))
      have HB2 := hide (fun m => hb.non ((Fr.refl _ _).drewN m))
      clear hx hcs hcs2 ha hb
      go_wp2
      go_quiet ((go_at_call 19; exact Calls.quiet_of (same_eq _ _ x _ (HA2.out _) (HB2.out _))))
      go_wp2
      go_roundw
      case rel => exact ⟨k + 1, q + nq, by omega, by go_num, by rw [← HW.out]; exact drewN_two _ _ _⟩
      case measure => simp [intOf]; omega
    · go_wp2
      go_ret
      exact ⟨rfl, q, rfl⟩

theorem sames_true {M0 : Imm} {L : List Res} (v u : Value) (xs : List (List Int)) (w : World) (hx : Rows w 1 LogR v xs) (hy : Rows w 1 LogR u xs) (h : St M0 w L) :
    Calls Try.prog 40 #[v, u] w fun e w' => e = .returned (.bool true) ∧ St M0 w' L := by
  refine (sames_q v u xs w hx hy).mono ?_
  rintro e w' ⟨he, n, rfl⟩
  exact ⟨he, h.drewN n⟩

end Go.Proofs.Ytdhkklcjhbnnlaa
