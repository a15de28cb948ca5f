/- Cache: an element written over; where a search ends. -/
import Derived.Test.YtbgknfdaaffeaaaCaU
import Derived.Test.YtbgknfdaaffeaaaCaL
namespace Go.Proofs.Ytbgknfdaaffeaaa
open Go.RowKit

section
variable {α : Type} {M0 : Imm} {w : World} {L : List Res} {e : TypeId} {size : Nat} {R : World → List Value → α → Prop}
theorem splice_set {β : Type} (xs : List β) (k : Nat) (x : β) (hk : k < xs.length) : splice xs k [x] = xs.set k x := by
  unfold splice
  rw [List.set_eq_take_append_cons_drop, if_pos hk]
  simp
theorem St.growSet {A : Option Addr} {n c k : Nat} {xs : List α} {cs : List Value} {x : α} (h : St M0 w (growR e size R (.slice A n c) xs :: persR (fun w => R w cs x) :: L)) (hc : cs.length = size) (hk : k < xs.length) :
    ∃ b, A = some ⟨b, 0, none⟩ ∧ St M0 (w.setCells b (k * size) cs) (growR e size R (.slice A n c) (xs.set k x) :: L) := by
  obtain ⟨zs, hz, hn, hs, h1⟩ := h.growZ
  have hlz : zs.length = xs.length := by rw [← hz, List.length_map]
  obtain ⟨b, rfl⟩ := own_form (h1.row 0 rfl) (by omega)
  refine ⟨b, rfl, ?_⟩
  have hle : (k + 1) * size ≤ n * size := Nat.mul_le_mul_right _ (by omega)
  rw [Nat.add_mul, Nat.one_mul] at hle
  have h2 := h1.rowSplice (k * size) cs (by omega)
  have e1 := flatZ_splice zs [(cs, x)] hs (fun p hp => by obtain rfl : p = (cs, x) := by simpa using hp
                                                          exact hc) k (by simp; omega)
  rw [show flatZ [(cs, x)] = cs by simp [flatZ], splice_set zs k (cs, x) (by omega)] at e1
  rw [e1] at h2
  have h3 := (h2.dn2.pers2 (Q := allZ R (zs.set k (cs, x))) (fun w' h1 h2 p hp => by
    rcases List.mem_or_eq_of_mem_set hp with hp | rfl
    · exact h1 p hp
    · exact h2)).swap
  refine h3.zGrow (fun p hp => ?_) (by rw [List.map_set, hz]) (by rw [List.length_set]; omega)
  rcases List.mem_or_eq_of_mem_set hp with hp | rfl
  · exact hs p hp
  · exact hc
end
theorem idxP_spec (p : PU → Bool) (l : List PU) : ∀ i : Nat, (idxP p i l = -1 ∧ l.any p = false) ∨ ∃ (k : Nat) (x : PU), idxP p i l = ((i + k : Nat) : Int) ∧ l[k]? = some x ∧ p x = true := by
  induction l with
  | nil => exact fun i => .inl ⟨rfl, rfl⟩
  | cons x r ih =>
    intro i
    cases hp : p x with
    | true => exact .inr ⟨0, x, by simp [idxP, hp], rfl, hp⟩
    | false =>
      rcases ih (i + 1) with ⟨h1, h2⟩ | ⟨k, y, h1, h2, h3⟩
      · exact .inl ⟨by simp [idxP, hp, h1], by simp [hp, h2]⟩
      · refine .inr ⟨k + 1, y, ?_, h2, h3⟩
        have e : idxP p i (x :: r) = idxP p (i + 1) r := by simp [idxP, hp]
        rw [e, h1]
        omega
end Go.Proofs.Ytbgknfdaaffeaaa
