/- Slices of structs laid out as literals. -/
import Derived.Test.YtbgknfdaaffeaaaStRows
namespace Go.Proofs.Ytbgknfdaaffeaaa
open Go.RowKit

theorem flatMap_len {α : Type} {size : Nat} (ps : List (List Value × α)) (hl : ∀ p ∈ ps, p.1.length = size) : (ps.flatMap (·.1)).length = ps.length * size := by
  induction ps with
  | nil => simp
  | cons p r ih => rw [List.flatMap_cons, List.length_append, hl p (by simp), ih (fun q hq => hl q (by simp [hq])), List.length_cons, Nat.add_mul, Nat.one_mul, Nat.add_comm]
theorem flatMap_at {α : Type} {size : Nat} (ps : List (List Value × α)) (hl : ∀ p ∈ ps, p.1.length = size) : ∀ (i : Nat) (p : List Value × α), ps[i]? = some p → ((ps.flatMap (·.1)).drop (i * size)).take size = p.1 := by
  induction ps with
  | nil => intro i p h; simp at h
  | cons q r ih =>
    intro i p h
    rw [List.flatMap_cons]
    have hq := hl q (by simp)
    cases i with
    | zero =>
      obtain rfl : q = p := by simpa using h
      rw [Nat.zero_mul, List.drop_zero, ← hq, List.take_left]
    | succ i =>
      rw [Nat.add_mul, Nat.one_mul, Nat.add_comm, ← hq, List.drop_append, hq]
      rw [List.drop_of_length_le (by omega), List.nil_append, show size + i * size - size = i * size by omega]
      exact ih (fun q hq => hl q (by simp [hq])) i p (by simpa using h)
theorem St.litFlat {α : Type} {M0 : Imm} {w : World} {L : List Res} {R : World → List Value → α → Prop} {size : Nat} (ps : List (List Value × α)) (e : TypeId) (hl : ∀ p ∈ ps, p.1.length = size) (h : St M0 w (persR (fun w' => ∀ p ∈ ps, R w' p.1 p.2) :: L)) (hn : ps.length ≤ 100000) (g : Nat) (hg : g = w.heap.size := by simp) :
    St M0 (w.alloc (.cells (ps.flatMap (·.1)).toArray e)) (rowsR size R (.slice (some ⟨g, 0, none⟩) ps.length ps.length) (ps.map (·.2)) :: L) := by
  have h1 := (h.pers1 (R' := fun w' => ∀ i x, (ps.map (·.2))[i]? = some x → R w' (((ps.flatMap (·.1)).drop (i * size)).take size) x) (fun w' hr i x hi => by
    rw [List.getElem?_map] at hi
    cases hp : ps[i]? with
    | none => rw [hp] at hi; cases hi
    | some p =>
      rw [hp] at hi
      obtain rfl : p.2 = x := by simpa using hi
      rw [flatMap_at ps hl i p hp]
      exact hr p (List.mem_of_getElem? hp))).litRow e size ps.length (ps.flatMap (·.1)) (flatMap_len ps hl) hn g hg
  exact h1.rows (by simp)
end Go.Proofs.Ytbgknfdaaffeaaa
