/- A reader of numbers and bytes (plain). -/
import Derived.Test.YtbgknfdaaffeaaaPackM
namespace Go.Proofs.Ytbgknfdaaffeaaa

/-- what is left, and whether nothing is read any more -/
structure Rd where
  xs : List Int
  s : Bool
def Rd.take (r : Rd) (n : Nat) : List Int × Rd := if r.s = true ∨ r.xs.length < n then ([], ⟨[], true⟩) else (r.xs.take n, ⟨r.xs.drop n, false⟩)
/-- the number of bytes, the lowest one first -/
def ofB : List Int → Int
  | [] => 0
  | x :: r => x + 256 * ofB r
def Rd.size (r : Rd) (size : Int) : Nat := if size < 1 ∨ 8 < size then r.xs.length + 1 else size.toNat
def Rd.num (r : Rd) (size : Int) : Int × Rd := (ofB (r.take (r.size size)).1, (r.take (r.size size)).2)
def Rd.count (n : Int) (r : Rd) : Nat := if 1000 < n then r.xs.length + 1 else n.toNat
def Rd.byt (r : Rd) : List Int × Rd := (r.num 2).2.take (Rd.count (r.num 2).1 (r.num 2).2)
def Rd.endE (r : Rd) : Int := if r.s = true then 10 else if 0 < r.xs.length then 11 else 0

def isByte (x : Int) : Prop := 0 ≤ x ∧ x ≤ 255
def Bytes (xs : List Int) : Prop := ∀ x ∈ xs, isByte x
theorem Bytes.take {xs : List Int} (h : Bytes xs) (n : Nat) : Bytes (xs.take n) := fun x hx => h x (List.mem_of_mem_take hx)
theorem Bytes.drop {xs : List Int} (h : Bytes xs) (n : Nat) : Bytes (xs.drop n) := fun x hx => h x (List.mem_of_mem_drop hx)
theorem Bytes.append {xs ys : List Int} (h : Bytes xs) (k : Bytes ys) : Bytes (xs ++ ys) := fun x hx => (List.mem_append.1 hx).elim (h x) (k x)
theorem Bytes.nil : Bytes [] := fun _ h => absurd h (List.not_mem_nil)
theorem numB_bytes (n : Int) (k : Nat) : Bytes (numB n k) := by
  intro x hx
  obtain ⟨i, _, rfl⟩ := List.mem_map.1 hx
  unfold isByte
  omega
theorem numI_bytes (n size : Int) : Bytes (numI n size) := by
  unfold numI
  split
  · exact Bytes.nil
  · exact numB_bytes _ _

theorem Rd.take_xs (r : Rd) (n : Nat) (h : Bytes r.xs) : Bytes (r.take n).1 ∧ Bytes (r.take n).2.xs := by
  unfold Rd.take
  split
  · exact ⟨Bytes.nil, Bytes.nil⟩
  · exact ⟨h.take n, h.drop n⟩
theorem Rd.take_len (r : Rd) (n : Nat) : (r.take n).1.length ≤ n ∧ (r.take n).1.length ≤ r.xs.length ∧ (r.take n).2.xs.length ≤ r.xs.length := by
  unfold Rd.take
  split
  · simp
  · simp [List.length_take, List.length_drop]; omega
theorem ofB_snoc (xs : List Int) (x : Int) : ofB (xs ++ [x]) = ofB xs + x * 256 ^ xs.length := by
  induction xs with
  | nil => simp [ofB]
  | cons y r ih =>
    simp only [List.cons_append, ofB, ih, List.length_cons, Int.pow_succ, Int.mul_add]
    rw [show 256 * (x * 256 ^ r.length) = x * (256 ^ r.length * 256) by rw [Int.mul_left_comm, Int.mul_comm 256 (256 ^ r.length)]]
    omega
theorem ofB_range {xs : List Int} (h : Bytes xs) : 0 ≤ ofB xs ∧ ofB xs < 256 ^ xs.length := by
  induction xs with
  | nil => simp [ofB]
  | cons y r ih =>
    have h1 := ih (fun x hx => h x (List.mem_cons_of_mem _ hx))
    have h2 : isByte y := h y (List.mem_cons_self)
    unfold isByte at h2
    simp only [ofB, List.length_cons, Int.pow_succ]
    omega
theorem pow_le_8 {k : Nat} (h : k ≤ 8) : (256 : Int) ^ k ≤ 18446744073709551616 := by
  have : ∀ k, k ≤ 8 → (256 : Int) ^ k ≤ 18446744073709551616 := by decide
  exact this k h

end Go.Proofs.Ytbgknfdaaffeaaa
