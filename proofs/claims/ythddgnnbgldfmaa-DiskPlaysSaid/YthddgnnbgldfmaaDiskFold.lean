/- Writes one behind the other; a crash that keeps all, one that keeps none: plain. And a list of picks that grows. -/
import Derived.Test.YthddgnnbgldfmaaDiskTwo
namespace Go.Proofs.Ythddgnnbgldfmaa
open Go.RowKit

/-- info_int at this seat, under a name of its own -/
theorem info_i64 : (Try.prog.info? 3).map (fun i => (i.zero, i.size, i.bytes)) = some (some (.int .i64 0), 1, 8) := by kernel_rfl

def DS.wr4 (D : DS) (ops : Nat → Op4) : Nat → DS
  | 0 => D
  | k + 1 => (DS.wr4 D ops k).write (ops k).i (ops k).b
theorem DS.ok.wr4 {D : DS} (h : D.ok) (ops : Nat → Op4) : ∀ k, (D.wr4 ops k).ok
  | 0 => h
  | k + 1 => (DS.ok.wr4 h ops k).write _ _
theorem DS.wr4_n (D : DS) (ops : Nat → Op4) : ∀ k, (D.wr4 ops k).n = D.n
  | 0 => rfl
  | k + 1 => (DS.write_n _ _ _).trans (DS.wr4_n D ops k)
theorem DS.wr4_pend (D : DS) (ops : Nat → Op4) : ∀ k, (D.wr4 ops k).pend.length ≤ D.pend.length + k
  | 0 => Nat.le_refl _
  | k + 1 => Nat.le_trans (DS.write_pend _ _ _) (by have := DS.wr4_pend D ops k; omega)
theorem DS.fits.wr4 {D : DS} (h : D.fits) (ops : Nat → Op4) : ∀ k, (D.wr4 ops k).fits
  | 0 => h
  | k + 1 => (DS.fits.wr4 h ops k).write _ _
theorem DS.write_sure (D : DS) (i : Int) (b : List Int) : (D.write i b).sure = D.sure := by
  unfold DS.write; split; · rfl
  split; · rfl
  split <;> rfl
theorem DS.wr4_sure (D : DS) (ops : Nat → Op4) : ∀ k, (D.wr4 ops k).sure = D.sure
  | 0 => rfl
  | k + 1 => (DS.write_sure _ _ _).trans (DS.wr4_sure D ops k)
theorem DS.write_more {D : DS} {i : Int} {b : List Int} (h : D.writeE i b = 0) : (D.write i b).pend.length = D.pend.length + 1 := by
  unfold DS.writeE at h
  unfold DS.write
  split
  · rename_i h1; rw [if_pos h1] at h; omega
  rename_i h1
  rw [if_neg h1] at h
  split
  · rename_i h2; rw [if_pos h2] at h; omega
  rename_i h2
  rw [if_neg h2] at h
  split
  · simp [DS.put, DS.after]
  · rename_i h3; rw [if_neg h3] at h; omega
theorem DS.write_same {D : DS} {i : Int} {b : List Int} (h : D.writeE i b ≠ 0) : (D.write i b).pend = D.pend := by
  unfold DS.writeE at h
  unfold DS.write
  split
  · rfl
  rename_i h1
  rw [if_neg h1] at h
  split
  · rfl
  rename_i h2
  rw [if_neg h2] at h
  split
  · rename_i h3; rw [if_pos h3] at h; omega
  · rfl

def sixty (k : Nat) : List Int := List.replicate k 64
theorem sixty_succ (k : Nat) : sixty (k + 1) = sixty k ++ [64] := List.replicate_succ'
theorem keeps_sixty {m k : Nat} (h : k < m) : keeps (sixty m) k = 64 := by
  unfold keeps sixty
  rw [if_pos (by simpa using h), List.getD_eq_getElem?_getD, List.getElem?_replicate, if_pos h]
  rfl
theorem tear_all (picks : List Int) : ∀ (l : List (Nat × List Int)) (s : List Int) (j : Nat), (∀ k, k < l.length → keeps picks (j + k) = 64) → (∀ p ∈ l, p.2.length = 64) → tear picks s j l = onto s l
  | [], _, _, _, _ => rfl
  | p :: r, s, j, h, hp => by
    have h0 : keeps picks j = 64 := h 0 (by simp)
    have hl := hp p (List.mem_cons_self ..)
    simp only [tear, onto]
    rw [h0, List.take_of_length_le (by omega)]
    exact tear_all picks r _ (j + 1) (fun k hk => by rw [show j + 1 + k = j + (k + 1) by omega]; exact h (k + 1) (by simpa using hk)) (fun q hq => hp q (List.mem_cons_of_mem _ hq))
theorem splice_nil {α : Type} (xs : List α) (o : Nat) : splice xs o [] = xs := by simp [splice]
theorem tear_nil : ∀ (l : List (Nat × List Int)) (s : List Int) (j : Nat), tear [] s j l = s
  | [], _, _ => rfl
  | p :: r, s, j => by
    simp only [tear]
    rw [show keeps [] j = 0 by simp [keeps], List.take_zero, splice_nil]
    exact tear_nil r s (j + 1)
theorem DS.crash_all {D : DS} (ho : D.ok) (h : D.seen = onto D.sure D.pend) : (D.crash (sixty D.pend.length)).seen = D.seen := by
  show tear _ D.sure 0 D.pend = D.seen
  rw [tear_all _ _ _ _ (fun k hk => by rw [Nat.zero_add]; exact keeps_sixty hk) (fun p hp => (ho.hp p hp).2), h]
theorem DS.crash_nil (D : DS) : (D.crash []).seen = D.sure := tear_nil _ _ _

theorem own_slice {w : World} {base : Nat} {e : TypeId} {size n : Nat} {v : Value} {xs : List Value} (h : w.ownsRow base e size v n xs) : ∃ A c, v = .slice A n c := by
  rcases h.2 with ⟨rfl, rfl⟩ | ⟨g, cap, cur, rfl, _⟩
  · exact ⟨_, _, rfl⟩
  · exact ⟨_, _, rfl⟩
theorem own_sl {w : World} {O : Nat → Prop} {base : Nat} {e : TypeId} {n c : Nat} {A : Option Addr} {xs : List Value} (h : w.ownsRow base e 1 (.slice A n c) n xs) (ho : ∀ b, (Value.slice A n c).ownBlock = some b → O b) : Sl w O 1 A n xs := by
  refine ⟨h.1, fun hn => ?_⟩
  rcases h.2 with ⟨_, h0⟩ | ⟨g, cap, cur, hv, hg, hh, _⟩
  · omega
  · have hA : A = some ⟨g, 0, none⟩ := by injection hv
    subst hA
    exact ⟨_, rfl, ho g rfl, Blk.lt hh, h.cells (g := g) rfl⟩

end Go.Proofs.Ythddgnnbgldfmaa
