/- What is pending, on top of what is sure, is what is seen: plain. And made, where the list was there before. -/
import Derived.Test.YthddgnnbgldfmaaDiskMade
namespace Go.Proofs.Ythddgnnbgldfmaa
open Go.RowKit

/-- where nothing is pending a crash leaves all that is sure -/
theorem DS.crash_none {D : DS} (h : D.pend = []) (p : List Int) : (D.crash p).seen = D.sure ∧ (D.crash p).sure = D.sure ∧ (D.crash p).pend = [] := by
  unfold DS.crash
  rw [h]
  exact ⟨rfl, rfl, rfl⟩

/-- behind made: all that is pending, on top of what is sure, is what is seen -/
def DS.fits (D : DS) : Prop := D.seen = onto D.sure D.pend ∧ D.fuse = -1 ∧ D.down = false
theorem DS.fits_new (n : Nat) : (DS.new n).fits := ⟨rfl, rfl, rfl⟩
theorem DS.fits.goes {D : DS} (h : D.fits) : D.goes = true ∧ D.after = D := by
  obtain ⟨n, s, u, p, f, d⟩ := D
  obtain ⟨_, h2, h3⟩ := h
  simp only at h2 h3
  subst h2; subst h3
  exact ⟨rfl, rfl⟩
theorem DS.fits.write {D : DS} (h : D.fits) (i : Int) (b : List Int) : (D.write i b).fits := by
  unfold DS.write
  split; · exact h
  split; · exact h
  rw [h.goes.1, h.goes.2, if_pos rfl]
  refine ⟨?_, h.2.1, h.2.2⟩
  show splice D.seen _ _ = onto D.sure (D.pend ++ _)
  rw [onto_append, h.1]
  rfl
theorem DS.fits.sync {D : DS} (h : D.fits) : D.sync.fits ∧ D.sync.seen = D.seen ∧ D.sync.sure = D.seen ∧ D.sync.pend = [] := by
  unfold DS.sync
  rw [h.goes.1, h.goes.2, if_pos rfl]
  exact ⟨⟨h.1, h.2.1, h.2.2⟩, rfl, h.1.symm, rfl⟩
theorem DS.fits.crash {D : DS} (p : List Int) : (D.crash p).fits := ⟨rfl, rfl, rfl⟩
theorem DS.fits.step4 {D : DS} (h : D.fits) (o : Op4) : (D.step4 o).fits := by
  unfold DS.step4
  split; · exact h.write _ _
  split; · exact h.sync.1
  split; · exact DS.fits.crash _
  exact h
theorem DS.fits.run4 {D : DS} (h : D.fits) (ops : Nat → Op4) : ∀ k, (D.run4 ops k).fits
  | 0 => h
  | k + 1 => (DS.fits.run4 h ops k).step4 _
theorem made4_fits (ops : Nat → Op4) (n : Nat) : (made4 ops n).fits := (DS.fits_new 8).run4 _ _

theorem DS.sync_n (D : DS) : D.sync.n = D.n := by unfold DS.sync; split <;> rfl
theorem DS.write_n (D : DS) (i : Int) (b : List Int) : (D.write i b).n = D.n := by
  unfold DS.write; split; · rfl
  split; · rfl
  split <;> rfl
theorem DS.write_pend (D : DS) (i : Int) (b : List Int) : (D.write i b).pend.length ≤ D.pend.length + 1 := by
  have := DS.step4_pend D ⟨1, i, b, []⟩
  exact this
theorem DS.sync_pend (D : DS) : D.sync.pend.length ≤ D.pend.length := by
  unfold DS.sync; split
  · simp
  · exact Nat.le_refl _

theorem Ops4.mono {w : World} {Q Q' : Nat → Prop} {A : Option Addr} {n : Nat} {ops : Nat → Op4} (h : Ops4 w Q A n ops) (hq : ∀ b, Q b → b < w.heap.size → Q' b) : Ops4 w Q' A n ops := by
  intro i hi
  obtain ⟨ad, B, C, bc, pc, h⟩ := h i hi
  exact ⟨ad, B, C, bc, pc, h.he, hq _ h.hq h.hb, h.hb, h.c0, h.c1, h.c2, h.c3, h.sb.mono hq, h.sp.mono hq⟩
theorem made_old {w w1 : World} (A : Option Addr) (n c : Nat) (ops : Nat → Op4) (hn : n ≤ 9223372036854775807) (ho : Ops4 w (Old w) A n ops) (hf : Fr Non w w1) :
    Calls Try.prog 24 #[.slice A n c] w1 fun e w' => ∃ g, e = .returned (.pointer (some ⟨g, 0, none⟩)) ∧ w1.heap.size ≤ g ∧ Has (Old w1) w' g (made4 ops n) ∧ Fr Non w1 w' :=
  made_has A n c ops w1 hn ((ho.non hf).mono (fun _ _ h => h))

end Go.Proofs.Ythddgnnbgldfmaa
