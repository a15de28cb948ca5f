/- How a disk lies in memory; the methods that only ask. -/
import Derived.Test.YthddgnnbgldfmaaDiskM
import Derived.Test.YthddgnnbgldfmaaRows
namespace Go.Proofs.Ythddgnnbgldfmaa
open Go.RowKit

def dcells (b1 c1 b2 c2 : Nat) (v3 : Value) (D : DS) : Array Value :=
  #[.slice (some ⟨b1, 0, none⟩) D.n c1, .slice (some ⟨b2, 0, none⟩) D.n c2, v3, .int .i64 D.fuse, .bool D.down]

/-- a disk lies in block g; its rows are b1, b2, and that of the pending writes; all of these are in F -/
structure DiskIn (w : World) (g : Nat) (D : DS) (F : Nat → Prop) (b1 c1 b2 c2 : Nat) (A : Option Addr) (c3 : Nat) : Prop where
  blk : Blk w g 79 (dcells b1 c1 b2 c2 (.slice A D.pend.length c3) D)
  seen : w.ownsRow 0 81 64 (.slice (some ⟨b1, 0, none⟩) D.n c1) D.n (bv D.seen)
  sure : w.ownsRow 0 81 64 (.slice (some ⟨b2, 0, none⟩) D.n c2) D.n (bv D.sure)
  pend : w.ownsRow 0 83 65 (.slice A D.pend.length c3) D.pend.length (pv D.pend)
  ne : b1 ≠ b2
  fg : F g
  f1 : F b1
  f2 : F b2
  f3 : ∀ b, (Value.slice A D.pend.length c3).ownBlock = some b → F b
  lt : ∀ b, F b → b < w.heap.size
def DiskAt (w : World) (g : Nat) (D : DS) (F : Nat → Prop) : Prop := ∃ b1 c1 b2 c2 A c3, DiskIn w g D F b1 c1 b2 c2 A c3

/-- what is in F, and what has come since -/
def Plus (F : Nat → Prop) (w w' : World) : Nat → Prop := fun b => F b ∨ (w.heap.size ≤ b ∧ b < w'.heap.size)

section
variable {w w' : World} {g : Nat} {D : DS} {F S : Nat → Prop} {b1 c1 b2 c2 c3 : Nat} {A : Option Addr}
theorem DiskIn.fr (h : DiskIn w g D F b1 c1 b2 c2 A c3) (hf : Fr S w w') (hd : ∀ b, F b → ¬ S b) : DiskIn w' g D F b1 c1 b2 c2 A c3 :=
  ⟨h.blk.fr hf (hd _ h.fg), own_fr1 h.seen hf (hd _ h.f1), own_fr1 h.sure hf (hd _ h.f2), own_fr h.pend hf (fun b hb => hd _ (h.f3 b hb)),
    h.ne, h.fg, h.f1, h.f2, h.f3, fun b hb => Nat.lt_of_lt_of_le (h.lt b hb) hf.size⟩
theorem DiskAt.fr (h : DiskAt w g D F) (hf : Fr S w w') (hd : ∀ b, F b → ¬ S b) : DiskAt w' g D F := by
  obtain ⟨b1, c1, b2, c2, A, c3, h⟩ := h
  exact ⟨b1, c1, b2, c2, A, c3, h.fr hf hd⟩
theorem DiskAt.non (h : DiskAt w g D F) (hf : Fr Non w w') : DiskAt w' g D F := h.fr hf (fun _ _ x => x)
theorem DiskAt.lt (h : DiskAt w g D F) : ∀ b, F b → b < w.heap.size := by
  obtain ⟨b1, c1, b2, c2, A, c3, h⟩ := h
  exact h.lt
theorem DiskAt.fg (h : DiskAt w g D F) : F g := by
  obtain ⟨b1, c1, b2, c2, A, c3, h⟩ := h
  exact h.fg
theorem DiskAt.mono (h : DiskAt w g D F) (hs : ∀ b, F b → S b) (hl : ∀ b, S b → b < w.heap.size) : DiskAt w g D S := by
  obtain ⟨b1, c1, b2, c2, A, c3, h⟩ := h
  exact ⟨b1, c1, b2, c2, A, c3, h.blk, h.seen, h.sure, h.pend, h.ne, hs _ h.fg, hs _ h.f1, hs _ h.f2, fun b hb => hs _ (h.f3 b hb), hl⟩
theorem DiskIn.ne1 (h : DiskIn w g D F b1 c1 b2 c2 A c3) : g ≠ b1 := by
  obtain ⟨cur, hb, _⟩ := own_blk h.seen
  exact h.blk.ne_ hb (by decide)
theorem DiskIn.ne2 (h : DiskIn w g D F b1 c1 b2 c2 A c3) : g ≠ b2 := by
  obtain ⟨cur, hb, _⟩ := own_blk h.sure
  exact h.blk.ne_ hb (by decide)
theorem own_ne {e : TypeId} {size n : Nat} {v : Value} {xs : List Value} {t : TypeId} {cs : Array Value} (h : w.ownsRow 0 e size v n xs) (hg : Blk w g t cs) (hne : e ≠ t) : ∀ b, v.ownBlock = some b → b ≠ g := by
  intro b hb
  rcases h.2 with ⟨rfl, _⟩ | ⟨g', cap, cur, rfl, _, hh, _⟩
  · simp [Value.ownBlock] at hb
  · simp [Value.ownBlock] at hb
    subst hb
    exact Blk.ne_ (t := e) hh hg hne
theorem DiskIn.ne3 (h : DiskIn w g D F b1 c1 b2 c2 A c3) : ∀ b, (Value.slice A D.pend.length c3).ownBlock = some b → b ≠ g ∧ b ≠ b1 ∧ b ≠ b2 := by
  obtain ⟨cur1, hb1, _⟩ := own_blk h.seen
  obtain ⟨cur2, hb2, _⟩ := own_blk h.sure
  intro b hb
  exact ⟨own_ne h.pend h.blk (by decide) b hb, own_ne h.pend hb1 (by decide) b hb, own_ne h.pend hb2 (by decide) b hb⟩
end

set_option maxHeartbeats 400000 in
theorem pending_any (g : Nat) (D : DS) (F : Nat → Prop) (w : World) (hb : DiskAt w g D F) :
    Calls Try.prog 29 #[.pointer (some ⟨g, 0, none⟩)] w fun e w' => e = .returned (.int .i64 D.pend.length) ∧ w = w' := by
  obtain ⟨b1, c1, b2, c2, A, c3, h⟩ := hb
  have h2 : w.cell? ⟨g, 2, none⟩ = some (.slice A D.pend.length c3) := (h.blk.cell 2).trans rfl
  clear h
  go_enter Try.func29, Try.ntmps29
  go_wp2
  go_ret
  exact ⟨rfl, rfl⟩

set_option maxHeartbeats 400000 in
theorem len_any (g : Nat) (D : DS) (F : Nat → Prop) (w : World) (hb : DiskAt w g D F) :
    Calls Try.prog 53 #[.pointer (some ⟨g, 0, none⟩)] w fun e w' => e = .returned (.int .i64 D.n) ∧ w = w' := by
  obtain ⟨b1, c1, b2, c2, A, c3, h⟩ := hb
  have h2 : w.cell? ⟨g, 0, none⟩ = some (.slice (some ⟨b1, 0, none⟩) D.n c1) := (h.blk.cell 0).trans rfl
  clear h
  go_enter Try.func53, Try.ntmps53
  go_wp2
  go_ret
  exact ⟨rfl, rfl⟩

set_option maxHeartbeats 400000 in
theorem down_any (g : Nat) (D : DS) (F : Nat → Prop) (w : World) (hb : DiskAt w g D F) :
    Calls Try.prog 34 #[.pointer (some ⟨g, 0, none⟩)] w fun e w' => e = .returned (.bool D.down) ∧ w = w' := by
  obtain ⟨b1, c1, b2, c2, A, c3, h⟩ := hb
  have h2 : w.cell? ⟨g, 4, none⟩ = some (.bool D.down) := (h.blk.cell 4).trans rfl
  clear h
  go_enter Try.func34, Try.ntmps34
  go_wp2
  go_ret
  exact ⟨rfl, rfl⟩

set_option maxHeartbeats 400000 in
theorem has_any (g : Nat) (i : Int) (D : DS) (F : Nat → Prop) (w : World) (hb : DiskAt w g D F) :
    Calls Try.prog 48 #[.pointer (some ⟨g, 0, none⟩), .int .i64 i] w fun e w' => e = .returned (.bool (decide (0 ≤ i ∧ i < D.n))) ∧ w = w' := by
  obtain ⟨b1, c1, b2, c2, A, c3, h⟩ := hb
  have h2 : w.cell? ⟨g, 0, none⟩ = some (.slice (some ⟨b1, 0, none⟩) D.n c1) := (h.blk.cell 0).trans rfl
  clear h
  by_cases h0 : 0 ≤ i
  · go_enter Try.func48, Try.ntmps48
    go_wp2
    go_ret
    exact ⟨by simp [h0], rfl⟩
  · rw [decide_eq_false (fun h => h0 h.1)]
    go_enter Try.func48, Try.ntmps48
    go_wp2
    go_ret
    exact ⟨rfl, rfl⟩

set_option maxHeartbeats 400000 in
theorem fuse_any (g : Nat) (n : Int) (D : DS) (F : Nat → Prop) (w : World) (hb : DiskAt w g D F) :
    Calls Try.prog 33 #[.pointer (some ⟨g, 0, none⟩), .int .i64 n] w fun e w' => e = .returned (.tuple #[]) ∧ Fr F w w' ∧ DiskAt w' g { D with fuse := n } F := by
  obtain ⟨b1, c1, b2, c2, A, c3, h⟩ := hb
  have h2 : w.cell? ⟨g, 3, none⟩ = some (.int .i64 D.fuse) := (h.blk.cell 3).trans rfl
  have h3 := h.blk.frozen 3
  have H := hide h
  clear h
  go_enter Try.func33, Try.ntmps33
  go_wp2
  go_end0
  have h := H.out
  have hf : Fr (· = g) w (w.setCell ⟨g, 3, none⟩ (.int .i64 n)) := Fr.setCell (S := (· = g)) (p := ⟨g, 3, none⟩) (Fr.refl _ _) (fun _ => rfl) _
  refine ⟨rfl, hf.mono (by rintro i _ rfl; exact h.fg), b1, c1, b2, c2, A, c3, ?_⟩
  exact ⟨h.blk.set_ 3 _, own_fr1 h.seen hf (fun e => h.ne1 e.symm), own_fr1 h.sure hf (fun e => h.ne2 e.symm), own_fr h.pend hf (fun b hb => (h.ne3 b hb).1), h.ne, h.fg, h.f1, h.f2, h.f3,
    fun b hb => Nat.lt_of_lt_of_le (h.lt b hb) hf.size⟩

end Go.Proofs.Ythddgnnbgldfmaa
