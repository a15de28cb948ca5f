/- Two disks that have nothing in common. -/
import Derived.Test.YthddgnnbgldfmaaDiskFit
namespace Go.Proofs.Ythddgnnbgldfmaa
open Go.RowKit

/-- two disks, apart from each other and from O -/
def Two (O : Nat → Prop) (w : World) (g : Nat) (D : DS) (g' : Nat) (D' : DS) : Prop :=
  ∃ F F', DiskAt w g D F ∧ DiskAt w g' D' F' ∧ (∀ b, F b → ¬ F' b) ∧ (∀ b, F b → ¬ O b) ∧ (∀ b, F' b → ¬ O b) ∧ ∀ b, O b → b < w.heap.size

section
variable {O O' S : Nat → Prop} {w w' : World} {g g' : Nat} {D D' : DS}
theorem Has.keep (h : Has O w g D) (hf : Fr S w w') (hs : ∀ b, S b → O b) : Has (Plus O w w') w' g D := by
  obtain ⟨F, h1, h2, h3⟩ := h
  refine ⟨F, h1.fr hf (fun b hb hS => h2 b hb (hs b hS)), ?_, ?_⟩
  · rintro b hb (h | h)
    · exact h2 b hb h
    · have := h1.lt b hb
      omega
  · rintro b (h | h)
    · exact Nat.lt_of_lt_of_le (h3 b h) hf.size
    · exact h.2
theorem Two.symm (h : Two O w g D g' D') : Two O w g' D' g D := by
  obtain ⟨F, F', h1, h2, h3, h4, h5, h6⟩ := h
  exact ⟨F', F, h2, h1, fun b hb hb' => h3 b hb' hb, h5, h4, h6⟩
theorem Two.non (h : Two O w g D g' D') (hf : Fr Non w w') : Two O w' g D g' D' := by
  obtain ⟨F, F', h1, h2, h3, h4, h5, h6⟩ := h
  exact ⟨F, F', h1.non hf, h2.non hf, h3, h4, h5, fun b hb => Nat.lt_of_lt_of_le (h6 b hb) hf.size⟩
theorem Two.less (h : Two O w g D g' D') (ho : ∀ b, O' b → O b) : Two O' w g D g' D' := by
  obtain ⟨F, F', h1, h2, h3, h4, h5, h6⟩ := h
  exact ⟨F, F', h1, h2, h3, fun b hb hb' => h4 b hb (ho b hb'), fun b hb hb' => h5 b hb (ho b hb'), fun b hb => h6 b (ho b hb)⟩
theorem Two.keep (h : Two O w g D g' D') (hf : Fr S w w') (hs : ∀ b, S b → O b) : Two (Plus O w w') w' g D g' D' := by
  obtain ⟨F, F', h1, h2, h3, h4, h5, h6⟩ := h
  refine ⟨F, F', h1.fr hf (fun b hb hS => h4 b hb (hs b hS)), h2.fr hf (fun b hb hS => h5 b hb (hs b hS)), h3, ?_, ?_, ?_⟩
  · rintro b hb (h | h)
    · exact h4 b hb h
    · have := h1.lt b hb
      omega
  · rintro b hb (h | h)
    · exact h5 b hb h
    · have := h2.lt b hb
      omega
  · rintro b (h | h)
    · exact Nat.lt_of_lt_of_le (h6 b h) hf.size
    · exact h.2
theorem Two.more (h : Two O w g D g' D') (hf : Fr Non w w') : Two (Plus O w w') w' g D g' D' := h.keep hf (fun _ x => x.elim)
/-- what is done to the first one -/
theorem Two.step (h : Two O w g D g' D') : ∃ O', (∀ b, O b → O' b) ∧ Has O' w g D ∧ ∀ w' D1, Fr (Out O') w w' → Has O' w' g D1 → Two O w' g D1 g' D' ∧ Fr (Out O) w w' := by
  obtain ⟨F, F', h1, h2, h3, h4, h5, h6⟩ := h
  refine ⟨fun b => O b ∨ F' b, fun b hb => .inl hb, ⟨F, h1, fun b hb hb' => hb'.elim (h4 b hb) (h3 b hb), fun b hb => hb.elim (h6 b) (h2.lt b)⟩, ?_⟩
  rintro w' D1 hf ⟨F1, k1, k2, k3⟩
  exact ⟨⟨F1, F', k1, h2.fr hf (fun b hb hO => hO (.inr hb)), fun b hb hb' => k2 b hb (.inr hb'), fun b hb hb' => k2 b hb (.inl hb'), h5, fun b hb => k3 b (.inl hb)⟩, hf.mono (fun b _ hb hO => hb (.inl hO))⟩
theorem Two.fst (h : Two O w g D g' D') : Has O w g D := by
  obtain ⟨F, F', h1, h2, h3, h4, h5, h6⟩ := h
  exact ⟨F, h1, h4, h6⟩
theorem Two.snd (h : Two O w g D g' D') : Has O w g' D' := h.symm.fst
/-- a disk, and one that has come since -/
theorem Has.two (h : Has O w g D) (hf : Fr Non w w') (hx : Has (Old w) w' g' D') : Two O w' g D g' D' := by
  obtain ⟨F, h1, h2, h3⟩ := h
  obtain ⟨F', k1, k2, k3⟩ := hx
  exact ⟨F, F', h1.non hf, k1, fun b hb hb' => k2 b hb' (h1.lt b hb), h2, fun b hb hb' => k2 b hb (h3 b hb'), fun b hb => Nat.lt_of_lt_of_le (h3 b hb) hf.size⟩
theorem copy_two (ho : D.ok) (hp : D.pend.length < 1000000) (hb : Has O w g D) :
    Calls Try.prog 31 #[.pointer (some ⟨g, 0, none⟩)] w fun e w' => ∃ g', e = .returned (.pointer (some ⟨g', 0, none⟩)) ∧ Two O w' g D g' D ∧ Fr Non w w' := by
  refine (copy_has ho hp hb).mono ?_
  rintro e w' ⟨g', he, _, hx, hf⟩
  exact ⟨g', he, hb.two hf hx, hf⟩
end

end Go.Proofs.Ythddgnnbgldfmaa
