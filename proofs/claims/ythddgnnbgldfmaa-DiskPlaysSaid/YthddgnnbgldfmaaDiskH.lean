/- The disk's methods, told with what lies outside of the disk. -/
import Derived.Test.YthddgnnbgldfmaaDiskN
namespace Go.Proofs.Ythddgnnbgldfmaa
open Go.RowKit

/-- a disk lies in block g, and nothing of it lies in O -/
def Has (O : Nat → Prop) (w : World) (g : Nat) (D : DS) : Prop := ∃ F, DiskAt w g D F ∧ (∀ b, F b → ¬ O b) ∧ ∀ b, O b → b < w.heap.size
/-- all but O -/
def Out (O : Nat → Prop) : Nat → Prop := fun b => ¬ O b
/-- all that was there -/
def Old (w : World) : Nat → Prop := fun b => b < w.heap.size

section
variable {O O' : Nat → Prop} {w w' : World} {g : Nat} {D : DS}
theorem Has.non (h : Has O w g D) (hf : Fr Non w w') : Has O w' g D := by
  obtain ⟨F, h1, h2, h3⟩ := h
  exact ⟨F, h1.non hf, h2, fun b hb => Nat.lt_of_lt_of_le (h3 b hb) hf.size⟩
/-- what has come since lies outside of the disk -/
theorem Has.more (h : Has O w g D) (hf : Fr Non w w') : Has (Plus O w w') w' g D := by
  obtain ⟨F, h1, h2, h3⟩ := h
  refine ⟨F, h1.non hf, ?_, ?_⟩
  · rintro b hb (h | h)
    · exact h2 b hb h
    · have := h1.lt b hb
      omega
  · rintro b (h | h)
    · exact Nat.lt_of_lt_of_le (h3 b h) hf.size
    · exact h.2
theorem Has.less (h : Has O w g D) (ho : ∀ b, O' b → O b) : Has O' w g D := by
  obtain ⟨F, h1, h2, h3⟩ := h
  exact ⟨F, h1, fun b hb hb' => h2 b hb (ho b hb'), fun b hb => h3 b (ho b hb)⟩
theorem Sl.out {Q : Nat → Prop} {size n : Nat} {A : Option Addr} {xs : List Value} (h : Sl w Q size A n xs) (hf : Fr (Out O) w w') (hq : ∀ b, Q b → b < w.heap.size → O b) : Sl w' Q size A n xs :=
  h.fr hf (fun b hb hl x => x (hq b hb hl))
theorem Nums.out {Q : Nat → Prop} {k : IntKind} {v : Value} {xs : List Int} (h : Nums w Q k v xs) (hf : Fr (Out O) w w') (hq : ∀ b, Q b → b < w.heap.size → O b) : Nums w' Q k v xs :=
  h.fr hf (fun b hb hl x => x (hq b hb hl))
theorem Fr.out_old {w0 : World} (h : Fr (Out O) w w') (ho : ∀ b, b < w0.heap.size → O b) (h0 : Fr Non w0 w) : Fr Non w0 w' :=
  h0.step h (fun i hi hl => hi (ho i hl))

theorem write_has (i : Int) (A : Option Addr) (n c : Nat) (bs : List Int) (ho : D.ok) (hn : n = bs.length) (hp : D.pend.length < 1000000) (hv : Sl w O 1 A n (bv bs)) (hb : Has O w g D) :
    Calls Try.prog 27 #[.pointer (some ⟨g, 0, none⟩), .int .i64 i, .slice A n c] w fun e w' => e = .returned (.int .i64 (D.writeE i bs)) ∧ Fr (Out O) w w' ∧ Has O w' g (D.write i bs) := by
  obtain ⟨F, h1, h2, h3⟩ := hb
  refine (write_any g i A n c bs O D F w ho hn hp (fun b hb e => h2 g h1.fg (e ▸ hb)) hv h1).mono ?_
  rintro e w' ⟨he, hf, hd⟩
  refine ⟨he, hf.mono (fun b _ hb => h2 b hb), _, hd, ?_, fun b hb => Nat.lt_of_lt_of_le (h3 b hb) hf.size⟩
  rintro b (hb | hb) ho
  · exact h2 b hb ho
  · have := h3 b ho; omega
theorem sync_has (ho : D.ok) (hp : D.pend.length < 1000000) (hb : Has O w g D) :
    Calls Try.prog 25 #[.pointer (some ⟨g, 0, none⟩)] w fun e w' => e = .returned (.tuple #[]) ∧ Fr (Out O) w w' ∧ Has O w' g D.sync := by
  obtain ⟨F, h1, h2, h3⟩ := hb
  refine (sync_any g D F w ho hp h1).mono ?_
  rintro e w' ⟨he, hf, hd⟩
  exact ⟨he, hf.mono (fun b _ hb => h2 b hb), _, hd, h2, fun b hb => Nat.lt_of_lt_of_le (h3 b hb) hf.size⟩
theorem crash_has (A : Option Addr) (n c : Nat) (picks : List Int) (ho : D.ok) (hn : n = picks.length) (hp : D.pend.length < 1000000) (hv : Sl w O 1 A n (picks.map (Value.int .i64))) (hb : Has O w g D) :
    Calls Try.prog 28 #[.pointer (some ⟨g, 0, none⟩), .slice A n c] w fun e w' => e = .returned (.tuple #[]) ∧ Fr (Out O) w w' ∧ Has O w' g (D.crash picks) := by
  obtain ⟨F, h1, h2, h3⟩ := hb
  refine (crash_any g A n c picks O D F w ho hp hn (fun b hb e => h2 b e hb) hv h1).mono ?_
  rintro e w' ⟨he, hf, hd⟩
  refine ⟨he, hf.mono (fun b _ hb => h2 b hb), _, hd, ?_, fun b hb => Nat.lt_of_lt_of_le (h3 b hb) hf.size⟩
  rintro b (hb | hb) ho
  · exact h2 b hb ho
  · have := h3 b ho; omega
theorem fuse_has (n : Int) (hb : Has O w g D) :
    Calls Try.prog 33 #[.pointer (some ⟨g, 0, none⟩), .int .i64 n] w fun e w' => e = .returned (.tuple #[]) ∧ Fr (Out O) w w' ∧ Has O w' g { D with fuse := n } := by
  obtain ⟨F, h1, h2, h3⟩ := hb
  refine (fuse_any g n D F w h1).mono ?_
  rintro e w' ⟨he, hf, hd⟩
  exact ⟨he, hf.mono (fun b _ hb => h2 b hb), _, hd, h2, fun b hb => Nat.lt_of_lt_of_le (h3 b hb) hf.size⟩
theorem read_has (i : Int) (ho : D.ok) (hb : Has O w g D) :
    Calls Try.prog 47 #[.pointer (some ⟨g, 0, none⟩), .int .i64 i] w fun e w' => ∃ A c, e = .returned (.tuple #[.slice A (D.read i).length c, .int .i64 (D.readE i)]) ∧ (D.read i).length ≤ c ∧ (D.read i).length ≤ 64 ∧
      Sl w' (fun b => w.heap.size ≤ b) 1 A (D.read i).length (bv (D.read i)) ∧ Fr Non w w' := by
  obtain ⟨F, h1, h2, h3⟩ := hb
  exact read_any g i D F w ho h1
theorem pending_has (hb : Has O w g D) : Calls Try.prog 29 #[.pointer (some ⟨g, 0, none⟩)] w fun e w' => e = .returned (.int .i64 D.pend.length) ∧ w = w' := by
  obtain ⟨F, h1, h2, h3⟩ := hb
  exact pending_any g D F w h1
theorem down_has (hb : Has O w g D) : Calls Try.prog 34 #[.pointer (some ⟨g, 0, none⟩)] w fun e w' => e = .returned (.bool D.down) ∧ w = w' := by
  obtain ⟨F, h1, h2, h3⟩ := hb
  exact down_any g D F w h1
theorem len_has (hb : Has O w g D) : Calls Try.prog 53 #[.pointer (some ⟨g, 0, none⟩)] w fun e w' => e = .returned (.int .i64 D.n) ∧ w = w' := by
  obtain ⟨F, h1, h2, h3⟩ := hb
  exact len_any g D F w h1
theorem has_new (h : DiskAt w' g D (Plus Non w w')) (hf : Fr Non w w') : Has (Old w) w' g D := by
  refine ⟨_, h, ?_, fun b hb => Nat.lt_of_lt_of_le hb hf.size⟩
  rintro b (hb | hb) ho
  · exact hb
  · have : b < w.heap.size := ho
    omega
theorem copy_has (ho : D.ok) (hp : D.pend.length < 1000000) (hb : Has O w g D) :
    Calls Try.prog 31 #[.pointer (some ⟨g, 0, none⟩)] w fun e w' => ∃ g', e = .returned (.pointer (some ⟨g', 0, none⟩)) ∧ w.heap.size ≤ g' ∧ Has (Old w) w' g' D ∧ Fr Non w w' := by
  obtain ⟨F, h1, h2, h3⟩ := hb
  refine (copy_any g D F w ho hp h1).mono ?_
  rintro e w' ⟨g', he, hg, hd, hf⟩
  exact ⟨g', he, hg, has_new hd hf, hf⟩
end
theorem new_has (n : Int) (w : World) (h1 : 1 ≤ n) (h2 : n ≤ 512) :
    Calls Try.prog 32 #[.int .i64 n] w fun e w' => ∃ g, e = .returned (.tuple #[.pointer (some ⟨g, 0, none⟩), .int .i64 0]) ∧ w.heap.size ≤ g ∧ Has (Old w) w' g (DS.new n.toNat) ∧ Fr Non w w' := by
  refine (new_any n w h1 h2).mono ?_
  rintro e w' ⟨g', he, hg, hd, hf⟩
  exact ⟨g', he, hg, has_new hd hf, hf⟩

end Go.Proofs.Ythddgnnbgldfmaa
