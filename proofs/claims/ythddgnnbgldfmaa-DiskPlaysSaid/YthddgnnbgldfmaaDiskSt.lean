/- The disk's methods, told with resources. -/
import Derived.Test.YthddgnnbgldfmaaDiskAll
import Derived.Test.YthddgnnbgldfmaaEqSt
namespace Go.Proofs.Ythddgnnbgldfmaa
open Go.RowKit

theorem own_at {w w' : World} {base : Nat} {e : TypeId} {size : Nat} {v : Value} {n : Nat} {xs : List Value} (h : w.ownsRow base e size v n xs) (hb : ∀ b, v.ownBlock = some b → w'.heap[b]? = w.heap[b]?) : w'.ownsRow base e size v n xs := by
  refine ⟨h.1, ?_⟩
  rcases h.2 with h2 | ⟨g, cap, cur, rfl, hg, hh, r⟩
  · exact .inl h2
  · exact .inr ⟨g, cap, cur, rfl, hg, (hb g rfl).trans hh, r⟩
/-- a disk -/
def dsR (g : Nat) (D : DS) : Res where
  holds _ w F := DiskAt w g D F
  lt h hb := h.lt _ hb
  loc := by
    rintro M M' w w' F ⟨b1, c1, b2, c2, A, c3, h⟩ _ _ hb
    refine ⟨b1, c1, b2, c2, A, c3, (hb g h.fg).trans h.blk, own_at h.seen (fun b e => ?_), own_at h.sure (fun b e => ?_), own_at h.pend (fun b e => hb b (h.f3 b e)), h.ne, h.fg, h.f1, h.f2, h.f3, fun b hF => ?_⟩
    · simp [Value.ownBlock] at e; subst e; exact hb _ h.f1
    · simp [Value.ownBlock] at e; subst e; exact hb _ h.f2
    · have h1 := hb b hF
      rw [Array.getElem?_eq_getElem (h.lt b hF)] at h1
      exact (Array.getElem?_eq_some_iff.1 h1).1

/-- what stays lies outside of what is written -/
theorem StAt.outside {M : Imm} {w : World} {L : List Res} {Fs : Nat → Nat → Prop} (hs : StAt M w L Fs) (ha : Agree w M) {i k : Nat} {R : World → Prop} (hi : L[i]? = some (persR R)) (hk : k < L.length) {size : Nat} {A : Option Addr} {n : Nat} {xs : List Value} (hsz : 0 < size)
    (hR : ∀ w', R w' → Sl w' Any size A n xs) : Sl w (fun b => ¬ Fs k b) size A n xs := by
  have hx := hs.at_ i _ hi
  have h1 := hR w (hx.2 w ha)
  refine ⟨h1.1, fun hn => ?_⟩
  obtain ⟨ad, rfl, _, hb, hc⟩ := h1.2 hn
  refine ⟨ad, rfl, fun hF => ?_, hb, hc⟩
  have hM := hs.off k _ hk hF
  let w' : World := { w with heap := w.heap.modify ad.block (fun _ => .map #[] 0) }
  have ha' : Agree w' M := ⟨ha.os, ha.tape, ha.output, fun b o hbo => by
    have hne : ad.block ≠ b := by rintro rfl; rw [hM] at hbo; cases hbo
    show (w.heap.modify ad.block (fun _ => .map #[] 0))[b]? = some o
    rw [Array.getElem?_modify, if_neg hne]
    exact ha.heap b o hbo⟩
  obtain ⟨ad', e, _, _, hc'⟩ := (hR w' (hx.2 w' ha')).2 hn
  injection e with e
  subst e
  have hl : 0 < xs.length := by rw [h1.1]; exact Nat.mul_pos hn hsz
  have h2 := hc' 0 _ (List.getElem?_eq_getElem hl)
  unfold World.cell? at h2
  rw [addr_block] at h2
  have h3 : w'.heap[ad.block]? = some (.map #[] 0) := by
    show (w.heap.modify ad.block (fun _ => .map #[] 0))[ad.block]? = _
    rw [Array.getElem?_modify, if_pos rfl, Array.getElem?_eq_getElem hb]
    rfl
  rw [h3] at h2
  cases h2

section
variable {M0 : Imm} {w : World} {L : List Res} {g : Nat} {D : DS}
/-- the disk, and how it goes on -/
theorem St.ds (h : St M0 w (dsR g D :: L)) : ∃ F, DiskAt w g D F ∧ (∀ (i : Nat) k v xs, L[i]? = some (intsR k v xs) → ∃ A c, v = .slice A xs.length c ∧ xs.length ≤ c ∧ c ≤ maxLen ∧ Sl w (fun b => ¬ F b) 1 A xs.length (xs.map (Value.int k))) ∧
    ∀ w' D' F', Fr F w w' → DiskAt w' g D' F' → (∀ b, F' b → F b ∨ w.heap.size ≤ b) → St M0 w' (dsR g D' :: L) := by
  have h0 := h
  obtain ⟨M, Fs, hm, ha, hs⟩ := h
  refine ⟨Fs 0, hs.at_ 0 _ rfl, ?_, ?_⟩
  · intro i k v xs hi
    obtain ⟨A, c, rfl, h1, h2, _⟩ := h0.get (i + 1) (by simpa using hi)
    refine ⟨A, c, rfl, h1, h2, hs.outside ha (i := i + 1) (k := 0) (R := fun w' => Ints w' k (.slice A xs.length c) xs) (by simpa using hi) (by simp) (by omega) (fun w' hI => hI.sl.2.2.2)⟩
  · intro w' D' F' hf hd hF
    have ha' : Agree w' M := ha.fr hf (fun b hb => hs.off 0 b (by simp) hb)
    have hlt : ∀ i b, i < L.length → Fs (i + 1) b → b < w.heap.size := fun i b hi hb => (L[i]).lt (hs.at_ (i + 1) _ (by simp [List.getElem?_eq_getElem hi])) hb
    have ht : StAt M w' L (fun i => Fs (i + 1)) := hs.tail.keep ha' (Imm.le.refl _) (fun i b hi hb => hf.block b (hlt i b hi hb) (hs.apart (i + 1) 0 b (by omega) (by simpa using hi) (by simp) hb)) (fun i b hi => hs.off (i + 1) b (by simpa using hi))
    refine ⟨M, _, hm, ha', ht.cons (X := dsR g D') hd ?_ ?_⟩
    · intro i b hi hb h1
      rcases hF b h1 with h2 | h2
      · exact hs.apart (i + 1) 0 b (by omega) (by simpa using hi) (by simp) hb h2
      · have := hlt i b hi hb; omega
    · intro b hb
      rcases hF b hb with h2 | h2
      · exact hs.off 0 b (by simp) h2
      · cases hM : M.heap b with
        | none => rfl
        | some o => have := (Array.getElem?_eq_some_iff.1 (ha.heap b o hM)).1; omega
theorem plus_new {F : Nat → Prop} {w w' : World} (b : Nat) (h : Plus F w w' b) : F b ∨ w.heap.size ≤ b := h.elim .inl (fun h => .inr h.1)

theorem write_ds (i : Int) (v : Value) (bs : List Int) (k : Nat) (ho : D.ok) (hp : D.pend.length < 1000000) (hi : L[k]? = some (intsR .u8 v bs)) (h : St M0 w (dsR g D :: L)) :
    Calls Try.prog 27 #[.pointer (some ⟨g, 0, none⟩), .int .i64 i, v] w fun e w' => e = .returned (.int .i64 (D.writeE i bs)) ∧ St M0 w' (dsR g (D.write i bs) :: L) := by
  obtain ⟨F, hd, hI, hk⟩ := h.ds
  obtain ⟨A, c, rfl, _, _, hs⟩ := hI k _ _ _ hi
  refine (write_any g i A bs.length c bs _ D F w ho rfl hp (fun b hb e => hb (e ▸ hd.fg)) hs hd).mono ?_
  rintro e w' ⟨he, hf, hd'⟩
  exact ⟨he, hk _ _ _ hf hd' plus_new⟩
theorem sync_ds (ho : D.ok) (hp : D.pend.length < 1000000) (h : St M0 w (dsR g D :: L)) :
    Calls Try.prog 25 #[.pointer (some ⟨g, 0, none⟩)] w fun e w' => e = .returned (.tuple #[]) ∧ St M0 w' (dsR g D.sync :: L) := by
  obtain ⟨F, hd, _, hk⟩ := h.ds
  refine (sync_any g D F w ho hp hd).mono ?_
  rintro e w' ⟨he, hf, hd'⟩
  first | exact ⟨he, hk _ _ _ hf hd' plus_new⟩ | exact ⟨he, hk _ _ _ hf hd' (fun b hb => .inl hb)⟩
theorem crash_ds (v : Value) (picks : List Int) (k : Nat) (ho : D.ok) (hp : D.pend.length < 1000000) (hi : L[k]? = some (intsR .i64 v picks)) (h : St M0 w (dsR g D :: L)) :
    Calls Try.prog 28 #[.pointer (some ⟨g, 0, none⟩), v] w fun e w' => e = .returned (.tuple #[]) ∧ St M0 w' (dsR g (D.crash picks) :: L) := by
  obtain ⟨F, hd, hI, hk⟩ := h.ds
  obtain ⟨A, c, rfl, _, _, hs⟩ := hI k _ _ _ hi
  refine (crash_any g A picks.length c picks _ D F w ho hp rfl (fun b hb e => hb e) hs hd).mono ?_
  rintro e w' ⟨he, hf, hd'⟩
  exact ⟨he, hk _ _ _ hf hd' plus_new⟩
theorem fuse_ds (n : Int) (h : St M0 w (dsR g D :: L)) :
    Calls Try.prog 33 #[.pointer (some ⟨g, 0, none⟩), .int .i64 n] w fun e w' => e = .returned (.tuple #[]) ∧ St M0 w' (dsR g { D with fuse := n } :: L) := by
  obtain ⟨F, hd, _, hk⟩ := h.ds
  refine (fuse_any g n D F w hd).mono ?_
  rintro e w' ⟨he, hf, hd'⟩
  exact ⟨he, hk _ _ _ hf hd' (fun b hb => .inl hb)⟩
theorem pending_ds (h : St M0 w (dsR g D :: L)) : Calls Try.prog 29 #[.pointer (some ⟨g, 0, none⟩)] w fun e w' => e = .returned (.int .i64 D.pend.length) ∧ St M0 w' (dsR g D :: L) := by
  obtain ⟨F, hd, _, _⟩ := h.ds
  refine (pending_any g D F w hd).mono ?_
  rintro e w' ⟨he, rfl⟩
  exact ⟨he, h⟩
theorem down_ds (h : St M0 w (dsR g D :: L)) : Calls Try.prog 34 #[.pointer (some ⟨g, 0, none⟩)] w fun e w' => e = .returned (.bool D.down) ∧ St M0 w' (dsR g D :: L) := by
  obtain ⟨F, hd, _, _⟩ := h.ds
  refine (down_any g D F w hd).mono ?_
  rintro e w' ⟨he, rfl⟩
  exact ⟨he, h⟩
theorem len_ds (h : St M0 w (dsR g D :: L)) : Calls Try.prog 53 #[.pointer (some ⟨g, 0, none⟩)] w fun e w' => e = .returned (.int .i64 D.n) ∧ St M0 w' (dsR g D :: L) := by
  obtain ⟨F, hd, _, _⟩ := h.ds
  refine (len_any g D F w hd).mono ?_
  rintro e w' ⟨he, rfl⟩
  exact ⟨he, h⟩
theorem new_ds (n : Int) (h1 : 1 ≤ n) (h2 : n ≤ 512) (h : St M0 w L) :
    Calls Try.prog 32 #[.int .i64 n] w fun e w' => ∃ g, e = .returned (.tuple #[.pointer (some ⟨g, 0, none⟩), .int .i64 0]) ∧ St M0 w' (dsR g (DS.new n.toNat) :: L) := by
  refine (new_any n w h1 h2).mono ?_
  rintro e w' ⟨g, he, _, hd, hf⟩
  exact ⟨g, he, h.add (Y := dsR g (DS.new n.toNat)) hf (fun _ _ => hd) (fun b hb => hb.elim (fun x => x.elim) (fun x => x.1))⟩
theorem copy_ds (ho : D.ok) (hp : D.pend.length < 1000000) (h : St M0 w (dsR g D :: L)) :
    Calls Try.prog 31 #[.pointer (some ⟨g, 0, none⟩)] w fun e w' => ∃ g', e = .returned (.pointer (some ⟨g', 0, none⟩)) ∧ St M0 w' (dsR g' D :: dsR g D :: L) := by
  obtain ⟨F, hd, _, _⟩ := h.ds
  refine (copy_any g D F w ho hp hd).mono ?_
  rintro e w' ⟨g', he, _, hd', hf⟩
  exact ⟨g', he, h.add (Y := dsR g' D) hf (fun _ _ => hd') (fun b hb => hb.elim (fun x => x.elim) (fun x => x.1))⟩
/-- new numbers that nobody else has -/
theorem St.newNums {k : IntKind} {v : Value} {xs : List Int} {w' : World} (h : St M0 w L) (hf : Fr Non w w') (hn : Nums w' (fun b => w.heap.size ≤ b) k v xs) : St M0 w' (persR (fun w'' => Nums w'' Any k v xs) :: L) := by
  obtain ⟨A, c, rfl, hl, hs⟩ := hn
  by_cases h0 : 0 < xs.length
  · obtain ⟨ad, rfl, hq, hb, hc⟩ := hs.2 h0
    obtain ⟨o, ho⟩ : ∃ o, w'.heap[ad.block]? = some o := ⟨_, Array.getElem?_eq_getElem hb⟩
    let X : Res := ⟨fun _ w F => (∀ b, F b ↔ b = ad.block) ∧ w.heap[ad.block]? = some o, fun h hb => by rw [(h.1 _).1 hb]; exact (Array.getElem?_eq_some_iff.1 h.2).1, fun h _ _ hb => ⟨h.1, (hb _ ((h.1 _).2 rfl)).trans h.2⟩⟩
    have h1 : St M0 w' (X :: L) := h.add (F' := (· = ad.block)) hf (fun _ _ => ⟨fun _ => Iff.rfl, ho⟩) (fun b hb => by rw [hb]; exact hq)
    refine h1.freeze (fun M w'' F hx _ => ?_)
    refine ⟨some ad, c, rfl, hl, hs.1, fun _ => ⟨ad, rfl, trivial, (Array.getElem?_eq_some_iff.1 hx.2).1, fun j u hu => ?_⟩⟩
    rw [← hc j u hu]
    exact World.cell?_of_block (w := w') (by rw [addr_block, hx.2, ho])
  · have : xs = [] := List.eq_nil_of_length_eq_zero (by omega)
    subst this
    exact (h.grow hf).pers0 (fun w'' _ => ⟨A, c, rfl, by simp, Sl.nil_ _ _ _ _⟩)
theorem read_ds (i : Int) (ho : D.ok) (h : St M0 w (dsR g D :: L)) :
    Calls Try.prog 47 #[.pointer (some ⟨g, 0, none⟩), .int .i64 i] w fun e w' => ∃ v, e = .returned (.tuple #[v, .int .i64 (D.readE i)]) ∧ St M0 w' (persR (fun w'' => Nums w'' Any .u8 v (D.read i)) :: dsR g D :: L) := by
  obtain ⟨F, hd, _, _⟩ := h.ds
  refine (read_any g i D F w ho hd).mono ?_
  rintro e w' ⟨A, c, he, _, hl, hs, hf⟩
  exact ⟨_, he, h.newNums hf ⟨A, c, rfl, by omega, hs⟩⟩
theorem all_ds (ho : D.ok) (h8 : D.n = 8) (h : St M0 w (dsR g D :: L)) :
    Calls Try.prog 26 #[.pointer (some ⟨g, 0, none⟩)] w fun e w' => ∃ v, e = .returned v ∧ St M0 w' (persR (fun w'' => Nums w'' Any .u8 v D.seen) :: dsR g D :: L) := by
  obtain ⟨F, hd, _, _⟩ := h.ds
  refine (all_has (O := fun _ => False) ho h8 ⟨F, hd, fun _ _ x => x, fun _ x => x.elim⟩).mono ?_
  rintro e w' ⟨v, he, hn, _, hf⟩
  exact ⟨v, he, h.newNums hf hn⟩
theorem awake_ds (h : St M0 w L) : Calls Try.prog 23 #[] w fun e w' => e = .returned (.bool true) ∧ St M0 w' L := by
  refine (awake_any w).mono ?_
  rintro e w' ⟨he, hf⟩
  exact ⟨he, h.grow hf⟩
end

end Go.Proofs.Ythddgnnbgldfmaa
