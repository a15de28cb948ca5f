/- Of some resources others, in whatever order; and one among them. -/
import Derived.Test.YtbgknfdaaffeaaaSt
namespace Go.Proofs.Ytbgknfdaaffeaaa
open Go.RowKit

/-- one among some, and the others -/
inductive At (X : Res) : List Res → List Res → Prop
  | here {L : List Res} : At X (X :: L) L
  | there {Y : Res} {L R : List Res} : At X L R → At X (Y :: L) (Y :: R)
/-- some among others, in another order; what is left over is let go -/
inductive Sub : List Res → List Res → Prop
  | refl (L : List Res) : Sub L L
  | drop {X : Res} {L L' : List Res} : Sub L L' → Sub (X :: L) L'
  | take {X : Res} {L R L' : List Res} : At X L R → Sub R L' → Sub L (X :: L')
theorem At.idx {X : Res} {L R : List Res} (h : At X L R) : ∃ m : Nat, L[m]? = some X := by
  induction h with
  | here => exact ⟨0, rfl⟩
  | there _ ih => obtain ⟨m, hm⟩ := ih; exact ⟨m + 1, hm⟩
theorem St.under {M0 : Imm} {_X : Res} {L L' : List Res} (hk : ∀ w, St M0 w L → St M0 w L') {w : World} (h : St M0 w L) : St M0 w L' := hk w h
/-- the list in another order -/
theorem St.perm {M0 : Imm} {w : World} {L L' : List Res} (h : St M0 w L) (hp : L.Perm L') : St M0 w L' := by
  obtain ⟨is, hd, hm⟩ : ∃ is : List Nat, is.Nodup ∧ is.map (L[·]?) = L'.map some := by
    suffices ∀ {A B : List Res}, A.Perm B → ∃ is : List Nat, is.Nodup ∧ is.length = A.length ∧ (∀ i ∈ is, i < A.length) ∧ is.map (A[·]?) = B.map some by
      obtain ⟨is, h1, _, _, h2⟩ := this hp
      exact ⟨is, h1, h2⟩
    intro A B hp
    induction hp with
    | nil => exact ⟨[], by simp, rfl, by simp, rfl⟩
    | cons x _ ih =>
      obtain ⟨is, h1, h2, h3, h4⟩ := ih
      refine ⟨0 :: is.map (· + 1), ?_, by simp [h2], ?_, ?_⟩
      · rw [List.nodup_cons]
        exact ⟨by simp, List.Pairwise.map _ (fun a b hab e => hab (by omega)) h1⟩
      · intro i hi
        rcases List.mem_cons.1 hi with rfl | hi
        · simp
        · obtain ⟨j, hj, rfl⟩ := List.mem_map.1 hi
          have := h3 j hj
          simp; omega
      · rw [List.map_cons, List.map_map, List.map_cons, ← h4]
        rfl
    | swap x y l =>
      refine ⟨1 :: 0 :: (List.range l.length).map (· + 2), ?_, by simp, ?_, ?_⟩
      · rw [List.nodup_cons, List.nodup_cons]
        refine ⟨?_, ?_, List.Pairwise.map _ (fun a b hab e => hab (by omega)) List.nodup_range⟩
        · simp
        · simp
      · intro i hi
        simp only [List.mem_cons, List.mem_map, List.mem_range] at hi
        rcases hi with rfl | rfl | ⟨j, hj, rfl⟩
        · simp
        · simp
        · simp; omega
      · rw [List.map_cons, List.map_cons, List.map_map, List.map_cons, List.map_cons]
        congr 2
        apply List.ext_getElem?
        intro i
        by_cases hi : i < l.length
        · simp [List.getElem?_range hi, List.getElem?_eq_getElem hi]
        · rw [List.getElem?_eq_none (by simp; omega), List.getElem?_eq_none (by simp; omega)]
    | trans h1 h2 ih1 ih2 =>
      obtain ⟨is, a1, a2, a3, a4⟩ := ih1
      obtain ⟨js, b1, b2, b3, b4⟩ := ih2
      have hl1 := h1.length_eq
      refine ⟨js.map (fun j => is.getD j 0), ?_, by simp; omega, ?_, ?_⟩
      · refine List.Pairwise.map (R := fun a b => a ≠ b ∧ a < is.length ∧ b < is.length) _ (fun a b hab e => ?_) ?_
        · rw [List.getD_eq_getElem?_getD, List.getD_eq_getElem?_getD, List.getElem?_eq_getElem hab.2.1, List.getElem?_eq_getElem hab.2.2, Option.getD_some, Option.getD_some] at e
          exact (Nat.lt_or_gt_of_ne hab.1).elim (fun h1 => List.pairwise_iff_getElem.1 a1 a b hab.2.1 hab.2.2 h1 e) (fun h1 => List.pairwise_iff_getElem.1 a1 b a hab.2.2 hab.2.1 h1 e.symm)
        · exact List.Pairwise.imp_of_mem (fun ha hb hab => ⟨hab, by have := b3 _ ha; omega, by have := b3 _ hb; omega⟩) b1
      · intro i hi
        obtain ⟨j, hj, rfl⟩ := List.mem_map.1 hi
        have := b3 j hj
        rw [List.getD_eq_getElem?_getD, List.getElem?_eq_getElem (show j < is.length by omega), Option.getD_some]
        exact a3 _ (List.getElem_mem _)
      · rw [List.map_map, ← b4]
        apply List.map_congr_left
        intro j hj
        have hjl := b3 j hj
        have := congrArg (·[j]?) a4
        simp only [List.getElem?_map] at this
        rw [List.getElem?_eq_getElem (show j < is.length by omega), List.getElem?_eq_getElem hjl] at this
        simp only [Option.map_some, Option.some.injEq] at this
        show _[_]? = _
        simp only
        rw [List.getD_eq_getElem?_getD, List.getElem?_eq_getElem (show j < is.length by omega), Option.getD_some, this, List.getElem?_eq_getElem hjl]
  exact h.pickAll is hd hm
theorem At.perm {X : Res} {L R : List Res} (h : At X L R) : L.Perm (X :: R) := by
  induction h with
  | here => exact List.Perm.refl _
  | there _ ih => exact (ih.cons _).trans (List.Perm.swap _ _ _)
theorem Sub.st {L L' : List Res} (h : Sub L L') : ∃ L1, L.Perm (L' ++ L1) := by
  induction h with
  | refl L => exact ⟨[], by simp⟩
  | @drop X L L' _ ih =>
    obtain ⟨L1, h1⟩ := ih
    exact ⟨X :: L1, (h1.cons X).trans List.perm_middle.symm⟩
  | take ha _ ih =>
    obtain ⟨L1, h1⟩ := ih
    exact ⟨L1, ha.perm.trans (h1.cons _)⟩
theorem St.sub {M0 : Imm} {w : World} {L L' : List Res} (h : St M0 w L) (hs : Sub L L') : St M0 w L' := by
  obtain ⟨L1, hp⟩ := hs.st
  have h1 := h.perm hp
  refine h1.pickAll (List.range L'.length) List.nodup_range ?_
  apply List.ext_getElem?
  intro i
  by_cases hi : i < L'.length
  · rw [List.getElem?_map, List.getElem?_range hi, List.getElem?_map, List.getElem?_eq_getElem hi, Option.map_some, Option.map_some, List.getElem?_append_left hi, List.getElem?_eq_getElem hi]
  · rw [List.getElem?_eq_none (by simp; omega), List.getElem?_eq_none (by simp; omega)]
section
variable {M0 : Imm} {w : World} {L R : List Res}
theorem St.blkA {g : Nat} {t : TypeId} {cs : Array Value} (h : St M0 w L) (hi : At (blkR g t cs) L R) : Blk w g t cs := by
  obtain ⟨m, hm⟩ := hi.idx
  exact h.blk m hm
theorem St.getA {Q : World → Prop} (h : St M0 w L) (hi : At (persR Q) L R) : Q w := by
  obtain ⟨m, hm⟩ := hi.idx
  exact h.get m hm
theorem St.copyA {Q : World → Prop} (h : St M0 w L) (hi : At (persR Q) L R) : St M0 w (persR Q :: L) := by
  obtain ⟨m, hm⟩ := hi.idx
  exact h.copy m hm
/-- a cell of a block is written: the cells behind it are given -/
theorem St.put_ {g : Nat} {t : TypeId} {cs : Array Value} (h : St M0 w (blkR g t cs :: L)) (i : Nat) (u : Value) (cs' : Array Value) (e : cs.setIfInBounds i u = cs' := by rfl) : St M0 (w.setCell ⟨g, i, none⟩ u) (blkR g t cs' :: L) := e ▸ h.set_ i u
/-- one to the front -/
theorem St.front {X : Res} (h : St M0 w L) (hi : At X L R) : St M0 w (X :: R) := h.perm hi.perm
end
end Go.Proofs.Ytbgknfdaaffeaaa
