/- Locks: the table in memory. -/
import Derived.Test.YtbgknfdaaffeaaaLkB
namespace Go.Proofs.Ytbgknfdaaffeaaa
open Go.RowKit Go.Shelf

structure SlV where
  a : Option Addr
  n : Nat
  c : Nat
structure RegV where
  h : SlV
  w : SlV
/-- many, apart -/
def bigR : List Res → Res
  | [] => pureR True
  | X :: r => starR X (bigR r)
section
variable {M0 : Imm} {w : World}
theorem St.big : ∀ {Ls L : List Res}, St M0 w (bigR Ls :: L) → St M0 w (Ls ++ L)
  | [], _, h => h.pure_.2
  | X :: r, L, h => by
    have h1 := h.star
    have h2 : St M0 w (bigR r :: X :: L) := h1.swap
    have h3 : St M0 w (r ++ X :: L) := h2.big
    exact h3.perm (List.perm_middle)
theorem St.toBig : ∀ {Ls L : List Res}, St M0 w (Ls ++ L) → St M0 w (bigR Ls :: L)
  | [], _, h => h.addP trivial
  | X :: r, L, h => by
    have h2 : St M0 w (r ++ X :: L) := h.perm List.perm_middle.symm
    have h3 : St M0 w (bigR r :: X :: L) := h2.toBig
    exact h3.swap.addStar
end
abbrev tabC (now last : Int) (vs : Nat → RegV) : Array Value := #[.int .u64 now, .int .u64 last,
  .slice (vs 0).h.a (vs 0).h.n (vs 0).h.c, .slice (vs 0).w.a (vs 0).w.n (vs 0).w.c, .slice (vs 1).h.a (vs 1).h.n (vs 1).h.c, .slice (vs 1).w.a (vs 1).w.n (vs 1).w.c,
  .slice (vs 2).h.a (vs 2).h.n (vs 2).h.c, .slice (vs 2).w.a (vs 2).w.n (vs 2).w.c, .slice (vs 3).h.a (vs 3).h.n (vs 3).h.c, .slice (vs 3).w.a (vs 3).w.n (vs 3).w.c]
theorem lt4T {k : Nat} (h : k < 4) : k = 0 ∨ k = 1 ∨ k = 2 ∨ k = 3 := by omega
theorem tabC_h (now last : Int) (vs : Nat → RegV) {i : Nat} (hi : i < 4) : (tabC now last vs)[2 + i * 2]? = some (.slice (vs i).h.a (vs i).h.n (vs i).h.c) := by
  rcases lt4T hi with rfl | rfl | rfl | rfl <;> rfl
theorem tabC_w (now last : Int) (vs : Nat → RegV) {i : Nat} (hi : i < 4) : (tabC now last vs)[2 + i * 2 + 1]? = some (.slice (vs i).w.a (vs i).w.n (vs i).w.c) := by
  rcases lt4T hi with rfl | rfl | rfl | rfl <;> rfl
theorem tabC_seth (now last : Int) (vs : Nat → RegV) {i : Nat} (hi : i < 4) (u : SlV) : (tabC now last vs).setIfInBounds (2 + i * 2) (.slice u.a u.n u.c) = tabC now last (upd vs i ⟨u, (vs i).w⟩) := by
  rcases lt4T hi with rfl | rfl | rfl | rfl <;> rfl
theorem tabC_setw (now last : Int) (vs : Nat → RegV) {i : Nat} (hi : i < 4) (u : SlV) : (tabC now last vs).setIfInBounds (2 + i * 2 + 1) (.slice u.a u.n u.c) = tabC now last (upd vs i ⟨(vs i).h, u⟩) := by
  rcases lt4T hi with rfl | rfl | rfl | rfl <;> rfl
abbrev holdsR (v : SlV) (hs : List HoldM) : Res := ownR holdC 91 4 (.slice v.a v.n v.c) hs
abbrev wantsR (v : SlV) (ws : List WantM) : Res := keepR wantC 2 (.slice v.a v.n v.c) ws
def regT (vs : Nat → RegV) (r : Nat → RegM) (j : Nat) : Res := starR (holdsR (vs j).h (r j).h) (wantsR (vs j).w (r j).w)
def oneT (vs : Nat → RegV) (r : Nat → RegM) (i j : Nat) : Res := if j = i then pureR True else regT vs r j
def othT (vs : Nat → RegV) (r : Nat → RegM) (i : Nat) : Res := bigR [oneT vs r i 0, oneT vs r i 1, oneT vs r i 2, oneT vs r i 3]
abbrev tabB (g : Nat) (now last : Int) (vs : Nat → RegV) : Res := blkR g 79 (tabC now last vs)
def tabR (g : Nat) (T : TabM) : Res := exR fun vs => starR (tabB g T.now T.last vs) (bigR [regT vs T.r 0, regT vs T.r 1, regT vs T.r 2, regT vs T.r 3])
theorem updT_same {α : Type} (f : Nat → α) (i : Nat) (x : α) : upd f i x i = x := if_pos rfl
theorem updT_ne {α : Type} (f : Nat → α) {i j : Nat} (x : α) (h : j ≠ i) : upd f i x j = f j := if_neg h
theorem updT_upd {α : Type} (f : Nat → α) (i : Nat) (x y : α) : upd (upd f i x) i y = upd f i y := by
  funext j
  unfold upd
  split <;> rfl
theorem othT_congr {vs vs' : Nat → RegV} {r r' : Nat → RegM} {i : Nat} (h1 : ∀ j, j ≠ i → vs j = vs' j) (h2 : ∀ j, j ≠ i → r j = r' j) : othT vs r i = othT vs' r' i := by
  have : ∀ j, oneT vs r i j = oneT vs' r' i j := fun j => by
    unfold oneT
    split
    · rfl
    · rename_i hj
      unfold regT
      rw [h1 j hj, h2 j hj]
  unfold othT
  rw [this, this, this, this]
section
variable {M0 : Imm} {w : World} {L : List Res} {g : Nat}
theorem St.tabRaw {T : TabM} (h : St M0 w (tabR g T :: L)) : ∃ vs, St M0 w (tabB g T.now T.last vs :: regT vs T.r 0 :: regT vs T.r 1 :: regT vs T.r 2 :: regT vs T.r 3 :: L) := by
  obtain ⟨vs, h1⟩ := h.ex
  have h2 := h1.star.swap.big
  exact ⟨vs, h2.perm (List.perm_middle (l₁ := [regT vs T.r 0, regT vs T.r 1, regT vs T.r 2, regT vs T.r 3]))⟩
theorem St.toTab {T : TabM} {vs : Nat → RegV} (h : St M0 w (tabB g T.now T.last vs :: regT vs T.r 0 :: regT vs T.r 1 :: regT vs T.r 2 :: regT vs T.r 3 :: L)) : St M0 w (tabR g T :: L) := by
  have h2 : St M0 w ([regT vs T.r 0, regT vs T.r 1, regT vs T.r 2, regT vs T.r 3] ++ tabB g T.now T.last vs :: L) := h.perm (List.perm_middle (l₁ := [regT vs T.r 0, regT vs T.r 1, regT vs T.r 2, regT vs T.r 3])).symm
  exact St.addEx (f := fun vs => starR (tabB g T.now T.last vs) (bigR [regT vs T.r 0, regT vs T.r 1, regT vs T.r 2, regT vs T.r 3])) vs h2.toBig.swap.addStar
/-- one region's parts -/
theorem St.tabO {T : TabM} {i : Nat} (hi : i < 4) (h : St M0 w (tabR g T :: L)) : ∃ vs, St M0 w (tabB g T.now T.last vs :: holdsR (vs i).h (T.r i).h :: wantsR (vs i).w (T.r i).w :: othT vs T.r i :: L) := by
  obtain ⟨vs, h1⟩ := h.tabRaw
  refine ⟨vs, ?_⟩
  have key : ∀ {X0 X1 X2 X3 : Res}, St M0 w (X0 :: X1 :: X2 :: X3 :: holdsR (vs i).h (T.r i).h :: wantsR (vs i).w (T.r i).w :: tabB g T.now T.last vs :: L) → oneT vs T.r i 0 = X0 → oneT vs T.r i 1 = X1 → oneT vs T.r i 2 = X2 → oneT vs T.r i 3 = X3 → St M0 w (tabB g T.now T.last vs :: holdsR (vs i).h (T.r i).h :: wantsR (vs i).w (T.r i).w :: othT vs T.r i :: L) := by
    intro X0 X1 X2 X3 h e0 e1 e2 e3
    have h2 : St M0 w ([X0, X1, X2, X3] ++ (holdsR (vs i).h (T.r i).h :: wantsR (vs i).w (T.r i).w :: tabB g T.now T.last vs :: L)) := h
    have h3 := h2.toBig
    unfold othT
    rw [e0, e1, e2, e3]
    exact h3.sub (by (repeat (first | with_reducible exact Sub.refl _ | (with_reducible apply Sub.take; focus (repeat (first | with_reducible exact At.here | with_reducible apply At.there))) | with_reducible apply Sub.drop)))
  rcases lt4T hi with rfl | rfl | rfl | rfl
  · exact key ((((h1.front (X := regT vs T.r 0) (by (repeat (first | with_reducible exact At.here | with_reducible apply At.there)))).star).addP (p := True) trivial).sub (L' := pureR True :: regT vs T.r 1 :: regT vs T.r 2 :: regT vs T.r 3 :: _) (by (repeat (first | with_reducible exact Sub.refl _ | (with_reducible apply Sub.take; focus (repeat (first | with_reducible exact At.here | with_reducible apply At.there))) | with_reducible apply Sub.drop)))) (if_pos rfl) (if_neg (by omega)) (if_neg (by omega)) (if_neg (by omega))
  · exact key ((((h1.front (X := regT vs T.r 1) (by (repeat (first | with_reducible exact At.here | with_reducible apply At.there)))).star).addP (p := True) trivial).sub (L' := regT vs T.r 0 :: pureR True :: regT vs T.r 2 :: regT vs T.r 3 :: _) (by (repeat (first | with_reducible exact Sub.refl _ | (with_reducible apply Sub.take; focus (repeat (first | with_reducible exact At.here | with_reducible apply At.there))) | with_reducible apply Sub.drop)))) (if_neg (by omega)) (if_pos rfl) (if_neg (by omega)) (if_neg (by omega))
  · exact key ((((h1.front (X := regT vs T.r 2) (by (repeat (first | with_reducible exact At.here | with_reducible apply At.there)))).star).addP (p := True) trivial).sub (L' := regT vs T.r 0 :: regT vs T.r 1 :: pureR True :: regT vs T.r 3 :: _) (by (repeat (first | with_reducible exact Sub.refl _ | (with_reducible apply Sub.take; focus (repeat (first | with_reducible exact At.here | with_reducible apply At.there))) | with_reducible apply Sub.drop)))) (if_neg (by omega)) (if_neg (by omega)) (if_pos rfl) (if_neg (by omega))
  · exact key ((((h1.front (X := regT vs T.r 3) (by (repeat (first | with_reducible exact At.here | with_reducible apply At.there)))).star).addP (p := True) trivial).sub (L' := regT vs T.r 0 :: regT vs T.r 1 :: regT vs T.r 2 :: pureR True :: _) (by (repeat (first | with_reducible exact Sub.refl _ | (with_reducible apply Sub.take; focus (repeat (first | with_reducible exact At.here | with_reducible apply At.there))) | with_reducible apply Sub.drop)))) (if_neg (by omega)) (if_neg (by omega)) (if_neg (by omega)) (if_pos rfl)
/-- the table out of one region's parts -/
theorem St.tabC_ {now last : Int} {r : Nat → RegM} {vs : Nat → RegV} {i : Nat} {hs : List HoldM} {ws : List WantM} (hi : i < 4) (h : St M0 w (tabB g now last vs :: holdsR (vs i).h hs :: wantsR (vs i).w ws :: othT vs r i :: L)) : St M0 w (tabR g ⟨now, last, upd r i ⟨hs, ws⟩⟩ :: L) := by
  obtain ⟨X0, X1, X2, X3, e0, e1, e2, e3, h2⟩ : ∃ X0 X1 X2 X3, oneT vs r i 0 = X0 ∧ oneT vs r i 1 = X1 ∧ oneT vs r i 2 = X2 ∧ oneT vs r i 3 = X3 ∧ St M0 w (X0 :: X1 :: X2 :: X3 :: tabB g now last vs :: holdsR (vs i).h hs :: wantsR (vs i).w ws :: L) := by
    refine ⟨_, _, _, _, rfl, rfl, rfl, rfl, ?_⟩
    have h2 := (h.front (X := othT vs r i) (by (repeat (first | with_reducible exact At.here | with_reducible apply At.there)))).big
    exact h2
  have hr : ∀ j, j ≠ i → regT vs (upd r i ⟨hs, ws⟩) j = regT vs r j := fun j hj => by
    unfold regT
    rw [updT_ne _ _ hj]
  have hri : regT vs (upd r i ⟨hs, ws⟩) i = starR (holdsR (vs i).h hs) (wantsR (vs i).w ws) := by
    unfold regT
    rw [updT_same]
  refine St.toTab (T := ⟨now, last, upd r i ⟨hs, ws⟩⟩) (vs := vs) ?_
  show St M0 w (tabB g now last vs :: regT vs (upd r i ⟨hs, ws⟩) 0 :: regT vs (upd r i ⟨hs, ws⟩) 1 :: regT vs (upd r i ⟨hs, ws⟩) 2 :: regT vs (upd r i ⟨hs, ws⟩) 3 :: L)
  have h3 := (h2.sub (L' := holdsR (vs i).h hs :: wantsR (vs i).w ws :: X0 :: X1 :: X2 :: X3 :: tabB g now last vs :: L) (by (repeat (first | with_reducible exact Sub.refl _ | (with_reducible apply Sub.take; focus (repeat (first | with_reducible exact At.here | with_reducible apply At.there))) | with_reducible apply Sub.drop)))).addStar
  rw [← hri] at h3
  rcases lt4T hi with rfl | rfl | rfl | rfl
  · have f1 : X1 = regT vs r 1 := e1.symm.trans (if_neg (by omega))
    have f2 : X2 = regT vs r 2 := e2.symm.trans (if_neg (by omega))
    have f3 : X3 = regT vs r 3 := e3.symm.trans (if_neg (by omega))
    subst f1; subst f2; subst f3
    rw [hr 1 (by omega), hr 2 (by omega), hr 3 (by omega)]
    exact h3.sub (by (repeat (first | with_reducible exact Sub.refl _ | (with_reducible apply Sub.take; focus (repeat (first | with_reducible exact At.here | with_reducible apply At.there))) | with_reducible apply Sub.drop)))
  · have f0 : X0 = regT vs r 0 := e0.symm.trans (if_neg (by omega))
    have f2 : X2 = regT vs r 2 := e2.symm.trans (if_neg (by omega))
    have f3 : X3 = regT vs r 3 := e3.symm.trans (if_neg (by omega))
    subst f0; subst f2; subst f3
    rw [hr 0 (by omega), hr 2 (by omega), hr 3 (by omega)]
    exact h3.sub (by (repeat (first | with_reducible exact Sub.refl _ | (with_reducible apply Sub.take; focus (repeat (first | with_reducible exact At.here | with_reducible apply At.there))) | with_reducible apply Sub.drop)))
  · have f0 : X0 = regT vs r 0 := e0.symm.trans (if_neg (by omega))
    have f1 : X1 = regT vs r 1 := e1.symm.trans (if_neg (by omega))
    have f3 : X3 = regT vs r 3 := e3.symm.trans (if_neg (by omega))
    subst f0; subst f1; subst f3
    rw [hr 0 (by omega), hr 1 (by omega), hr 3 (by omega)]
    exact h3.sub (by (repeat (first | with_reducible exact Sub.refl _ | (with_reducible apply Sub.take; focus (repeat (first | with_reducible exact At.here | with_reducible apply At.there))) | with_reducible apply Sub.drop)))
  · have f0 : X0 = regT vs r 0 := e0.symm.trans (if_neg (by omega))
    have f1 : X1 = regT vs r 1 := e1.symm.trans (if_neg (by omega))
    have f2 : X2 = regT vs r 2 := e2.symm.trans (if_neg (by omega))
    subst f0; subst f1; subst f2
    rw [hr 0 (by omega), hr 1 (by omega), hr 2 (by omega)]
    exact h3.sub (by (repeat (first | with_reducible exact Sub.refl _ | (with_reducible apply Sub.take; focus (repeat (first | with_reducible exact At.here | with_reducible apply At.there))) | with_reducible apply Sub.drop)))
end
end Go.Proofs.Ytbgknfdaaffeaaa
