/- The program's image: what it holds. -/
import Derived.Test.YtdhkklcjhbnnlaaImgN
import Derived.Test.YtdhkklcjhbnnlaaImgD
namespace Go.Proofs.Ytdhkklcjhbnnlaa
open Go.RowKit

/-- the slices of a region: its blocks, its log, what the log's elements are -/
structure RV where
  b : Nat → Value
  log : Value
  cs : Nat → List Value
def rgC (x : Rg) (p : RV) : List Value := [.int .u64 x.high, .int .u32 x.seq, p.b 0, p.b 1, p.b 2, p.b 3, p.log]
def imgC (m : Nat → Rg) (vs : Nat → RV) : Array Value := (rgC (m 0) (vs 0) ++ (rgC (m 1) (vs 1) ++ (rgC (m 2) (vs 2) ++ rgC (m 3) (vs 3)))).toArray
theorem below4 {k : Nat} (h : k < 4) : k = 0 ∨ k = 1 ∨ k = 2 ∨ k = 3 := by omega
theorem below7 {k : Nat} (h : k < 7) : k = 0 ∨ k = 1 ∨ k = 2 ∨ k = 3 ∨ k = 4 ∨ k = 5 ∨ k = 6 := by omega
theorem imgC_at (m : Nat → Rg) (vs : Nat → RV) {k j : Nat} (hk : k < 4) (hj : j < 7) : (imgC m vs)[k * 7 + j]? = (rgC (m k) (vs k))[j]? := by
  rcases below4 hk with rfl | rfl | rfl | rfl <;> rcases below7 hj with rfl | rfl | rfl | rfl | rfl | rfl | rfl <;> rfl
theorem imgC_set (m : Nat → Rg) (vs : Nat → RV) {k j : Nat} (hk : k < 4) (hj : j < 7) {x : Rg} {p : RV} {u : Value} (h : rgC x p = (rgC (m k) (vs k)).set j u) :
    (imgC m vs).setIfInBounds (k * 7 + j) u = imgC (upd m k x) (upd vs k p) := by
  have e : ∀ i, i ≠ k → rgC (upd m k x i) (upd vs k p i) = rgC (m i) (vs i) := fun i hi => by rw [upd_ne _ _ _ _ hi, upd_ne _ _ _ _ hi]
  have e2 : rgC (upd m k x k) (upd vs k p k) = (rgC (m k) (vs k)).set j u := by rw [upd_at, upd_at, h]
  unfold imgC
  rcases below4 hk with rfl | rfl | rfl | rfl
  · rw [e2, e 1 (by omega), e 2 (by omega), e 3 (by omega)]
    rcases below7 hj with rfl | rfl | rfl | rfl | rfl | rfl | rfl <;> rfl
  · rw [e2, e 0 (by omega), e 2 (by omega), e 3 (by omega)]
    rcases below7 hj with rfl | rfl | rfl | rfl | rfl | rfl | rfl <;> rfl
  · rw [e2, e 0 (by omega), e 1 (by omega), e 3 (by omega)]
    rcases below7 hj with rfl | rfl | rfl | rfl | rfl | rfl | rfl <;> rfl
  · rw [e2, e 0 (by omega), e 1 (by omega), e 2 (by omega)]
    rcases below7 hj with rfl | rfl | rfl | rfl | rfl | rfl | rfl <;> rfl

def LogR (w : World) (cs : List Value) (b : List Int) : Prop := ∃ v, cs = [v] ∧ Ints w .u8 v b
structure RegR (w : World) (p : RV) (x : Rg) : Prop where
  b : ∀ j, j < 4 → Ints w .u8 (p.b j) (x.b j)
  log : RowsC w 1 LogR p.log p.cs x.log
abbrev regsR (vs : Nat → RV) (m : Nat → Rg) : Res := persR (fun w => ∀ k, k < 4 → RegR w (vs k) (m k))
abbrev imgB (g : Nat) (vs : Nat → RV) (m : Nat → Rg) : Res := blkR g 65 (imgC m vs)
def imgR (g : Nat) (m : Nat → Rg) : Res := exR fun vs : Nat → RV => starR (imgB g vs m) (regsR vs m)
section
variable {M0 : Imm} {w : World} {L : List Res} {g : Nat} {m : Nat → Rg}
theorem St.img (h : St M0 w (imgR g m :: L)) : ∃ vs, St M0 w (imgB g vs m :: regsR vs m :: L) := by
  obtain ⟨vs, h⟩ := h.ex
  exact ⟨vs, h.star⟩
theorem St.addImg {vs : Nat → RV} (h : St M0 w (imgB g vs m :: regsR vs m :: L)) : St M0 w (imgR g m :: L) :=
  St.addEx (f := fun vs : Nat → RV => starR (imgB g vs m) (regsR vs m)) vs h.addStar
theorem upd_reg {w : World} {vs : Nat → RV} {k : Nat} {x : Rg} {p : RV} (h : ∀ i, i < 4 → RegR w (vs i) (m i)) (hx : RegR w p x) : ∀ i, i < 4 → RegR w (upd vs k p i) (upd m k x i) := by
  intro i hi
  by_cases he : i = k
  · subst he
    rw [upd_at, upd_at]
    exact hx
  · rw [upd_ne _ _ _ _ he, upd_ne _ _ _ _ he]
    exact h i hi
/-- a store into a region's cell -/
theorem St.setImg {vs : Nat → RV} {R : World → Prop} {k j : Nat} {x : Rg} {p : RV} {u : Value} (h : St M0 w (imgB g vs m :: regsR vs m :: persR R :: L)) (hk : k < 4) (hj : j < 7)
    (hu : rgC x p = (rgC (m k) (vs k)).set j u) (hx : ∀ w', RegR w' (vs k) (m k) → R w' → RegR w' p x) : St M0 (w.setCell ⟨g, k * 7 + j, none⟩ u) (imgR g (upd m k x) :: L) := by
  have h1 := h.set_ (k * 7 + j) u
  rw [imgC_set m vs hk hj hu] at h1
  refine St.addImg (vs := upd vs k p) ?_
  have h2 := (h1.swap.dn2.swap.swap)
  exact (h1.swap.up2.swap.pers2 (fun w' h3 h4 => upd_reg h3 (hx w' (h3 k hk) h4))).swap
theorem img_there {vs : Nat → RV} (h : Blk w g 65 (imgC m vs)) {k j : Nat} (hk : k < 4) (hj : j < 7) : (∃ u, w.cell? ⟨g, k * 7 + j, none⟩ = some u) ∧ w.frozen? ⟨g, k * 7 + j, none⟩ = false := by
  refine ⟨⟨(rgC (m k) (vs k))[j]'hj, ?_⟩, h.frozen _⟩
  rw [h.cell, imgC_at m vs hk hj]
  exact List.getElem?_eq_getElem _
/-- a region's cells -/
theorem img_cell {vs : Nat → RV} (h : Blk w g 65 (imgC m vs)) {k j : Nat} (hk : k < 4) (hj : j < 7) {u : Value} (hu : (rgC (m k) (vs k))[j]? = some u) : w.cell? ⟨g, k * 7 + j, none⟩ = some u :=
  ((h.cell (k * 7 + j)).trans (imgC_at m vs hk hj)).trans hu
end

end Go.Proofs.Ytdhkklcjhbnnlaa
