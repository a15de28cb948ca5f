/- Unpack: what its walk needs. -/
import Derived.Test.YtdhkklcjhbnnlaaUnpB
import Derived.Test.YtdhkklcjhbnnlaaMixT
import Derived.Test.YtdhkklcjhbnnlaaImgO
namespace Go.Proofs.Ytdhkklcjhbnnlaa
open Go.RowKit

section
variable {P : Program} {l : List Oper} {Q : Exit → Act → World → Prop} {S : World → Prop} {L : Nat}
theorem node_call {k : Nat} {listed : Array Bool} {i : Nat} {a : Act} {w : World} {o : Oper} {f : FuncId} {args : Array Value} (ho : l[i]? = some o) (hg : o.guard = none)
    (hrun : (execOp a.eval o).run P w = .ok (.enter f args) w)
    (h : Calls P f args w fun e w' => ∃ v, e = .returned v ∧ (i < L → S w') ∧ wpT P l.toArray Q S L k (listed.setIfInBounds i true) (a.put o.dst v) w') : wpNode P l.toArray Q S L k listed i a w := by
  unfold wpNode wpOp
  have ho' : l.toArray[i]? = some o := by simpa using ho
  simp only [ho']
  rw [if_pos (by simp [Region.wanted, hg])]
  refine .inl ?_
  unfold Oper.wp
  rw [hrun, Oper.upon_enter]
  refine h.mono fun e w' ⟨v, he, hS, h⟩ => ?_
  subst he
  exact ⟨hS, h⟩
theorem wpT_one {k : Nat} {listed : Array Bool} {a : Act} {w : World} (i : Nat) (hr : Region.ready .any l.toArray listed = [i]) (h : wpNode P l.toArray Q S L k listed i a w) : wpT P l.toArray Q S L (k + 1) listed a w :=
  wpT_nodes [i] hr (by simp) (fun j hj => by rw [List.mem_singleton.1 hj]; exact h)
/-- in the midst: operations that may be taken first -/
theorem wpT_mid {n : Nat} {listed : Array Bool} {a : Act} {w : World} (hd : List Nat) (l' : Array Bool) (hsel : Region.noSelect l.toArray = true) (hlast : lastB l.toArray L = true) (hQ : ∀ d v c a w, Q (.panic c) (a.put d v) w → Q (.panic c) a w)
    (hS : S w) (ht : takeB l.toArray L hd listed = some l') (h : wpTake P l.toArray S (fun a' => wpT P l.toArray Q S L n l' a' w) hd a) : wpT P l.toArray Q S L (hd.length + n) listed a w :=
  wpT_takeK (Region.noSelect_spec hsel) hlast hQ n hS hd listed l' a ht h
end

section
variable {M0 : Imm} {w : World} {L : List Res} {g : Nat} {m : Nat → Rg}
theorem upd_self {α : Type} (f : Nat → α) (k : Nat) : upd f k (f k) = f := by
  funext i
  by_cases h : i = k
  · subst h; rw [upd_at]
  · rw [upd_ne _ _ _ _ h]
theorem St.setImg2 {vs : Nat → RV} {R : World → Prop} {k j : Nat} {x : Rg} {p : RV} {u : Value} (h : St M0 w (imgB g vs m :: regsR vs m :: persR R :: L)) (hk : k < 4) (hj : j < 7)
    (hu : rgC x p = (rgC (m k) (vs k)).set j u) (hx : ∀ w', RegR w' (vs k) (m k) → R w' → RegR w' p x) : St M0 (w.setCell ⟨g, k * 7 + j, none⟩ u) (imgB g (upd vs k p) (upd m k x) :: regsR (upd vs k p) (upd m k x) :: L) := by
  have h1 := h.set_ (k * 7 + j) u
  rw [imgC_set m vs hk hj hu] at h1
  exact (h1.swap.up2.swap.pers2 (fun w' h3 h4 => upd_reg h3 (hx w' (h3 k hk) h4))).swap
theorem St.newImgB (h : St M0 w L) : St M0 (w.alloc (.cells (imgC aw0 (fun _ => nilRV)) 65)) (imgB w.heap.size (fun _ => nilRV) aw0 :: regsR (fun _ => nilRV) aw0 :: L) :=
  (h.pers0 (R := fun w => ∀ k, k < 4 → RegR w nilRV (aw0 k)) (fun w' _ _k _ => ⟨fun _ _ => Ints.none_ w' _, RowsC.none_ _ _ _ _⟩)).alloc 65 _
theorem imgC_self (m : Nat → Rg) (vs : Nat → RV) {k : Nat} (hk : k < 4) {u : Value} (hu : (vs k).log = u) : (imgC m vs).setIfInBounds (k * 7 + 6) u = imgC m vs := by
  rw [imgC_set m vs hk (by omega) (x := m k) (p := vs k) (by subst hu; rfl), upd_self, upd_self]
theorem St.logImg {vs : Nat → RV} {k : Nat} {u : Value} {e : TypeId} {logs : List (List Int)} {x : Rg} (h : St M0 w (blkR g 65 ((imgC m vs).setIfInBounds (k * 7 + 6) u) :: regsR vs m :: growR e 1 LogR u logs :: L)) (hk : k < 4) (hx : x = { m k with log := logs }) :
    ∃ p : RV, p.log = u ∧ St M0 w (imgB g (upd vs k p) (upd m k x) :: regsR (upd vs k p) (upd m k x) :: L) := by
  obtain ⟨css, h1⟩ := h.up2.rowsGrow.openRows
  rw [imgC_set m vs hk (by omega) (x := x) (p := { vs k with log := u, cs := css }) (by subst hx; rfl)] at h1
  refine ⟨{ vs k with log := u, cs := css }, rfl, ?_⟩
  have h2 := h1.dn2
  exact (h2.swap.up2.swap.pers2 (fun w' h3 h4 => upd_reg h3 ⟨fun j hj => by subst hx; exact (h3 k hk).b j hj, by subst hx; exact h4⟩)).swap
theorem imgC_log_at (m : Nat → Rg) (vs : Nat → RV) {k : Nat} (hk : k < 4) (u : Value) : ((imgC m vs).setIfInBounds (k * 7 + 6) u)[k * 7 + 6]? = some u := by
  rw [Array.getElem?_setIfInBounds, if_pos rfl, if_pos (show k * 7 + 6 < (imgC m vs).size from (by omega : k * 7 + 6 < 28))]
end

theorem Rd.img_rest (r : Rd) (k i : Nat) (h : k ≤ i) : (r.img k).1 i = Rg.zero := by
  induction k with
  | zero => rfl
  | succ k ih =>
    show upd (r.img k).1 k _ i = _
    rw [upd_ne _ _ _ _ (by omega), ih (by omega)]
theorem shortB_all (l : List (List Int)) (x : List Int) : (l ++ [x]).all shortB = (l.all shortB && shortB x) := by simp
theorem imgOk_far (m : Nat → Rg) (k j : Nat) (x : Rg) (h : j ≤ k) : imgOk (upd m k x) j = imgOk m j := by
  induction j with
  | zero => rfl
  | succ j ih => rw [imgOk_succ, imgOk_succ, ih (by omega), upd_ne _ _ _ _ (by omega)]
theorem blkOk_far (b : Nat → List Int) (k j : Nat) (x : List Int) (h : j ≤ k) : blkOk (upd b k x) j = blkOk b j := by
  induction j with
  | zero => rfl
  | succ j ih => rw [blkOk_succ, blkOk_succ, ih (by omega), upd_ne _ _ _ _ (by omega)]
theorem blkOk_next (b : Nat → List Int) (j : Nat) (x : List Int) : blkOk (upd b j x) (j + 1) = (blkOk b j && shortB x) := by
  rw [blkOk_succ, blkOk_far _ _ _ _ (Nat.le_refl _), upd_at]
theorem img_next (r : Rd) (k : Nat) (ok : Bool) (h : ok = (imgOk (r.img k).1 k && blkOk (r.img k).2.h3.1 4 && (r.img k).2.h5.1.all shortB)) :
    imgOk (r.img (k + 1)).1 (k + 1) = (ok && decide ((r.img k).2.h5.1.length ≤ 4) && (decide (0 < (r.img k).2.h1.1) || (r.img k).2.h2.1 == 0)) := by
  show imgOk (upd (r.img k).1 k (r.img k).2.rg) (k + 1) = _
  rw [imgOk_succ, imgOk_far _ _ _ _ (Nat.le_refl _), upd_at, h]
  show (_ && (_ && _ && _ && _)) = _
  simp only [Bool.and_assoc]
  rfl
theorem region_sum (r : Rd) (k : Nat) : (r.img (k + 1)).1 = upd (r.img k).1 k ⟨(r.img k).2.h1.1, (r.img k).2.h2.1, (r.img k).2.h3.1, (r.img k).2.h5.1⟩ := rfl
end Go.Proofs.Ytdhkklcjhbnnlaa
