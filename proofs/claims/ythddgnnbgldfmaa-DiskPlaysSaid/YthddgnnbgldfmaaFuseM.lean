/- A disk with a fuse (plain). -/
import Derived.Test.YthddgnnbgldfmaaDiskFold
namespace Go.Proofs.Ythddgnnbgldfmaa

def fuse0 (n : Nat) : DS := { DS.new 8 with fuse := n }
def fuseK (n : Nat) (os : List Op4) : DS := os.foldl (fun D o => D.write o.i o.b) (fuse0 n)
/-- the disk that has no fuse -/
def DS.free (D : DS) : DS := { D with fuse := -1, down := false }
def Op4.right (o : Op4) : Prop := 0 ≤ o.i ∧ o.i < 8 ∧ o.b.length ≤ 64

theorem DS.free_goes (D : DS) : D.free.goes = true := rfl
structure FInv (n : Nat) (D : DS) : Prop where
  ok : D.ok
  n8 : D.n = 8
  fuse : D.fuse = (n : Int) - (D.pend.length : Int)
  le : D.pend.length ≤ n
  down : D.down = true → D.pend.length = n
  fits : D.free.fits
theorem FInv.init (n : Nat) (hn : n ≤ 20) : FInv n (fuse0 n) := by
  have h := DS.new_ok (n := 8) (by decide) (by decide)
  refine ⟨⟨h.n1, h.n2, h.hs, h.hu, h.hp, by show _ ≤ (n : Int); omega, by show (n : Int) ≤ _; omega⟩, rfl, ?_, Nat.zero_le _, (fun h => by cases h), ⟨rfl, rfl, rfl⟩⟩
  show (n : Int) = n - ((0 : Nat) : Int)
  omega
theorem FInv.goes {n : Nat} {D : DS} (h : FInv n D) : D.goes = decide (D.pend.length < n) := by
  have h1 := h.fuse
  have h2 := h.le
  have h3 := h.down
  unfold DS.goes
  cases hd : D.down with
  | true =>
    have := h3 hd
    rw [decide_eq_false (by omega)]
    rfl
  | false =>
    by_cases hl : D.pend.length < n
    · rw [decide_eq_true hl]
      have : (D.fuse == 0) = false := by simp; omega
      rw [this]; rfl
    · rw [decide_eq_false hl]
      have : (D.fuse == 0) = true := by simp; omega
      rw [this]; rfl
theorem FInv.yes {n : Nat} {D : DS} (h : FInv n D) {i : Int} {b : List Int} (h0 : 0 ≤ i) (h7 : i < 8) (hb : b.length ≤ 64) (hl : D.pend.length < n) :
    D.writeE i b = 0 ∧ D.free.writeE i b = 0 ∧ FInv n (D.write i b) ∧ D.free.write i b = (D.write i b).free ∧ (D.write i b).pend.length = D.pend.length + 1 := by
  have hg := h.goes
  rw [decide_eq_true hl] at hg
  have hn := h.n8
  have hf := h.fuse
  have c1 : ¬ (i < 0 ∨ (D.n : Int) ≤ i) := by rw [hn]; omega
  have c2 : ¬ 64 < b.length := by omega
  have e : D.write i b = D.after.put i.toNat b := by unfold DS.write; rw [if_neg c1, if_neg c2, if_pos hg]
  have c1' : ¬ (i < 0 ∨ (D.free.n : Int) ≤ i) := c1
  have e2 : D.free.write i b = D.free.after.put i.toNat b := by unfold DS.write; rw [if_neg c1', if_neg c2, if_pos (DS.free_goes D)]
  have hd : (D.down || D.fuse == 0) = false := by unfold DS.goes at hg; simpa using hg
  have hpl : (D.write i b).pend.length = D.pend.length + 1 := by rw [e]; simp [DS.put, DS.after]
  have e3 : D.free.write i b = (D.write i b).free := by rw [e, e2]; rfl
  refine ⟨by unfold DS.writeE; rw [if_neg c1, if_neg c2, if_pos hg], by unfold DS.writeE; rw [if_neg c1', if_neg c2, if_pos (DS.free_goes D)], ⟨h.ok.write i b, ?_, ?_, ?_, ?_, e3 ▸ h.fits.write i b⟩, e3, hpl⟩
  · rw [e]; exact hn
  · rw [hpl, e]
    show (if 0 < D.fuse then D.fuse - 1 else D.fuse) = _
    rw [if_pos (by omega)]
    omega
  · omega
  · rw [e]
    intro hx
    have hx : (D.down || D.fuse == 0) = true := hx
    rw [hd] at hx
    cases hx
theorem FInv.no {n : Nat} {D : DS} (h : FInv n D) {i : Int} {b : List Int} (h0 : 0 ≤ i) (h7 : i < 8) (hb : b.length ≤ 64) (hl : ¬ D.pend.length < n) :
    D.writeE i b = 43 ∧ FInv n (D.write i b) ∧ D.free = (D.write i b).free ∧ (D.write i b).pend = D.pend := by
  have hg := h.goes
  rw [decide_eq_false hl] at hg
  have hn := h.n8
  have hf := h.fuse
  have hle := h.le
  have c1 : ¬ (i < 0 ∨ (D.n : Int) ≤ i) := by rw [hn]; omega
  have c2 : ¬ 64 < b.length := by omega
  have c3 : ¬ D.goes = true := by rw [hg]; simp
  have e : D.write i b = D.after := by unfold DS.write; rw [if_neg c1, if_neg c2, if_neg c3]
  refine ⟨by unfold DS.writeE; rw [if_neg c1, if_neg c2, if_neg c3], ⟨h.ok.write i b, ?_, ?_, ?_, ?_, (by rw [e]; exact h.fits)⟩, ?_, ?_⟩
  · rw [e]; exact hn
  · rw [e]
    show (if 0 < D.fuse then D.fuse - 1 else D.fuse) = (n : Int) - (D.pend.length : Int)
    rw [if_neg (by omega)]
    exact hf
  · rw [e]; exact hle
  · rw [e]
    intro _
    show D.pend.length = n
    omega
  · rw [e]; rfl
  · rw [e]; rfl
theorem FInv.bad {n : Nat} {D : DS} (h : FInv n D) {i : Int} {b : List Int} (hr : i < 0 ∨ 8 ≤ i) : D.writeE i b = 40 ∧ D.write i b = D := by
  have hn := h.n8
  have c1 : i < 0 ∨ (D.n : Int) ≤ i := by rw [hn]; omega
  exact ⟨by unfold DS.writeE; rw [if_pos c1], by unfold DS.write; rw [if_pos c1]⟩
theorem FInv.long {n : Nat} {D : DS} (h : FInv n D) {i : Int} {b : List Int} (h0 : 0 ≤ i) (h7 : i < 8) (hb : 64 < b.length) : D.writeE i b = 2 ∧ D.write i b = D := by
  have hn := h.n8
  have c1 : ¬ (i < 0 ∨ (D.n : Int) ≤ i) := by rw [hn]; omega
  exact ⟨by unfold DS.writeE; rw [if_neg c1, if_pos hb], by unfold DS.write; rw [if_neg c1, if_pos hb]⟩
theorem FInv.free_ok {n : Nat} {D : DS} (h : FInv n D) : D.free.ok := ⟨h.ok.n1, h.ok.n2, h.ok.hs, h.ok.hu, h.ok.hp, by show (-9223372036854775808 : Int) ≤ -1; omega, by show (-1 : Int) ≤ _; omega⟩
theorem FInv.sync_yes {n : Nat} {D : DS} (h : FInv n D) (hl : D.pend.length < n) : D.sync.pend.length = 0 ∧ D.sync.down = false := by
  have hg := h.goes
  rw [decide_eq_true hl] at hg
  have hd : (D.down || D.fuse == 0) = false := by unfold DS.goes at hg; simpa using hg
  unfold DS.sync
  rw [if_pos hg]
  exact ⟨rfl, hd⟩
theorem FInv.sync_no {n : Nat} {D : DS} (h : FInv n D) (hl : ¬ D.pend.length < n) :
    D.sync.pend.length = D.pend.length ∧ D.sync.down = true ∧ (D.sync.crash (sixty D.pend.length)).seen = D.seen ∧ (D.sync.crash (sixty D.pend.length)).down = false ∧ (D.sync.crash (sixty D.pend.length)).n = 8 := by
  have hg := h.goes
  rw [decide_eq_false hl] at hg
  have c3 : ¬ D.goes = true := by rw [hg]; simp
  have e : D.sync = D.after := by unfold DS.sync; rw [if_neg c3]
  have hd : (D.down || D.fuse == 0) = true := by
    unfold DS.goes at hg
    cases hx : (D.down || D.fuse == 0) with
    | true => rfl
    | false => rw [hx] at hg; cases hg
  have hc := DS.crash_all (D := D.after) (e ▸ h.ok.sync) h.fits.1
  rw [e]
  exact ⟨rfl, hd, hc, rfl, h.n8⟩

end Go.Proofs.Ythddgnnbgldfmaa
