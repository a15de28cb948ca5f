/- Redo: plans, and the last writes of each block (plain); rows cut out of rows. -/
import Derived.Test.YtbnjeekhoaapiaaRedoW
namespace Go.Proofs.Ytbnjeekhoaapiaa
open Go.RowKit

section
variable {α : Type} {M0 : Imm} {w : World} {L : List Res} {size : Nat} {R : World → List Value → α → Prop} {v : Value} {xs : List α}
theorem RowsC.sub {A A' : Option Addr} {n c k m c' : Nat} {css : Nat → List Value} (h : RowsC w size R (.slice A n c) css xs) (hk : k + m ≤ n) (hA : 0 < m → A' = A.map (·.add (k * size))) (hc : m ≤ c') (hm : c' ≤ maxLen) :
    RowsC w size R (.slice A' m c') (fun i => css (k + i)) ((xs.drop k).take m) := by
  obtain ⟨B, d, e, h1, h2, h3⟩ := h
  injection e with e1 e2 e3
  subst e1
  have hl : ((xs.drop k).take m).length = m := by rw [List.length_take, List.length_drop]; omega
  refine ⟨A', c', by rw [hl], by rw [hl]; exact hc, hm, fun i x hi => ?_⟩
  have him : i < m := by have := (List.getElem?_eq_some_iff.1 hi).1; omega
  rw [List.getElem?_take, if_pos him, List.getElem?_drop] at hi
  obtain ⟨ad, rfl, hsz, hcl, hr⟩ := h3 (k + i) x hi
  refine ⟨ad.add (k * size), by rw [hA (by omega)]; rfl, hsz, fun j u hu => ?_, hr⟩
  rw [addr_add, addr_add]
  have := hcl j u hu
  rw [addr_add, Nat.add_mul] at this
  rw [show k * size + i * size + j = k * size + (i * size + j) by omega] at this
  exact this
theorem St.subRows {A A' : Option Addr} {n c k m c' : Nat} (h : St M0 w L) (i : Nat) (hi : L[i]? = some (rowsR size R (.slice A n c) xs)) (hk : k + m ≤ n) (hA : 0 < m → A' = A.map (·.add (k * size))) (hc : m ≤ c') (hm : c' ≤ maxLen) :
    St M0 w (rowsR size R (.slice A' m c') ((xs.drop k).take m) :: L) := by
  obtain ⟨M, Fs, h0, ha, hs⟩ := h
  obtain ⟨css, hx⟩ := hs.at_ i _ hi
  exact ⟨M, _, h0, ha, hs.cons (F := fun _ => False) ⟨fun i => css (k + i), fun _ x => x, fun w' ha' => (hx.2 w' ha').sub hk hA hc hm⟩ (fun _ _ _ _ x => x) (fun _ x => x.elim)⟩
end

def eQ (region token seq : Int) (i : Nat) (p : PU) : RQ := ⟨4, region, 0, token, IntKind.u32.wrap (seq + i), recB p⟩
/-- behind j parts of four: the next number, the requests -/
def partQ (region token : Int) (s : Int) (part : List PU) : Int × List RQ :=
  (wSeq (IntKind.u32.wrap (s + part.length)) part, wl (eQ region token s) 0 part ++ wAll region token (IntKind.u32.wrap (s + part.length)) part)
def pQ (region token seq : Int) (l : List PU) : Nat → Int × List RQ
  | 0 => (seq, [])
  | j + 1 => ((partQ region token (pQ region token seq l j).1 ((l.drop (4 * j)).take 4)).1, (pQ region token seq l j).2 ++ (partQ region token (pQ region token seq l j).1 ((l.drop (4 * j)).take 4)).2)
def recsE : List PU → Int
  | [] => 0
  | x :: r => if recE x = 0 then recsE r else recE x
def planE (region : Int) (l : List PU) : Int := if recsE l = 0 then (if l.any (fun x => x.region != region) = true then 1 else 0) else recsE l
def planQ (region token seq : Int) (l : List PU) : List RQ := if planE region l = 0 then (pQ region token seq l ((l.length + 3) / 4)).2 else []
def keyP (x y : PU) : Bool := y.region == x.region && y.index == x.index
def mergeP : List PU → List PU
  | [] => []
  | x :: r => if r.any (keyP x) = true then mergeP r else x :: mergeP r

theorem wSeq_range (s : Int) (l : List PU) (hs : 0 ≤ s ∧ s ≤ 4294967295) : 0 ≤ wSeq s l ∧ wSeq s l ≤ 4294967295 := by
  unfold wSeq
  split
  · simp only [IntKind.wrap_u32]; omega
  · exact hs
theorem pQ_range (region token seq : Int) (l : List PU) (hs : 0 ≤ seq ∧ seq ≤ 4294967295) : ∀ j, 0 ≤ (pQ region token seq l j).1 ∧ (pQ region token seq l j).1 ≤ 4294967295
  | 0 => hs
  | j + 1 => wSeq_range _ _ (by simp only [IntKind.wrap_u32]; omega)
theorem wAll_length (region token seq : Int) (l : List PU) : (wAll region token seq l).length ≤ l.length + 1 := by
  unfold wAll
  rw [List.length_append, wl_length]
  split <;> simp
theorem pQ_length (region token seq : Int) (l : List PU) : ∀ j, (pQ region token seq l j).2.length ≤ 9 * j
  | 0 => by simp [pQ]
  | j + 1 => by
    have h1 := pQ_length region token seq l j
    have h2 := wAll_length region token (IntKind.u32.wrap ((pQ region token seq l j).1 + ((l.drop (4 * j)).take 4).length)) ((l.drop (4 * j)).take 4)
    have h3 : ((l.drop (4 * j)).take 4).length ≤ 4 := by rw [List.length_take]; omega
    show ((pQ region token seq l j).2 ++ (wl _ 0 ((l.drop (4 * j)).take 4) ++ wAll _ _ _ _)).length ≤ 9 * (j + 1)
    rw [List.length_append, List.length_append, wl_length]
    omega
theorem recsE_snoc (l : List PU) (b : PU) (h : recsE l = 0) : recsE (l ++ [b]) = recE b := by
  induction l with
  | nil => show (if recE b = 0 then 0 else recE b) = _; split <;> simp_all
  | cons p r ih =>
    unfold recsE at h
    show (if recE p = 0 then recsE (r ++ [b]) else recE p) = _
    split at h
    · rename_i h1
      rw [if_pos h1]
      exact ih h
    · rename_i h1
      exact absurd h h1
theorem recsE_more (l r : List PU) (h : recsE l ≠ 0) : recsE (l ++ r) = recsE l := by
  induction l with
  | nil => exact absurd rfl h
  | cons p q ih =>
    unfold recsE at h
    show (if recE p = 0 then recsE (q ++ r) else recE p) = if recE p = 0 then recsE q else recE p
    split at h
    · rename_i h1
      rw [if_pos h1, if_pos h1]
      exact ih h
    · rename_i h1
      rw [if_neg h1, if_neg h1]
theorem recsE_each (l : List PU) (h : recsE l = 0) : ∀ x ∈ l, recE x = 0 := by
  induction l with
  | nil => intro x hx; cases hx
  | cons p r ih =>
    unfold recsE at h
    split at h
    · rename_i h1
      intro x hx
      rcases List.mem_cons.1 hx with rfl | hx
      · exact h1
      · exact ih h x hx
    · rename_i h1
      exact absurd h h1
theorem recE_data (x : PU) (h : recE x = 0) : x.data.length ≤ 23 ∧ 0 ≤ x.index ∧ x.index < 4 := by
  unfold recE at h
  split at h
  · cases h
  · split at h
    · cases h
    · omega
theorem recE_recB (x : PU) (h : recE x = 0) : recB x = x.index :: x.data := by unfold recB; rw [if_pos h]
end Go.Proofs.Ytbnjeekhoaapiaa
