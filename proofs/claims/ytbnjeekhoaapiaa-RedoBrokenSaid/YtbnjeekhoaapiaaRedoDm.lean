/- Redo: the requests of a part, one by one (plain). -/
import Derived.Test.YtbnjeekhoaapiaaRedoN
namespace Go.Proofs.Ytbnjeekhoaapiaa
open Go.RowKit

theorem wl_get (f : Nat → PU → RQ) (l : List PU) : ∀ i k, (wl f i l)[k]? = (l[k]?).map (f (i + k)) := by
  induction l with
  | nil => intro i k; rfl
  | cons p r ih =>
    intro i k
    cases k with
    | zero => rfl
    | succ k =>
      show (wl f (i + 1) r)[k]? = (r[k]?).map (f (i + (k + 1)))
      rw [ih, show i + 1 + k = i + (k + 1) by omega]
def reqAt (region token s : Int) (pt : List PU) (k : Nat) : RQ :=
  if k < pt.length then ⟨4, region, 0, token, IntKind.u32.wrap (s + k), recB (pt.getD k ⟨0, 0, []⟩)⟩
  else if k < 2 * pt.length then ⟨2, region, (pt.getD (k - pt.length) ⟨0, 0, []⟩).index, token, IntKind.u32.wrap (s + k), (pt.getD (k - pt.length) ⟨0, 0, []⟩).data⟩
  else ⟨5, region, pt.length, token, IntKind.u32.wrap (s + k), []⟩
theorem wrap_wrap (s : Int) (a b : Nat) : IntKind.u32.wrap (IntKind.u32.wrap (s + a) + b) = IntKind.u32.wrap (s + (a + b : Nat)) := by
  simp only [IntKind.wrap_u32]
  omega
theorem getD_some {l : List PU} {k : Nat} {x : PU} (h : l[k]? = some x) : l.getD k ⟨0, 0, []⟩ = x := by rw [List.getD_eq_getElem?_getD, h]; rfl
theorem partQ_list (region token s : Int) (pt : List PU) (hp : 0 < pt.length) : (partQ region token s pt).2 = (List.range (2 * pt.length + 1)).map (reqAt region token s pt) := by
  apply List.ext_getElem?
  intro k
  show (wl (eQ region token s) 0 pt ++ wAll region token (IntKind.u32.wrap (s + pt.length)) pt)[k]? = _
  unfold wAll
  rw [if_pos hp]
  by_cases h1 : k < pt.length
  · have hx := List.getElem?_eq_getElem (l := pt) (i := k) h1
    rw [List.getElem?_append_left (by rw [wl_length]; exact h1), wl_get, List.getElem?_map, List.getElem?_range (by omega), hx]
    show some (eQ region token s (0 + k) pt[k]) = some (reqAt region token s pt k)
    unfold reqAt
    rw [if_pos h1, getD_some hx, Nat.zero_add]
    rfl
  · rw [List.getElem?_append_right (by rw [wl_length]; omega), wl_length]
    by_cases h2 : k < 2 * pt.length
    · have hx := List.getElem?_eq_getElem (l := pt) (i := k - pt.length) (by omega)
      rw [List.getElem?_append_left (by rw [wl_length]; omega), wl_get, List.getElem?_map, List.getElem?_range (by omega), hx]
      show some (wQ region token (IntKind.u32.wrap (s + pt.length)) (0 + (k - pt.length)) pt[k - pt.length]) = some (reqAt region token s pt k)
      unfold reqAt
      rw [if_neg h1, if_pos h2, getD_some hx, Nat.zero_add]
      show some (RQ.mk 2 region _ token (IntKind.u32.wrap (IntKind.u32.wrap (s + pt.length) + (k - pt.length : Nat))) _) = _
      rw [wrap_wrap, show pt.length + (k - pt.length) = k by omega]
    · rw [List.getElem?_append_right (by rw [wl_length]; omega), wl_length]
      by_cases h3 : k = 2 * pt.length
      · rw [List.getElem?_map, List.getElem?_range (by omega), show k - pt.length - pt.length = 0 by omega]
        show some (RQ.mk 5 region pt.length token (IntKind.u32.wrap (IntKind.u32.wrap (s + pt.length) + pt.length)) []) = some (reqAt region token s pt k)
        unfold reqAt
        rw [if_neg h1, if_neg h2, wrap_wrap, show pt.length + pt.length = k by omega]
      · rw [List.getElem?_eq_none (by simp; omega), List.getElem?_eq_none (by simp; omega)]
theorem partQ_seq (region token s : Int) (pt : List PU) (hp : 0 < pt.length) : (partQ region token s pt).1 = IntKind.u32.wrap (s + (2 * pt.length + 1 : Nat)) := by
  show wSeq (IntKind.u32.wrap (s + pt.length)) pt = _
  unfold wSeq
  rw [if_pos hp]
  simp only [IntKind.wrap_u32]
  omega
theorem range_snoc (f : Nat → RQ) (x : Nat) : (List.range (x + 1)).map f = (List.range x).map f ++ [f x] := by rw [List.range_succ, List.map_append]; rfl
end Go.Proofs.Ytbnjeekhoaapiaa
