/- Sorting sections by their tokens: symMergeCmpFunc: what is to be shown. Printed by gen_src.py. -/
import Derived.Test.YtbgknfdaaffeaaaSrB
import Derived.Deep.DeepCutAuto
namespace Go.Proofs.Ytbgknfdaaffeaaa
open Go.RowKit Go.Shelf

theorem take_snocS {α : Type} {l : List α} {k : Nat} {x : α} (h : l[k]? = some x) : l.take (k + 1) = l.take k ++ [x] := by rw [List.take_add_one, h]; rfl
theorem drop_consS {α : Type} {l : List α} {k : Nat} {x : α} (h : l[k]? = some x) : l.drop k = x :: l.drop (k + 1) := by
  obtain ⟨hk, e⟩ := List.getElem?_eq_some_iff.1 h
  rw [List.drop_eq_getElem_cons hk, e]
theorem half_i {s h : Nat} (e : h = s / 2) : (s : Int) / 2 = (h : Int) := by omega
theorem mid_F {P F R : List SecV} {a k : Nat} (ha : P.length = a) (hk : a ≤ k) (hl : k < a + F.length) : (P ++ (F ++ R))[k]? = F[k - a]? := by
  rw [List.getElem?_append_right (by omega), ha, List.getElem?_append_left (by omega)]
theorem mid_G {P F G R : List SecV} {a m k : Nat} (ha : P.length = a) (hm : a + F.length = m) (hk : m ≤ k) (hl : k < m + G.length) : (P ++ (F ++ (G ++ R)))[k]? = G[k - m]? := by
  rw [List.getElem?_append_right (by omega), ha, List.getElem?_append_right (by omega), show k - a - F.length = k - m by omega, List.getElem?_append_left (by omega)]
theorem symSplit {P F G Q xs : List SecV} {a m e md p s s0 r0 : Nat} (hxs : xs = P ++ (F ++ (G ++ Q))) (ha : P.length = a) (hm : a + F.length = m) (he : m + G.length = e) (hF : 0 < F.length) (hG : 0 < G.length) (hmd : 2 * md ≤ a + e ∧ a + e ≤ 2 * md + 1) (hp : p + 1 = md + m)
    (hsr : (md < m ∧ s0 + e = md + m ∧ r0 = md) ∨ (m ≤ md ∧ s0 = a ∧ r0 = m)) (hs : s0 ≤ s) (hr : s ≤ r0)
    (i1 : s = s0 ∨ ∃ k q x y, s = k + 1 ∧ q + k = p ∧ xs[k]? = some x ∧ xs[q]? = some y ∧ x.t ≤ y.t) (i2 : s = r0 ∨ ∃ q x y, q + s = p ∧ xs[q]? = some x ∧ xs[s]? = some y ∧ x.t ≤ y.t) :
    ∃ en, en + s = md + m ∧ a ≤ s ∧ s ≤ m ∧ m ≤ en ∧ en ≤ e ∧
      (F.take (s - a) = [] ∨ G.drop (en - m) = [] ∨ ∃ a' x y b', F.take (s - a) = a' ++ [x] ∧ G.drop (en - m) = y :: b' ∧ x.t ≤ y.t) ∧
      (G.take (en - m) = [] ∨ F.drop (s - a) = [] ∨ ∃ a' x y b', G.take (en - m) = a' ++ [x] ∧ F.drop (s - a) = y :: b' ∧ x.t ≤ y.t) := by
  obtain ⟨en, hen⟩ : ∃ en, en = md + m - s := ⟨_, rfl⟩
  have hb : a ≤ s ∧ s ≤ m ∧ m ≤ en ∧ en ≤ e ∧ en + s = md + m := by rcases hsr with ⟨h1, h2, h3⟩ | ⟨h1, h2, h3⟩ <;> omega
  refine ⟨en, hb.2.2.2.2, hb.1, hb.2.1, hb.2.2.1, hb.2.2.2.1, ?_, ?_⟩
  · rcases i1 with e1 | ⟨k, q, x, y, hk, hq, hx, hy, hxy⟩
    · rcases hsr with ⟨h1, h2, h3⟩ | ⟨h1, h2, h3⟩
      · exact .inr (.inl (List.drop_eq_nil_of_le (by omega)))
      · exact .inl (by rw [show s - a = 0 by omega]; rfl)
    · by_cases hsa : s = s0
      · rcases hsr with ⟨h1, h2, h3⟩ | ⟨h1, h2, h3⟩
        · exact .inr (.inl (List.drop_eq_nil_of_le (by omega)))
        · exact .inl (by rw [show s - a = 0 by omega]; rfl)
      · have hbb : a ≤ k ∧ k < m ∧ m ≤ q ∧ q < e := by rcases hsr with ⟨h1, h2, h3⟩ | ⟨h1, h2, h3⟩ <;> omega
        rw [hxs, mid_F ha hbb.1 (by omega)] at hx
        rw [hxs, mid_G ha hm hbb.2.2.1 (by omega)] at hy
        refine .inr (.inr ⟨F.take (k - a), x, y, G.drop (q - m + 1), ?_, ?_, hxy⟩)
        · rw [show s - a = k - a + 1 by omega]
          exact take_snocS hx
        · rw [show en - m = q - m by omega]
          exact drop_consS hy
  · rcases i2 with e1 | ⟨q, x, y, hq, hx, hy, hxy⟩
    · rcases hsr with ⟨h1, h2, h3⟩ | ⟨h1, h2, h3⟩
      · exact .inl (by rw [show en - m = 0 by omega]; rfl)
      · exact .inr (.inl (List.drop_eq_nil_of_le (by omega)))
    · by_cases hsa : s = r0
      · rcases hsr with ⟨h1, h2, h3⟩ | ⟨h1, h2, h3⟩
        · exact .inl (by rw [show en - m = 0 by omega]; rfl)
        · exact .inr (.inl (List.drop_eq_nil_of_le (by omega)))
      · have hbb : m ≤ q ∧ q < e ∧ a ≤ s ∧ s < m := by rcases hsr with ⟨h1, h2, h3⟩ | ⟨h1, h2, h3⟩ <;> omega
        rw [hxs, mid_G ha hm hbb.1 (by omega)] at hx
        rw [hxs, mid_F ha hbb.2.2.1 (by omega)] at hy
        refine .inr (.inr ⟨G.take (q - m), x, y, F.drop (s - a + 1), ?_, ?_, hxy⟩)
        · rw [show en - m = q - m + 1 by omega]
          exact take_snocS hx
        · exact drop_consS hy
def SymQ (M0 : Imm) (L : List Res) (b n c : Nat) (P F G Q : List SecV) (u : Ending) (w' : World) : Prop := u = .returned (.tuple #[]) ∧ ∃ S, S.Perm (F ++ G) ∧ SortedT S ∧ St M0 w' (ownR secC 37 4 (.slice (some ⟨b, 0, none⟩) n c) (P ++ (S ++ Q)) :: L)
def SymAll (M0 : Imm) (L : List Res) (b n c N : Nat) : Prop := n ≤ 1000000 → ∀ (a m e : Nat) (P F G Q : List SecV) (w : World), e ≤ a + N → P.length = a → a + F.length = m → m + G.length = e → 0 < F.length → 0 < G.length → SortedT F → SortedT G → St M0 w (ownR secC 37 4 (.slice (some ⟨b, 0, none⟩) n c) (P ++ (F ++ (G ++ Q))) :: L) →
  Calls Try.prog 165 #[.slice (some ⟨b, 0, none⟩) n c, .int .i64 (a : Nat), .int .i64 (m : Nat), .int .i64 (e : Nat), .func (.func 113) #[] #[]] w (SymQ M0 L b n c P F G Q)
end Go.Proofs.Ytbgknfdaaffeaaa
