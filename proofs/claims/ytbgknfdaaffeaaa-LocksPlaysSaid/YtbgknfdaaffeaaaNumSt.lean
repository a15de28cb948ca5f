/- Numbers, by resources. -/
import Derived.Test.YtbgknfdaaffeaaaEqNum
import Derived.Test.YtbgknfdaaffeaaaStRows
namespace Go.Proofs.Ytbgknfdaaffeaaa
open Go.RowKit

theorem nums_st {M0 : Imm} {L : List Res} (v u : Value) (xs ys : List Int) (w : World) (hx : Ints w .i64 v xs) (hy : Ints w .i64 u ys) (hlx : xs.length ≤ 100000) (hly : ys.length ≤ 100000) (h : St M0 w L) :
    Calls Try.prog 19 #[v, u] w fun e w' => e = .returned (.bool (decide (xs = ys))) ∧ St M0 w' L := by
  obtain ⟨A, c, rfl, hl, hm, hs⟩ := hx
  obtain ⟨B, d, rfl, hl', hm', hs'⟩ := hy
  exact (numbers_any _ _ xs ys w Any Any ⟨A, c, rfl, by omega, hs⟩ ⟨B, d, rfl, by omega, hs'⟩).mono (fun e w' ⟨he, hf⟩ => ⟨he, h.grow hf⟩)
end Go.Proofs.Ytbgknfdaaffeaaa
