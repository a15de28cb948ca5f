/- The table of sums, out of the row's laid datum. -/
import Derived.Test.YtpaelngpmbeedaaGreatDoorCkSZ
import Derived.Test.YtpaelngpmbeedaaGreatDoorRows
import Derived.ChangeVars
import Derived.LaidLaws
import Derived.OpenShut
namespace Go.Proofs.YtpaelngpmbeedaaGreatDoor
open Go.RowKit

theorem fr_some {w w' : World} (h : Fr Non w w') {p : Addr} {u : Value} (hc : w.cell? p = some u) : w'.cell? p = some u := by
  have hlt : p.block < w.heap.size := by
    rcases Nat.lt_or_ge p.block w.heap.size with h' | h'
    · exact h'
    · simp [World.cell?, Array.getElem?_eq_none h'] at hc
  rw [h.cell hlt (fun x => x.elim)]
  exact hc
theorem tbl_init {W : World} (h : TabW W) : Tbl (Imm.of W) := fun _ ha i x hx => fr_some ha.non (h i x hx)
set_option maxRecDepth 100000 in
theorem tab_of_laid {W : World} (h : laidMet Tryz.prog [("pursuivant/check.table", Rows.laid_pursuivant_check_table)] W) : TabW W := by
  obtain ⟨ps, ⟨g, t, cs, fuel, p, q, hg, ht, hv, hd, _, _⟩, _⟩ := h
  obtain rfl := Option.some.inj ((show Tryz.prog.globalNamed "pursuivant/check.table" = some 0 by kernel_rfl).symm.trans hg)
  obtain rfl := Option.some.inj ((show (Tryz.prog.globals[0]?).map (·.type) = some 199 by kernel_rfl).symm.trans ht)
  have c5 : Tryz.prog.cellsOf 32 = 1 := by kernel_rfl
  have c29 : Tryz.prog.cellsOf 199 = 16 := by kernel_rfl
  obtain ⟨xs, m, _, ex, hlen, hl, hel⟩ := DataW.trod_array Tryz.underlying199 hd
  rw [c29] at hlen
  have hv := World.var?_cell hg hv
  obtain ⟨e1, _⟩ := Prod.mk.inj ex
  have e1 := DataW.agg.inj e1
  intro i x hx
  have hi : i < 16 := (List.getElem?_eq_some_iff.1 hx).1
  have hk := hel i hi
  rw [c5, Nat.mul_one] at hk
  have hm : (xs.map (·.1))[i]? = some (.lit (.int .u32 x)) := by
    rw [← e1]
    have : (sumT.map (fun z => (DataW.lit (Lit.int .u32 z) : DataW Unit)))[i]? = some (.lit (.int .u32 x)) := by rw [List.getElem?_map, hx]; rfl
    exact this
  rw [List.getElem?_map] at hm
  cases hxi : xs[i]? with
  | none => rw [hxi] at hm; cases hm
  | some y =>
    rw [hxi] at hm hk
    obtain ⟨z, a, b, _⟩ := DataW.trod_int Tryz.underlying32 hk
    have hm : y.1 = .lit (.int .u32 x) := Option.some.inj hm
    rw [b] at hm
    have hz : z = x := by simpa using hm
    subst hz
    rw [hv i]
    have h3 : (cs.toList.drop i)[0]? = some (.int .u32 z) := by
      have h4 : ((cs.toList.drop i).take 1)[0]? = some (.int .u32 z) := by rw [a]; rfl
      rwa [List.getElem?_take, if_pos (by omega)] at h4
    rw [List.getElem?_drop, Nat.add_zero, Array.getElem?_toList] at h3
    exact h3
end Go.Proofs.YtpaelngpmbeedaaGreatDoor
