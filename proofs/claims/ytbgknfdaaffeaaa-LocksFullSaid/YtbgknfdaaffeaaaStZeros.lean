/- append of a made slice (the number in the place of a slice), told with resources: elements of one cell. -/
import Derived.Test.YtbgknfdaaffeaaaStApp
import Derived.Lib.AppendZerosOnto
namespace Go.Proofs.Ytbgknfdaaffeaaa
open Go.RowKit

theorem zeroCells_one (z : Value) (k : Nat) : Builtin.zeroCells #[z] k = (List.replicate k z).toArray := by
  apply Array.toList_inj.1
  unfold Builtin.zeroCells
  apply List.ext_getElem?
  intro i
  simp only [Array.toList_map, Array.toList_range, List.getElem?_map]
  by_cases hi : i < k * 1
  · rw [show (#[z] : Array Value).size = 1 from rfl, List.getElem?_range hi, List.getElem?_replicate, if_pos (by omega)]
    simp [Nat.mod_one]
  · rw [show (#[z] : Array Value).size = 1 from rfl, List.getElem?_eq_none (by simpa using Nat.le_of_not_lt hi), List.getElem?_eq_none (by simp; omega)]
    rfl

section
variable {P : Program} {M0 : Imm} {w : World} {L : List Res} {t tn e : TypeId} {z : Value} {bytes : Nat} {A : Option Addr} {n c : Nat} {xs : List Value}

theorem St.run_zeros {kn : IntKind} (hE : ElemOf P t e z 1 bytes) (hz : z.cells = #[z]) (hz1 : z.oneCell' = true) (htn : P.underlying tn = some (.int kn)) (h : St M0 w (rowR e 1 (.slice A n c) n xs :: L)) (ty : TypeId) (kq : IntKind) (k : Nat)
    (hb : (n + k) * bytes ≤ 140737488355328) (hn : n + k ≤ 140737488355328) (hk : (k : Int) * (bytes : Int) ≤ 281474976710656) :
    ∃ v' w', (Builtin.append_ #[t, tn] ty #[.slice A n c, .int kq k]).run P w = .ok v' w' ∧ St M0 w' (rowR e 1 v' (n + k) (xs ++ List.replicate k z) :: L) := by
  obtain ⟨i0, hi0, hz0, hs0, hb0⟩ := info_parts hE.hinfo
  have hown := h.row 0 rfl
  have hw : IntKind.i64.wrap (k : Int) = k := by rw [IntKind.wrap_i64]; omega
  have hneg : ¬ ((k : Int) < 0) := by omega
  have h48i : ¬ (281474976710656 < (k : Int) * (i0.bytes : Int)) := by rw [hb0]; omega
  by_cases h0 : k = 0
  · subst h0
    refine ⟨.slice A n c, w, ?_, by simpa using h⟩
    have hroom : n ≤ c := by
      rcases hown.2 with ⟨e1, e2⟩ | ⟨g, cap, cur, e1, _, _, hc, _⟩
      · rw [e2]; exact Nat.zero_le _
      · injection e1 with _ _ e3
        subst e3; exact hc
    have hw0 : IntKind.i64.wrap 0 = 0 := by rw [IntKind.wrap_i64]; omega
    cases A with
    | none => simp [Builtin.append_, run_underlying hE.ht, run_underlying htn, sizeOf, typeInfo, hi0, asInt, asIntOf, hw0, hroom]
    | some a => simp [Builtin.append_, run_underlying hE.ht, run_underlying htn, sizeOf, typeInfo, hi0, asInt, asIntOf, hw0, hroom, storeCells]
  by_cases hroom : n + k ≤ c
  · rcases hown.2 with ⟨e1, e2⟩ | ⟨g, cap, cur, e1, hg0, hg, hc, hm, hs, ht⟩
    · injection e1 with _ _ e3
      omega
    · injection e1 with e1 _ e3
      subst e1; subst e3
      simp only [Nat.mul_one] at hs ht
      have hst := run_storeCells_at P g n e (List.replicate k z) 0 cur w hg (by simp; omega) (fun u hu => by rw [List.eq_of_mem_replicate hu]; exact hz1)
      simp only [Nat.add_zero, List.length_replicate] at hst
      have hks : ¬ (k * 1 = 0) := by omega
      have hzc := zeroCells_one z k
      have hrun : (Builtin.append_ #[t, tn] ty #[.slice (some ⟨g, 0, none⟩) n c, .int kq k]).run P w = .ok (.slice (some ⟨g, 0, none⟩) (n + k) c) (w.setRow g (cur.toList.take n ++ List.replicate k z ++ cur.toList.drop (n + k)).toArray) := by
        simp [Builtin.append_, run_underlying hE.ht, run_underlying htn, sizeOf, typeInfo, zeroValue, hi0, hz0, hs0, asInt, asIntOf, hw, hneg, h48i, hroom, h0, hz, hzc, Addr.add_lit, hst]
      refine ⟨_, _, hrun, h.app (v' := .slice (some ⟨g, 0, none⟩) (n + k) c) ⟨?_, .inr ⟨g, c, _, rfl, Nat.zero_le _, setRow_heap w g cur _ e _ hg, hroom, hm, ?_, ?_⟩⟩ ⟨rfl, rfl, rfl, by simp, fun j _ hj => setRow_other w g j _ (fun e => hj (by simp [Value.ownBlock, e]))⟩ (.inl rfl)⟩
      · rw [List.length_append, hown.1, List.length_replicate]; omega
      · simp only [List.size_toArray, List.length_append, List.length_take, List.length_drop, Array.length_toList, List.length_replicate]
        omega
      · rw [ht, Nat.mul_one]
        have hl : (xs ++ List.replicate k z).length = n + k := by rw [List.length_append, hown.1, List.length_replicate]; omega
        rw [← hl]
        exact List.take_left
  · have holds : (Builtin.firstCells i0.size n (.slice A n c)).run P w.drew = .ok xs.toArray w.drew := by
      rcases hown.2 with ⟨e1, e2⟩ | ⟨g, cap, cur, e1, hg0, hg, hc, hm, hs, ht⟩
      · injection e1 with e1 e2' e3
        subst e1; subst e2; subst e3
        have : xs = [] := List.eq_nil_of_length_eq_zero (by simpa using hown.1)
        subst this
        rfl
      · injection e1 with e1 _ e3
        subst e1; subst e3
        exact run_firstCells_some (P := P) w.drew i0.size n ⟨g, 0, none⟩ n c xs (by rw [hs0]; exact hown.1) (hown.cells (g := g) rfl)
    have hr := Lib.run_append_grow_zeros (P := P) w t tn ty e i0 z kq kn hE.ht htn hi0 hz0 A n c xs holds k (by omega) (by rw [hs0]; omega) (by omega) (by omega) (by rw [hb0]; omega) (growslice_fits (by omega) (by rw [hb0]; exact hb))
    have hge := grownCap_ge w (n + k) c e
    have hcm : grownCap w (n + k) c e ≤ maxLen := grownCap_le_maxLen w (n + k) c e (by unfold maxLen; omega)
    have hzc := zeroCells_one z k
    have hlen : (xs ++ List.replicate k z).length = n + k := by rw [List.length_append, hown.1, List.length_replicate]; omega
    refine ⟨_, _, hr, h.tail.newRow ((Fr.refl _ _).drew.alloc _) ⟨by rw [hlen, Nat.mul_one], .inr ⟨w.heap.size, _, _, rfl, Nat.zero_le _, heap_alloc_new w.drew _, hge, hcm, ?_, ?_⟩⟩ (fun b hb' => by simp [Value.ownBlock] at hb'; omega)⟩
    · have hxl := hown.1
      simp only [Array.size_append, List.size_toArray, size_zeroCells, hz]
      simp
      omega
    · simp only [Array.toList_append, hz, hzc]
      rw [Nat.mul_one, ← hlen]
      exact List.take_left
end

end Go.Proofs.Ytbgknfdaaffeaaa
