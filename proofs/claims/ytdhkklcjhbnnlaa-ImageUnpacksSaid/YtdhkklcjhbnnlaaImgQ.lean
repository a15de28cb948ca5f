/- Image: copies. -/
import Derived.Test.YtdhkklcjhbnnlaaImgO
import Derived.Deep.LoopGhost
namespace Go.Proofs.Ytdhkklcjhbnnlaa
open Go.RowKit

theorem take_snoc {α : Type} {xs : List α} {k : Nat} {x : α} (h : xs[k]? = some x) : xs.take (k + 1) = xs.take k ++ [x] := by
  obtain ⟨hlt, rfl⟩ := List.getElem?_eq_some_iff.1 h
  exact List.take_succ_eq_append_getElem hlt

set_option maxHeartbeats 1000000 in
theorem copies_st {M0 : Imm} {L : List Res} (v : Value) (xs : List (List Int)) (w : World) (hl : xs.length ≤ 1000) (hb : ∀ x ∈ xs, x.length ≤ 1000) (h : St M0 w (rowsR 1 LogR v xs :: L)) :
    Calls Try.prog 70 #[v] w fun e w' => ∃ V, e = .returned V ∧ St M0 w' (rowsR 1 LogR V xs :: L) := by
  obtain ⟨A, c, rfl, hc, hm⟩ := (h.getRows 0 rfl).slice
  generalize hn : xs.length = n at *
  have HN := hide hn
  have HB := hide hb
  have H := hide h
  clear hn h hb
  go_enter Try.func70, Try.ntmps70
  go_wp2_with fail
  go_loopg [3, 8] n (fun gh out i wr => ∃ k q A' c', gh = n - k ∧ k ≤ n ∧ i = .int .i64 (k : Nat) ∧ out = .slice A' q c' ∧ q = k ∧ St M0 wr (growR 24 1 LogR (.slice A' q c') (xs.take k) :: rowsR 1 LogR (.slice A n c) xs :: L))
  case atStart => exact ⟨0, 0, none, 0, rfl, by omega, rfl, rfl, rfl, H.out.nilGrow 24 1 LogR⟩
  case round =>
    obtain ⟨k, q, A', c', hg, hk, rfl, rfl, hq, h⟩ := hrel
    have HG := hide hg
    clear hg H
    by_cases hlt : k < n
    · have hx := List.getElem?_eq_getElem (l := xs) (i := k) (by rw [HN.out]; exact hlt)
      generalize xs[k]'(by rw [HN.out]; exact hlt) = x at hx
      obtain ⟨ad, cs, rfl, _, hcs, ⟨vb, rfl, hvb⟩, _⟩ := h.elem 1 rfl hx
      obtain ⟨A2, c2, rfl, hc2, hm2, hs2⟩ := hvb
      have k0 : wr.cell? (ad.add k) = some (.slice A2 x.length c2) := by simpa [Addr.add] using hcs 0 _ rfl
      have hx1 : x.length ≤ 1000 := HB.out x (List.mem_of_getElem? hx)
      have HX := hide hx
      have HS2 := hide hs2
      have HQ := hide hq
      have H := hide h
      generalize hnx : x.length = nx at *
      have HNX := hide hnx
      clear hx hcs h hs2 hq hnx
      go_wp2_with fail
      refine (clone_st A2 nx c2 x _ HS2.out (by omega) H.out).mono ?_
      rintro e w2 ⟨v2, rfl, h⟩
      obtain ⟨A3, c3, rfl⟩ := h.slice
      obtain ⟨vs, hq, hvs, h3⟩ := (h.ints.swap).openGrowS
      have H3 := hide (h3.junk (.cells #[.slice A3 nx c3] 24))
      have HVS := hide hvs
      have hq1 : q ≤ 1000 := by have := HQ.out; omega
      clear h h3 hq hvs k0 H
      go_wp2_with (at_builtin; refine St.app_step logs_elem H3.out rfl _ _ rfl rfl (some ⟨w2.heap.size, 0, none⟩) 1 1 rfl [.slice A3 nx c3] (sl_new1 _ _ _) (by simp [Value.oneCell']) (by omega) (by omega) ?_; intro A4 c4 w4 h4)
      go_roundg (n - (k + 1))
      case measure => have := HG.out; omega
      case rel =>
        refine ⟨k + 1, q + 1, A4, c4, rfl, by omega, by go_num, rfl, by rw [HQ.out], ?_⟩
        rw [take_snoc HX.out]
        have h5 := (h4.up2.pers1 (R' := fun w' => LogR w' [.slice A3 nx c3] x) (fun w' hi => ⟨_, rfl, hi⟩))
        exact h5.dn2.snocGrow (by rw [List.length_take, HQ.out, HN.out]; omega) rfl HVS.out
    · obtain rfl : k = n := by omega
      rw [List.take_of_length_le (by rw [HN.out]; exact Nat.le_refl _)] at h
      have H := hide h
      have HQ := hide hq
      clear h hq
      go_wp2_with fail
      go_ret
      refine ⟨_, rfl, ?_⟩
      obtain ⟨_, _, _, h5⟩ := H.out.openGrowS
      exact (h5.rows (by rw [HN.out]; exact HQ.out)).pick 2 [0]

end Go.Proofs.Ytdhkklcjhbnnlaa
