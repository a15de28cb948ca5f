/- Cache: Keys. -/
import Derived.Test.YtbgknfdaaffeaaaCaWr
namespace Go.Proofs.Ytbgknfdaaffeaaa
open Go.RowKit Go.Shelf

theorem key_elem : ElemOf Try.prog 66 52 (.agg #[.int .i64 0, .int .i64 0]) 2 16 := ⟨Try.underlying66, by kernel_rfl, by kernel_rfl, by omega⟩
theorem key_one (a b : Int) : ∀ u ∈ [Value.int .i64 a, .int .i64 b], u.oneCell' = true := by
  intro u hu
  simp at hu
  rcases hu with rfl | rfl <;> rfl
def KeyR (_ : World) (cs : List Value) (x : Int × Int) : Prop := cs = [.int .i64 x.1, .int .i64 x.2]
def keyOf (x : PU) : Int × Int := (x.region, x.index)
set_option maxHeartbeats 2000000 in
set_option maxRecDepth 100000 in
theorem keys_st {M0 : Imm} {L : List Res} (g : Nat) (bl ws : List PU) (w : World) (hl : bl.length ≤ 1000000) (h : St M0 w (cacheR g bl ws :: L)) :
    Calls Try.prog 36 #[.pointer (some ⟨g, 0, none⟩)] w fun e w' => ∃ v, e = .returned v ∧ St M0 w' (growR 52 2 KeyR v (bl.map keyOf) :: cacheR g bl ws :: L) := by
  obtain ⟨A, c, B, d, hcc, _, hcm, _, h1⟩ := h.cacheO
  obtain ⟨n, hn⟩ : ∃ n, n = bl.length := ⟨_, rfl⟩
  rw [← hn] at h1 hcc
  have x0 := (h1.blk 0 rfl).cell 0
  have HN := hide hn
  have hn1 : n ≤ 1000000 := by omega
  have H := hide ((h1.nilGrow 52 2 KeyR).pick (L' := growR 52 2 KeyR (.slice none 0 0) [] :: growR 153 3 PutR (.slice A n c) bl :: blkR g 43 #[.slice A n c, .slice B ws.length d] :: growR 153 3 PutR (.slice B ws.length d) ws :: L) 4 [0, 2, 1, 3])
  clear h h1 hn hl hcc
  go_enter Try.func36, Try.ntmps36
  go_wp2_with fail
  go_loopg [3, 11] n (fun gh v i wr => ∃ (k : Nat) (C : Option Addr) (e : Nat), gh = n - k ∧ k ≤ n ∧ v = .slice C k e ∧ i = .int .i64 (k : Nat) ∧ St M0 wr (growR 52 2 KeyR (.slice C k e) ((bl.take k).map keyOf) :: growR 153 3 PutR (.slice A n c) bl :: blkR g 43 #[.slice A n c, .slice B ws.length d] :: growR 153 3 PutR (.slice B ws.length d) ws :: L))
  case atStart => exact ⟨0, none, 0, rfl, by omega, rfl, rfl, H.out⟩
  case round =>
    clear H x0
    obtain ⟨k, C, e, hg, hk, rfl, rfl, h⟩ := hrel
    have HG := hide hg
    clear hg
    by_cases hlt : k < n
    · have hx := List.getElem?_eq_getElem (l := bl) (i := k) (by rw [← HN.out]; exact hlt)
      generalize bl[k]'(by rw [← HN.out]; exact hlt) = x at hx
      have ht : (bl.take (k + 1)).map keyOf = (bl.take k).map keyOf ++ [keyOf x] := by rw [List.take_add_one, hx, List.map_append]; rfl
      obtain ⟨ad, cs, rfl, _, hcs, ⟨v, rfl, hv⟩, -, h1⟩ := h.swap.elemG (by omega) hx
      obtain ⟨X, xc, rfl, _, _, _⟩ := id hv
      obtain ⟨e0, e1, e2⟩ := cells3 hcs
      have HT := hide ht
      have i0 : (0 : Int) ≤ (k : Int) := by omega
      have i1 : (k : Int) < (n : Int) := by omega
      have h2 := h1.tail.swap.alloc 153 #[.int .i64 x.region, .int .i64 x.index, .slice X x.data.length xc]
      have y0 := (h2.blk 0 rfl).cell 0
      have y1 := (h2.blk 0 rfl).cell 1
      have h3 := h2.tail.alloc 52 #[.int .i64 x.region, .int .i64 x.index]
      rw [World.size_alloc] at h3
      obtain ⟨vs, hq2, hxl, h4⟩ := h3.swap.openGrowS
      have H4 := hide h4
      have HQ2 := hide hq2
      have HXL := hide hxl
      clear h h1 ht hx hv hcs h2 h3 h4 hq2 hxl
      go_wp2_with (at_builtin; refine St.app_step key_elem H4.out rfl _ _ rfl rfl (some ⟨wr.heap.size + 1, 0, none⟩) 1 1 rfl [.int .i64 x.region, .int .i64 x.index] (sl_blkN (cs := [.int .i64 x.region, .int .i64 x.index]) (H4.out.blk 2 rfl)) (key_one _ _) (by omega) (by omega) ?_; intro A6 c6 w7 h9)
      have h10 := (h9.pick (L' := rowR 52 2 (.slice A6 (k + 1) c6) (k + 1) (vs ++ [.int .i64 x.region, .int .i64 x.index]) :: persR (fun w => ∀ (j : Nat) p, ((bl.take k).map keyOf)[j]? = some p → KeyR w ((vs.drop (j * 2)).take 2) p) :: growR 153 3 PutR (.slice (some ad) n c) bl :: blkR g 43 #[.slice (some ad) n c, .slice B ws.length d] :: growR 153 3 PutR (.slice B ws.length d) ws :: L) 6 [0, 1, 3, 4, 5])
      have h11 := ((h10.pers0 (R := fun w => KeyR w [.int .i64 x.region, .int .i64 x.index] (keyOf x)) (fun _ _ => rfl)).dn2.swap.pick (L' := rowR 52 2 (.slice A6 (k + 1) c6) (k + 1) (vs ++ [.int .i64 x.region, .int .i64 x.index]) :: persR (fun w => ∀ (j : Nat) p, ((bl.take k).map keyOf)[j]? = some p → KeyR w ((vs.drop (j * 2)).take 2) p) :: persR (fun w => KeyR w [.int .i64 x.region, .int .i64 x.index] (keyOf x)) :: growR 153 3 PutR (.slice (some ad) n c) bl :: blkR g 43 #[.slice (some ad) n c, .slice B ws.length d] :: growR 153 3 PutR (.slice B ws.length d) ws :: L) 3 [1, 0, 2]).snocGrow HQ2.out rfl HXL.out
      rw [← HT.out] at h11
      have H11 := hide h11
      clear h9 h10 h11
      go_roundg (n - (k + 1))
      case measure => have := HG.out; omega
      case rel => exact ⟨k + 1, A6, c6, rfl, by omega, rfl, by go_num, H11.out⟩
    · obtain rfl : k = n := by omega
      have htk : bl.take k = bl := List.take_of_length_le (by rw [← HN.out]; exact Nat.le_refl _)
      rw [htk] at h
      have HN2 := HN.out
      have H := hide h
      clear h htk HN2
      go_wp2_with fail
      go_ret
      exact ⟨_, rfl, (H.out.pick (L' := blkR g 43 #[.slice A k c, .slice B ws.length d] :: growR 153 3 PutR (.slice A k c) bl :: growR 153 3 PutR (.slice B ws.length d) ws :: growR 52 2 KeyR (.slice C k e) (bl.map keyOf) :: L) 4 [2, 1, 3, 0]).cacheC.swap⟩
end Go.Proofs.Ytbgknfdaaffeaaa
