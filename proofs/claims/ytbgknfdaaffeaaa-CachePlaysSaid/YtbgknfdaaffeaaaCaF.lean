/- Cache: what it holds; find, dirty. -/
import Derived.Test.YtbgknfdaaffeaaaCaI
import Derived.Shelf.Abstract
namespace Go.Proofs.Ytbgknfdaaffeaaa
open Go.RowKit Go.Shelf

def keyIs (r i : Int) (x : PU) : Bool := x.region == r && x.index == i
def cacheR (g : Nat) (bl wr : List PU) : Res := exR fun p : Value × Value => starR (blkR g 43 #[p.1, p.2]) (starR (growR 153 3 PutR p.1 bl) (growR 153 3 PutR p.2 wr))
theorem St.cacheO {M0 : Imm} {w : World} {L : List Res} {g : Nat} {bl wr : List PU} (h : St M0 w (cacheR g bl wr :: L)) :
    ∃ A c B d, bl.length ≤ c ∧ wr.length ≤ d ∧ c ≤ 9223372036854775807 ∧ d ≤ 9223372036854775807 ∧ St M0 w (blkR g 43 #[.slice A bl.length c, .slice B wr.length d] :: growR 153 3 PutR (.slice A bl.length c) bl :: growR 153 3 PutR (.slice B wr.length d) wr :: L) := by
  obtain ⟨⟨v, u⟩, h1⟩ := h.ex
  have h2 := h1.star
  have h3 := h2.swap.star
  obtain ⟨A, c, rfl, hc, hcm⟩ := h3.growLen
  obtain ⟨B, d, rfl, hd, hdm⟩ := h3.swap.growLen
  exact ⟨A, c, B, d, hc, hd, by unfold maxLen at hcm; omega, by unfold maxLen at hdm; omega, h3.up2⟩
theorem St.cacheC {M0 : Imm} {w : World} {L : List Res} {g : Nat} {bl wr : List PU} {v u : Value} (h : St M0 w (blkR g 43 #[v, u] :: growR 153 3 PutR v bl :: growR 153 3 PutR u wr :: L)) : St M0 w (cacheR g bl wr :: L) :=
  St.addEx (f := fun p : Value × Value => starR (blkR g 43 #[p.1, p.2]) (starR (growR 153 3 PutR p.1 bl) (growR 153 3 PutR p.2 wr))) (v, u) (h.dn2.addStar.swap.addStar)

theorem fclo_st {M0 : Imm} {L : List Res} (b : Nat) (r i : Int) (y : PU) (v : Value) (W : World) (h : St M0 W L) (j : Nat) (hj : L[j]? = some (blkR b 52 #[.int .i64 r, .int .i64 i])) :
    Calls Try.prog 134 #[putV y v, .pointer (some ⟨b, 0, none⟩)] W fun e W' => e = .returned (.bool (keyIs r i y)) ∧ Fr Non W W' := by
  obtain ⟨yr, yi, d⟩ := y
  have h1 := h.alloc 153 #[.int .i64 yr, .int .i64 yi, v]
  have y0 : (W.alloc (.cells #[.int .i64 yr, .int .i64 yi, v] 153)).cell? ⟨b, 0, none⟩ = some (.int .i64 r) := (h1.blk (j + 1) hj).cell 0
  have y1 : (W.alloc (.cells #[.int .i64 yr, .int .i64 yi, v] 153)).cell? ⟨b, 1, none⟩ = some (.int .i64 i) := (h1.blk (j + 1) hj).cell 1
  clear h h1 hj
  go_enter Try.func134, Try.ntmps134
  by_cases e1 : yr = r
  · by_cases e2 : yi = i
    · subst e1
      subst e2
      go_wp2
      go_ret
      exact ⟨by rw [show keyIs yr yi ⟨yr, yi, d⟩ = true by simp [keyIs]]; try rfl, (Fr.refl _ _).alloc _⟩
    · subst e1
      have hk : keyIs yr i ⟨yr, yi, d⟩ = false := by simp [keyIs, e2]
      have b2 : (yi == i) = false := isF e2
      go_wp2
      go_ret
      exact ⟨by rw [hk]; try rfl, (Fr.refl _ _).alloc _⟩
  · have hk : keyIs r i ⟨yr, yi, d⟩ = false := by simp [keyIs, e1]
    go_wp2
    go_ret
    exact ⟨by rw [hk]; try rfl, (Fr.refl _ _).alloc _⟩
theorem dclo_st {M0 : Imm} {L : List Res} (b : Nat) (r i : Int) (y : PU) (v : Value) (W : World) (h : St M0 W L) (j : Nat) (hj : L[j]? = some (blkR b 52 #[.int .i64 r, .int .i64 i])) :
    Calls Try.prog 137 #[putV y v, .pointer (some ⟨b, 0, none⟩)] W fun e W' => e = .returned (.bool (keyIs r i y)) ∧ Fr Non W W' := by
  obtain ⟨yr, yi, d⟩ := y
  have h1 := h.alloc 153 #[.int .i64 yr, .int .i64 yi, v]
  have y0 : (W.alloc (.cells #[.int .i64 yr, .int .i64 yi, v] 153)).cell? ⟨b, 0, none⟩ = some (.int .i64 r) := (h1.blk (j + 1) hj).cell 0
  have y1 : (W.alloc (.cells #[.int .i64 yr, .int .i64 yi, v] 153)).cell? ⟨b, 1, none⟩ = some (.int .i64 i) := (h1.blk (j + 1) hj).cell 1
  clear h h1 hj
  go_enter Try.func137, Try.ntmps137
  by_cases e1 : yr = r
  · by_cases e2 : yi = i
    · subst e1
      subst e2
      go_wp2
      go_ret
      exact ⟨by rw [show keyIs yr yi ⟨yr, yi, d⟩ = true by simp [keyIs]]; try rfl, (Fr.refl _ _).alloc _⟩
    · subst e1
      have hk : keyIs yr i ⟨yr, yi, d⟩ = false := by simp [keyIs, e2]
      have b2 : (yi == i) = false := isF e2
      go_wp2
      go_ret
      exact ⟨by rw [hk]; try rfl, (Fr.refl _ _).alloc _⟩
  · have hk : keyIs r i ⟨yr, yi, d⟩ = false := by simp [keyIs, e1]
    go_wp2
    go_ret
    exact ⟨by rw [hk]; try rfl, (Fr.refl _ _).alloc _⟩

set_option maxHeartbeats 1000000 in
theorem find_st {M0 : Imm} {L : List Res} (g : Nat) (bl wr : List PU) (r i : Int) (w : World) (h : St M0 w (cacheR g bl wr :: L)) :
    Calls Try.prog 74 #[.pointer (some ⟨g, 0, none⟩), .agg #[.int .i64 r, .int .i64 i]] w fun e w' => e = .returned (.int .i64 (idxP (keyIs r i) 0 bl)) ∧ St M0 w' (cacheR g bl wr :: L) := by
  obtain ⟨A, c, B, d, _, _, _, _, h1⟩ := h.cacheO
  have h2 := h1.alloc 52 #[.int .i64 r, .int .i64 i]
  have x0 := (h2.blk 1 rfl).cell 0
  have H := hide (h2.pick (L' := growR 153 3 PutR (.slice A bl.length c) bl :: blkR w.heap.size 52 #[.int .i64 r, .int .i64 i] :: blkR g 43 #[.slice A bl.length c, .slice B wr.length d] :: growR 153 3 PutR (.slice B wr.length d) wr :: L) 4 [2, 0, 1, 3])
  clear h h1 h2
  go_enter Try.func74, Try.ntmps74
  go_wp2_with fail
  refine (indexG1_st 134 (.pointer (some ⟨w.heap.size, 0, none⟩)) (keyIs r i) bl A bl.length c _ (enters_of Try.func134 (by kernel_rfl) rfl) (fun x v W _ hW => (fclo_st w.heap.size r i x v W hW 1 rfl).mono (fun e W' ⟨he, hf⟩ => ⟨he, hW.grow hf⟩)) H.out).mono ?_
  rintro e w2 ⟨rfl, h⟩
  have H2 := hide (h.pick (L' := blkR g 43 #[.slice A bl.length c, .slice B wr.length d] :: growR 153 3 PutR (.slice A bl.length c) bl :: growR 153 3 PutR (.slice B wr.length d) wr :: L) 4 [2, 0, 3])
  clear H h x0
  go_wp2_with fail
  go_ret
  exact ⟨rfl, H2.out.cacheC⟩
set_option maxHeartbeats 1000000 in
theorem dirty_st {M0 : Imm} {L : List Res} (g : Nat) (bl wr : List PU) (r i : Int) (w : World) (h : St M0 w (cacheR g bl wr :: L)) :
    Calls Try.prog 78 #[.pointer (some ⟨g, 0, none⟩), .agg #[.int .i64 r, .int .i64 i]] w fun e w' => e = .returned (.bool (wr.any (keyIs r i))) ∧ St M0 w' (cacheR g bl wr :: L) := by
  obtain ⟨A, c, B, d, _, _, _, _, h1⟩ := h.cacheO
  have h2 := h1.alloc 52 #[.int .i64 r, .int .i64 i]
  have x0 := (h2.blk 1 rfl).cell 1
  have H := hide (h2.pick (L' := growR 153 3 PutR (.slice B wr.length d) wr :: blkR w.heap.size 52 #[.int .i64 r, .int .i64 i] :: blkR g 43 #[.slice A bl.length c, .slice B wr.length d] :: growR 153 3 PutR (.slice A bl.length c) bl :: L) 4 [3, 0, 1, 2])
  clear h h1 h2
  go_enter Try.func78, Try.ntmps78
  go_wp2_with fail
  refine (containsG_st 137 (.pointer (some ⟨w.heap.size, 0, none⟩)) (keyIs r i) wr B wr.length d _ (enters_of Try.func137 (by kernel_rfl) rfl) (fun x v W _ hW => (dclo_st w.heap.size r i x v W hW 1 rfl).mono (fun e W' ⟨he, hf⟩ => ⟨he, hW.grow hf⟩)) H.out).mono ?_
  rintro e w2 ⟨rfl, h⟩
  have H2 := hide (h.pick (L' := blkR g 43 #[.slice A bl.length c, .slice B wr.length d] :: growR 153 3 PutR (.slice A bl.length c) bl :: growR 153 3 PutR (.slice B wr.length d) wr :: L) 4 [2, 3, 0])
  clear H h x0
  go_wp2_with fail
  go_ret
  exact ⟨rfl, H2.out.cacheC⟩
end Go.Proofs.Ytbgknfdaaffeaaa
