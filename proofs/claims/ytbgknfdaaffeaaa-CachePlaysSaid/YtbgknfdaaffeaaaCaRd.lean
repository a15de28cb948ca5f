/- Cache: Read. -/
import Derived.Test.YtbgknfdaaffeaaaCaX
namespace Go.Proofs.Ytbgknfdaaffeaaa
open Go.RowKit Go.Shelf

def readB (bl : List PU) (r i : Int) : List PU := if 0 ≤ idxP (keyIs r i) 0 bl then bl.eraseIdx (idxP (keyIs r i) 0 bl).toNat ++ (bl[(idxP (keyIs r i) 0 bl).toNat]?).toList else bl
def readD (bl : List PU) (r i : Int) : List Int := if 0 ≤ idxP (keyIs r i) 0 bl then ((bl[(idxP (keyIs r i) 0 bl).toNat]?).map PU.data).getD [] else []
set_option maxHeartbeats 2000000 in
set_option maxRecDepth 100000 in
theorem read_st {M0 : Imm} {L : List Res} (g : Nat) (bl wr : List PU) (r i : Int) (w : World) (hl : bl.length ≤ 1000000) (hd : ∀ x ∈ bl, x.data.length ≤ 140737488355328) (h : St M0 w (cacheR g bl wr :: L)) :
    Calls Try.prog 23 #[.pointer (some ⟨g, 0, none⟩), .agg #[.int .i64 r, .int .i64 i]] w fun e w' => ∃ v, e = .returned (.tuple #[v, .bool (decide (0 ≤ idxP (keyIs r i) 0 bl))]) ∧ St M0 w' (intsR .u8 v (readD bl r i) :: cacheR g (readB bl r i) wr :: L) := by
  have h1 := h.alloc 52 #[.int .i64 r, .int .i64 i]
  have y0 := (h1.blk 0 rfl).cell 0
  have y1 := (h1.blk 0 rfl).cell 1
  have H := hide (h1.pick (L' := cacheR g bl wr :: L) 2 [1])
  clear h h1
  go_enter Try.func23, Try.ntmps23
  go_wp2_with fail
  refine (find_st g bl wr r i _ H.out).mono ?_
  rintro e w2 ⟨rfl, h2⟩
  have H2 := hide h2
  clear H h2 y0 y1
  rcases idxP_spec (keyIs r i) bl 0 with ⟨hk, _⟩ | ⟨k, x, hk, hx, _⟩
  · have E1 := hide (show readB bl r i = bl by unfold readB; rw [hk, if_neg (by omega)])
    have E2 := hide (show readD bl r i = [] by unfold readD; rw [hk, if_neg (by omega)])
    have E3 := hide (show decide (0 ≤ idxP (keyIs r i) 0 bl) = false by rw [hk]; rfl)
    rw [hk]
    clear hk
    go_wp2_with fail
    go_ret2
    exact ⟨.slice none 0 0, by rw [E3.out]; try rfl, by rw [E1.out, E2.out]; exact H2.out.pers0 (fun w' _ => Ints.none_ w' _)⟩
  · rw [Nat.zero_add] at hk
    have E1 := hide (show readB bl r i = bl.eraseIdx k ++ [x] by unfold readB; simp only [hk]; rw [if_pos (by omega), Int.toNat_natCast, hx]; rfl)
    have E2 := hide (show readD bl r i = x.data by unfold readD; simp only [hk]; rw [if_pos (by omega), Int.toNat_natCast, hx]; rfl)
    have E3 := hide (show decide (0 ≤ idxP (keyIs r i) 0 bl) = true by rw [hk]; exact decide_eq_true (by omega))
    have hdx : x.data.length ≤ 140737488355328 := hd x (List.mem_of_getElem? hx)
    have HX := hide hx
    rw [hk]
    clear hk hx hd
    have k0 : (0 : Int) ≤ (k : Int) := by omega
    have k1 : ¬ (k : Int) < 0 := by omega
    have k2 : decide ((k : Int) < 0) = false := decide_eq_false k1
    go_wp2_with fail
    refine (use_st g bl wr k x _ HX.out hl H2.out).mono ?_
    rintro e w3 ⟨rfl, h3⟩
    obtain ⟨q, hq⟩ : ∃ q, q = (bl.eraseIdx k).length := ⟨_, rfl⟩
    obtain ⟨A3, c3, B3, d3, hc3, _, hcm3, _, h4⟩ := h3.cacheO
    obtain ⟨m, hm⟩ : ∃ m, m = (bl.eraseIdx k ++ [x]).length := ⟨_, rfl⟩
    have hmq : m = q + 1 := by rw [hm, List.length_append, hq]; rfl
    have hql : q ≤ 1000000 := by
      have := List.length_eraseIdx_le bl k
      omega
    rw [← hm] at h4 hc3
    have hxq : (bl.eraseIdx k ++ [x])[q]? = some x := by rw [hq, List.getElem?_append_right (Nat.le_refl _), Nat.sub_self]; rfl
    obtain ⟨ad, cs, rfl, _, hcs, ⟨v, rfl, hv⟩, -, h5⟩ := (h4.pick (L' := growR 153 3 PutR (.slice A3 m c3) (bl.eraseIdx k ++ [x]) :: blkR g 43 #[.slice A3 m c3, .slice B3 wr.length d3] :: growR 153 3 PutR (.slice B3 wr.length d3) wr :: L) 3 [1, 0, 2]).elemG (by omega) hxq
    obtain ⟨X, xc, rfl, _, _, _⟩ := id hv
    obtain ⟨e0, e1, e2⟩ := cells3 hcs
    have x0 := (h5.blk 2 rfl).cell 0
    have H5 := hide h5
    have HQ := hide hq
    have HM := hide hm
    have m0 : (0 : Int) ≤ (q : Int) := by omega
    have m1 : (q : Int) < (m : Int) := by omega
    have m2 : IntKind.i64.wrap ((m : Int) - 1) = (q : Int) := by rw [IntWalk.i64_in _ (by omega)]; omega
    clear hq hm hmq hql hc3 h3 h4 h5 hv hcs hxq e0 e1 H2 hl
    go_wp2_with fail
    refine region_tail 13 (by kernel_rfl) (by kernel_rfl) (fun W hW => ?_)
    have H6 := hide (H5.out.drew)
    rw [← hW] at H6
    have x1 : W.cell? ⟨g, 0, none⟩ = some (.slice (some ad) m c3) := by rw [hW]; exact x0
    have e3 : W.cell? ⟨(ad.add (q * 3)).block, (ad.add (q * 3)).off + 2, none⟩ = some (.slice X x.data.length xc) := by rw [hW]; exact e2
    clear hW H5 x0 e2
    simp only [List.take_succ_cons, List.take_zero, List.drop_succ_cons, List.drop_zero]
    repeat still_step
    try refine wpStill_nil ?_
    have h7 := (H6.out.pers1 (R' := fun w' => Ints w' .u8 (.slice X x.data.length xc) x.data) (fun w' hp => by
      obtain ⟨v, hv, hi⟩ := hp
      simp only [List.cons.injEq, and_true, true_and] at hv
      rw [hv]
      exact hi))
    have hcl := clone_st X x.data.length xc x.data W (h7.get 0 rfl).sl.2.2.2 (by omega) h7
    have HCL := hide hcl
    clear h7 hcl H6 x1 e3
    go_wp2_with fail
    refine HCL.out.mono ?_
    rintro e w5 ⟨v5, rfl, h8⟩
    have H8 := hide (h8.ints.pick (L' := intsR .u8 v5 x.data :: blkR g 43 #[.slice (some ad) m c3, .slice B3 wr.length d3] :: growR 153 3 PutR (.slice (some ad) m c3) (bl.eraseIdx k ++ [x]) :: growR 153 3 PutR (.slice B3 wr.length d3) wr :: L) 5 [0, 3, 2, 4])
    clear h8 HCL
    go_wp2_with fail
    go_ret2
    refine ⟨v5, by rw [E3.out]; try rfl, ?_⟩
    rw [E1.out, E2.out]
    exact (H8.out.pick (L' := blkR g 43 #[.slice (some ad) m c3, .slice B3 wr.length d3] :: growR 153 3 PutR (.slice (some ad) m c3) (bl.eraseIdx k ++ [x]) :: growR 153 3 PutR (.slice B3 wr.length d3) wr :: intsR .u8 v5 x.data :: L) 4 [1, 2, 3, 0]).cacheC.swap
end Go.Proofs.Ytbgknfdaaffeaaa
