/- The document's disk: Crash. -/
import Derived.Test.YthddgnnbgldfmaaRefNW
import Derived.Deep.CutRange
namespace Go.Proofs.Ythddgnnbgldfmaa
open Go.RowKit

section
variable {M0 : Imm} {w : World} {L : List Res} {e : TypeId} {size n c : Nat} {xs : List Value}
theorem St.rowAddr {A : Option Addr} (h : St M0 w (rowR e size (.slice A n c) n xs :: L)) (hn : 0 < n) : ∃ b, A = some ⟨b, 0, none⟩ := by
  rcases (h.row 0 rfl).2 with ⟨_, h0⟩ | ⟨g, cap, cur, e1, _⟩
  · omega
  · injection e1 with e1 _ _
    exact ⟨g, e1⟩
theorem splice_one {α : Type} (xs : List α) (i : Nat) (u : α) (h : i < xs.length) : splice xs i [u] = xs.set i u := by
  unfold splice
  rw [List.set_eq_take_append_cons_drop, if_pos h]
  simp
theorem St.rowSet {b : Nat} (h : St M0 w (rowR e size (.slice (some ⟨b, 0, none⟩) n c) n xs :: L)) (i : Nat) (u : Value) (hi : i < n * size) : St M0 (w.setCell ⟨b, i, none⟩ u) (rowR e size (.slice (some ⟨b, 0, none⟩) n c) n (xs.set i u) :: L) := by
  have hown := h.row 0 rfl
  have h1 := own_setCells (vs := [u]) hown i hi
  rw [splice_one xs i u (by rw [hown.1]; exact hi)] at h1
  have hf : Fr (fun x => (Value.slice (some ⟨b, 0, none⟩) n c).ownBlock = some x) w (w.setCell ⟨b, i, none⟩ u) := by
    refine Fr.setCell (Fr.refl _ _) ?_ u
    exact fun _ => rfl
  exact h.app h1 hf (.inl rfl)
end
theorem splice_more (T b : List Int) (o j : Nat) (hj : j < b.length) (ho : o + j < T.length) : (splice T o (b.take j)).set (o + j) b[j] = splice T o (b.take (j + 1)) := by
  unfold splice
  have e1 : (b.take j).length = j := by rw [List.length_take]; omega
  have e2 : (b.take (j + 1)).length = j + 1 := by rw [List.length_take]; omega
  rw [e1, e2]
  have e3 : (T.take o ++ b.take j).length = o + j := by rw [List.length_append, e1, List.length_take]; omega
  rw [List.set_append_right _ _ (by omega), e3, Nat.sub_self, List.drop_eq_getElem_cons ho, List.set_cons_zero, List.take_succ_eq_append_getElem hj]
  simp only [List.append_assoc, List.cons_append, List.nil_append, Nat.add_assoc]
def pickAt (picks : List Int) (k : Nat) : Int := if k < picks.length then picks.getD k 0 else 0
theorem keeps_at (picks : List Int) (k : Nat) : keeps picks k = (max 0 (min (pickAt picks k) 64)).toNat := by
  unfold keeps pickAt
  split <;> rfl
theorem wr_first {w : World} {B : Option Addr} {n c k : Nat} {css : Nat → List Value} {xs : List (Nat × List Int)} {p : Nat × List Int} (h : RowsC w 2 WrR (.slice B n c) css xs) (hx : xs[k]? = some p) (hp : p.2.length = 64) :
    ∃ ad ad2 c2, B = some ad ∧ css k = [.int .i64 (p.1 : Nat), .slice (some ad2) 64 c2] ∧ 64 ≤ c2 ∧ c2 ≤ maxLen := by
  obtain ⟨A, c', e, _, _, h3⟩ := h
  injection e with e1 e2 e3
  subst e1
  obtain ⟨ad, rfl, _, _, v, hv, A2, c2, rfl, h4, h5, h6⟩ := h3 k p hx
  obtain ⟨ad2, rfl, _⟩ := h6.2 (by omega)
  rw [hp] at hv h4
  exact ⟨ad, ad2, c2, rfl, hv, h4, h5⟩
theorem wr_at {w : World} {ad ad2 : Addr} {n c k c2 : Nat} {css : Nat → List Value} {xs : List (Nat × List Int)} {p : Nat × List Int} (h : RowsC w 2 WrR (.slice (some ad) n c) css xs) (hx : xs[k]? = some p) (hc : css k = [.int .i64 (p.1 : Nat), .slice (some ad2) 64 c2]) :
    w.cell? (ad.add (k * 2)) = some (.int .i64 (p.1 : Nat)) ∧ w.cell? ⟨(ad.add (k * 2)).block, (ad.add (k * 2)).off + 1, none⟩ = some (.slice (some ad2) 64 c2) ∧ ∀ (j : Nat) (hj : j < p.2.length), w.cell? (ad2.add j) = some (.int .u8 p.2[j]) := by
  obtain ⟨A, c', e, _, _, h3⟩ := h
  injection e with e1 e2 e3
  subst e1
  obtain ⟨ad', e', _, hcs, v, hv, A2, c2', hv2, h4, h5, h6⟩ := h3 k p hx
  injection e' with e'
  subst e'
  rw [hc] at hcs hv
  obtain ⟨k0, k1⟩ := cells2 hcs
  refine ⟨k0, k1, fun j hj => ?_⟩
  simp only [List.cons.injEq, and_true, true_and] at hv
  rw [← hv] at hv2
  injection hv2 with hA _ _
  subst hA
  obtain ⟨ad3, u, e3, _, _, hu, hcu⟩ := h6.at_ (k := j) (by simpa using hj)
  injection e3 with e3
  subst e3
  rw [List.getElem?_map, List.getElem?_eq_getElem hj] at hu
  rw [hcu]
  exact hu.symm

set_option maxRecDepth 100000 in
set_option maxHeartbeats 1000000 in
theorem rcrash_st {M0 : Imm} {L : List Res} (g : Nat) (E : RD) (n : Nat) (v : Value) (picks : List Int) (w : World) (ho : E.ok n) (hp : E.pend.length < 1000000) (h : St M0 w (rfR g E :: intsR .i64 v picks :: L)) :
    Calls Try.prog 38 #[.pointer (some ⟨g, 0, none⟩), v] w fun e w' => e = .returned (.tuple #[]) ∧ St M0 w' (rfR g (E.crash picks) :: intsR .i64 v picks :: L) := by
  obtain ⟨P, cp, rfl, hpc, hpm, _⟩ := h.get 1 rfl
  unfold maxLen at hpm
  have hn2 := ho.n2
  have HO := hide ho
  have HS := hide ho.hs
  have hK : Hid (E.crash picks = ⟨tear picks E.sure 0 E.pend, [], false, E.left, false⟩) := hide rfl
  obtain ⟨sure, pend, fused, left, down⟩ := E
  obtain ⟨A, c, B, d, h1, h2, h3, h4, h⟩ := h.rf
  simp only at h h1 h3 hp HS
  obtain ⟨css, h⟩ := h.up2.openRows
  have h := h.dn2
  have c0 := ((h.junk (.cells #[] 5)).blk 0 rfl).cell 0
  have hemp := fun w => (show (Instr.buildSlice 50 0 #[]).run Try.prog w = .ok (.slice (some ⟨w.heap.size, 0, none⟩) 0 0) (w.alloc (.cells #[] 5)) by kernel_rfl)
  have H := hide h
  clear h ho
  have hsl : sure.length ≤ 32768 := by rw [HS.out]; omega
  go_enter Try.func38, Try.ntmps38
  go_wp2_with (at_builtin; refine St.app_step u8_row4 (H.out.litRow 5 1 0 [] rfl (by omega) w.heap.size rfl) rfl _ _ rfl rfl A sure.length c rfl (bv sure) ((H.out.litRow 5 1 0 [] rfl (by omega) w.heap.size rfl).get 2 rfl).sl.2.2.2 (bv_one _) (by omega) (by omega) ?_; intro A4 c4 w4 h4; simp only [Nat.zero_add, List.nil_append] at h4; rw [Nat.zero_add]; have H4 := hide h4; clear h4)
  clear c0 H
  go_loopg [5] pend.length (fun gh i wr => ∃ k : Nat, gh = pend.length - k ∧ k ≤ pend.length ∧ i = .int .i64 k ∧ St M0 wr (rowR 5 1 (.slice A4 sure.length c4) sure.length (bv (tear picks sure 0 (pend.take k))) :: blkR g 91 #[.slice A sure.length c, .slice B pend.length d, .bool fused, .int .i64 left, .bool down] :: intsR .u8 (.slice A sure.length c) sure :: persR (fun w' => RowsC w' 2 WrR (.slice B pend.length d) css pend) :: intsR .i64 (.slice P picks.length cp) picks :: L))
  case atStart => exact ⟨0, by omega, Nat.zero_le _, rfl, H4.out⟩
  case round =>
    clear H4
    obtain ⟨k, hgk, hk, rfl, h⟩ := hrel
    have c1 := (h.blk 1 rfl).cell 1
    by_cases hkn : k < pend.length
    · have hx := List.getElem?_eq_getElem hkn
      have hp1 := HO.out.hp _ (List.getElem_mem hkn)
      have HT := hide (tear_take (picks := picks) (s := sure) hkn)
      generalize pend[k] = p at hx hp1 HT
      obtain ⟨pi, pb⟩ := p
      simp only at hp1 HT
      obtain ⟨hpi, hpb⟩ := hp1
      obtain ⟨ad, ad2, c2, rfl, hcs, hc2, hcm⟩ := wr_first (h.get 3 rfl) hx hpb
      have hsz : 0 < sure.length := by rw [HS.out]; omega
      obtain ⟨b, rfl⟩ := h.rowAddr hsz
      have HCS := hide hcs
      have HX := hide hx
      have HPB := hide hpb
      have HG := hide hgk
      have H := hide h
      clear h hcs hx hpb hgk
      go_upto_if 26 with fail
      go_cut [6] (fun t wx => t = .int .i64 (pickAt picks k) ∧ wx = wr)
      case first =>
        by_cases hkp : k < picks.length
        · obtain ⟨adp, u, rfl, _, _, hxu, hcu⟩ := (H.out.get 4 rfl).sl.2.2.2.at_ (k := k) (by simpa using hkp)
          obtain rfl : u = .int .i64 (pickAt picks k) := by
            unfold pickAt
            rw [if_pos hkp, List.getD_eq_getElem?_getD]
            rw [List.getElem?_map, List.getElem?_eq_getElem hkp] at hxu
            rw [List.getElem?_eq_getElem hkp]
            simpa using hxu.symm
          go_wp2_with fail
          go_meet
          exact ⟨rfl, rfl⟩
        · have HKE : Hid (pickAt picks k = 0) := by unfold pickAt; rw [if_neg hkp]; exact hide rfl
          go_wp2_with fail
          go_meet
          exact ⟨by rw [HKE.out], rfl⟩
      case rest =>
        obtain ⟨rfl, rfl⟩ := hcut
        have hTL : (tear picks sure 0 (pend.take k)).length = sure.length := by
          rw [HS.out]
          exact tear_length picks _ sure 0 n HS.out (fun p hp => HO.out.hp p (List.mem_of_mem_take hp))
        generalize tear picks sure 0 (pend.take k) = T at H HT hTL
        have hkl := keeps_le picks k
        have hkq := keeps_at picks k
        generalize keeps picks k = kp at HT hkl hkq
        generalize pickAt picks k = q at hkq
        have HKQ := hide hkq
        have HTL := hide hTL
        clear hkq hTL c1
        have hrow : (pi : Int) * 64 + 64 ≤ (sure.length : Int) := by rw [HS.out]; omega
        go_wp2_with fail
        go_loopg [7] kp (fun gh i wr => ∃ j : Nat, gh = kp - j ∧ j ≤ kp ∧ i = .int .i64 j ∧ St M0 wr (rowR 5 1 (.slice (some ⟨b, 0, none⟩) sure.length c4) sure.length (bv (splice T (pi * 64) (pb.take j))) :: blkR g 91 #[.slice A sure.length c, .slice (some ad) pend.length d, .bool fused, .int .i64 left, .bool down] :: intsR .u8 (.slice A sure.length c) sure :: persR (fun w' => RowsC w' 2 WrR (.slice (some ad) pend.length d) css pend) :: intsR .i64 (.slice P picks.length cp) picks :: L))
        case atStart => exact ⟨0, by omega, Nat.zero_le _, rfl, by rw [List.take_zero, splice_nil]; exact H.out⟩
        case round =>
          clear H
          obtain ⟨j, hgj, hj, rfl, h⟩ := hrel
          have HGJ := hide hgj
          have H := hide h
          clear hgj h
          by_cases hjk : j < kp
          · have hj64 : (j : Int) < 64 := by omega
            have hjq : (j : Int) < q := by have := HKQ.out; omega
            go_wp2_with fail
            refine region_tail 24 (by kernel_rfl) (by kernel_rfl) (fun W hW => ?_)
            have hw : St M0 W _ := hW ▸ H.out.drew
            have HW := hide hw
            clear hW hw
            have c1 := (HW.out.blk 1 rfl).cell 1
            obtain ⟨k0, k1, k2⟩ := wr_at (HW.out.get 3 rfl) HX.out HCS.out
            have k2 := k2 j (by rw [HPB.out]; omega)
            simp only at k0
            have w1 : IntKind.i64.wrap (64 * (pi : Int)) = 64 * (pi : Int) := by rw [IntKind.wrap_i64]; omega
            have w2 : IntKind.i64.wrap (64 * (pi : Int) + (j : Int)) = 64 * (pi : Int) + (j : Int) := by rw [IntKind.wrap_i64]; omega
            have n0 : (0 : Int) ≤ 64 * (pi : Int) + (j : Int) := by omega
            have n1 : 64 * (pi : Int) + (j : Int) < (sure.length : Int) := by omega
            have t1 := own_there ((HW.out.row 0 rfl)) (64 * pi + j) 1 (by omega) 0 (by omega)
            simp only [Nat.add_zero] at t1
            simp only [List.take_succ_cons, List.take_zero, List.drop_succ_cons, List.drop_zero]
            repeat still_step
            refine wpStill_nil ?_
            obtain ⟨t0, t1⟩ := t1
            obtain ⟨y, t0⟩ := Option.isSome_iff_exists.1 t0
            go_wp2_with fail
            go_roundg (kp - (j + 1))
            case measure => have := HGJ.out; omega
            case rel =>
              refine ⟨j + 1, rfl, by omega, by go_num, ?_⟩
              have hs := HW.out.rowSet (64 * pi + j) (.int .u8 (pb[j]'(by rw [HPB.out]; omega))) (by omega)
              have e : (bv (splice T (pi * 64) (pb.take j))).set (64 * pi + j) (.int .u8 (pb[j]'(by rw [HPB.out]; omega))) = bv (splice T (pi * 64) (pb.take (j + 1))) := by
                rw [Nat.mul_comm 64 pi, ← splice_more T pb (pi * 64) j (by rw [HPB.out]; omega) (by rw [HTL.out]; omega)]
                exact List.map_set.symm
              rw [e] at hs
              exact hs
          · have hjk2 : j = kp := by omega
            have HJK := hide hjk2
            clear hjk2
            have key : St M0 wr (rowR 5 1 (.slice (some ⟨b, 0, none⟩) sure.length c4) sure.length (bv (tear picks sure 0 (pend.take (k + 1)))) :: blkR g 91 #[.slice A sure.length c, .slice (some ad) pend.length d, .bool fused, .int .i64 left, .bool down] :: intsR .u8 (.slice A sure.length c) sure :: persR (fun w' => RowsC w' 2 WrR (.slice (some ad) pend.length d) css pend) :: intsR .i64 (.slice P picks.length cp) picks :: L) := by
              rw [HT.out, ← HJK.out]
              exact H.out
            have HKEY := hide key
            clear key
            by_cases hj64 : (j : Int) < 64
            · have hjq : ¬ (j : Int) < q := by have := HKQ.out; have := HJK.out; omega
              go_wp2_with fail
              go_roundg (pend.length - (k + 1))
              case measure => have := HG.out; omega
              case rel => exact ⟨k + 1, rfl, by omega, by go_num, HKEY.out⟩
            · go_wp2_with fail
              go_roundg (pend.length - (k + 1))
              case measure => have := HG.out; omega
              case rel => exact ⟨k + 1, rfl, by omega, by go_num, HKEY.out⟩
    · have hkq : k = pend.length := by omega
      have key : St M0 wr (blkR g 91 #[.slice A sure.length c, .slice B pend.length d, .bool fused, .int .i64 left, .bool down] :: intsR .u8 (.slice A4 sure.length c4) (tear picks sure 0 pend) :: intsR .i64 (.slice P picks.length cp) picks :: L) := by
        rw [hkq, List.take_length] at h
        exact (h.pick 5 [0, 1, 4]).ints.swap
      have HKQ := hide hkq
      have f0 := (key.blk 0 rfl).frozen 0
      have f1 := (key.blk 0 rfl).frozen 1
      have f2 := (key.blk 0 rfl).frozen 2
      have f4 := (key.blk 0 rfl).frozen 4
      have b0 := (key.blk 0 rfl).cell 0
      have b1 := (key.blk 0 rfl).cell 1
      have b2 := (key.blk 0 rfl).cell 2
      have b4 := (key.blk 0 rfl).cell 4
      have HKEY := hide key
      clear key hkq hgk h
      go_wp2_with fail
      go_end0
      refine ⟨rfl, ?_⟩
      rw [hK.out]
      have h8 := ((((((HKEY.out.set_ 0 (.slice A4 sure.length c4)).set_ 1 (.slice none 0 0)).set_ 2 (.bool false)).set_ 4 (.bool false)).nilGrow 93 2 WrR).rowsGrow).dn2
      exact St.addRf h8

end Go.Proofs.Ythddgnnbgldfmaa
