/- The document's disk: what its methods do. -/
import Derived.Test.YthddgnnbgldfmaaRefM
import Derived.Test.YthddgnnbgldfmaaStRows
import Derived.Test.YthddgnnbgldfmaaRows
namespace Go.Proofs.Ythddgnnbgldfmaa
open Go.RowKit

def WrR (w : World) (cs : List Value) (p : Nat × List Int) : Prop := ∃ v, cs = [.int .i64 (p.1 : Nat), v] ∧ Ints w .u8 v p.2
def rfR (g : Nat) (E : RD) : Res := exR fun p : Value × Value => starR (blkR g 91 #[p.1, p.2, .bool E.fused, .int .i64 E.left, .bool E.down]) (starR (intsR .u8 p.1 E.sure) (rowsR 2 WrR p.2 E.pend))
section
variable {M0 : Imm} {w : World} {L : List Res} {g : Nat}
theorem St.rf {E : RD} (h : St M0 w (rfR g E :: L)) : ∃ A c B d, E.sure.length ≤ c ∧ c ≤ 9223372036854775807 ∧ E.pend.length ≤ d ∧ d ≤ 9223372036854775807 ∧
    St M0 w (blkR g 91 #[.slice A E.sure.length c, .slice B E.pend.length d, .bool E.fused, .int .i64 E.left, .bool E.down] :: intsR .u8 (.slice A E.sure.length c) E.sure :: rowsR 2 WrR (.slice B E.pend.length d) E.pend :: L) := by
  obtain ⟨⟨v, u⟩, h⟩ := h.ex
  have h := h.star.swap.star
  simp only at h
  obtain ⟨A, c, rfl, h1, h2, _⟩ := h.get 0 rfl
  obtain ⟨B, d, rfl, h3, h4⟩ := (h.getRows 1 rfl).slice
  exact ⟨A, c, B, d, h1, h2, h3, h4, h.up2⟩
theorem St.addRf {v u : Value} {sure : List Int} {pend : List (Nat × List Int)} {fused down : Bool} {left : Int} (h : St M0 w (blkR g 91 #[v, u, .bool fused, .int .i64 left, .bool down] :: intsR .u8 v sure :: rowsR 2 WrR u pend :: L)) : St M0 w (rfR g ⟨sure, pend, fused, left, down⟩ :: L) :=
  St.addEx (f := fun p : Value × Value => starR (blkR g 91 #[p.1, p.2, .bool fused, .int .i64 left, .bool down]) (starR (intsR .u8 p.1 sure) (rowsR 2 WrR p.2 pend))) (v, u) (h.dn2.addStar.swap.addStar)
end

theorem rlen_st {M0 : Imm} {L : List Res} (g : Nat) (E : RD) (w : World) (h : St M0 w (rfR g E :: L)) :
    Calls Try.prog 51 #[.pointer (some ⟨g, 0, none⟩)] w fun e w' => e = .returned (.int .i64 (E.len : Nat)) ∧ w = w' := by
  obtain ⟨A, c, B, d, h1, h2, h3, h4, h⟩ := h.rf
  have c0 := (h.blk 0 rfl).cell 0
  clear h
  unfold RD.len
  go_enter Try.func51, Try.ntmps51
  go_wp2
  go_ret
  exact ⟨by simp, rfl⟩

set_option maxHeartbeats 400000 in
theorem rdone_st {M0 : Imm} {L : List Res} (g : Nat) (E : RD) (w : World) (hl : E.lo) (h : St M0 w (rfR g E :: L)) :
    Calls Try.prog 52 #[.pointer (some ⟨g, 0, none⟩)] w fun e w' => e = .returned (.bool E.goes) ∧ St M0 w' (rfR g E.after :: L) := by
  have H0 := hide h
  obtain ⟨sure, pend, fused, left, down⟩ := E
  obtain ⟨A, c, B, d, h1, h2, h3, h4, h⟩ := h.rf
  simp only at h h1 h3
  have c2 := (h.blk 0 rfl).cell 2
  have c3 := (h.blk 0 rfl).cell 3
  have c4 := (h.blk 0 rfl).cell 4
  have f3 := (h.blk 0 rfl).frozen 3
  have f4 := (h.blk 0 rfl).frozen 4
  have H := hide h
  clear h
  cases down with
  | true =>
    go_enter Try.func52, Try.ntmps52
    go_wp2
    go_ret
    exact ⟨rfl, H0.out⟩
  | false =>
    cases fused with
    | false =>
      go_enter Try.func52, Try.ntmps52
      go_wp2
      go_ret
      exact ⟨rfl, H0.out⟩
    | true =>
      by_cases hz : left = 0
      · subst hz
        go_enter Try.func52, Try.ntmps52
        go_wp2
        go_ret
        exact ⟨rfl, St.addRf (H.out.set_ 4 (.bool true))⟩
      · have hb := isF hz
        have e1 : RD.goes ⟨sure, pend, true, left, false⟩ = true := by unfold RD.goes; rw [hb]; rfl
        have e2 : RD.after ⟨sure, pend, true, left, false⟩ = ⟨sure, pend, true, left - 1, false⟩ := by unfold RD.after; simp only [hb]; rfl
        have E1 := hide e1
        have E2 := hide e2
        clear e1 e2
        obtain ⟨hl1, hl2⟩ := hl rfl
        simp only at hl1 hl2
        go_enter Try.func52, Try.ntmps52
        go_wp2
        go_ret
        rw [E1.out, E2.out]
        exact ⟨rfl, St.addRf (H.out.set_ 3 (.int .i64 (left - 1)))⟩

theorem rfuse_st {M0 : Imm} {L : List Res} (g : Nat) (E : RD) (n : Int) (w : World) (h : St M0 w (rfR g E :: L)) :
    Calls Try.prog 40 #[.pointer (some ⟨g, 0, none⟩), .int .i64 n] w fun e w' => e = .returned (.tuple #[]) ∧ St M0 w' (rfR g (E.fuse n) :: L) := by
  obtain ⟨sure, pend, fused, left, down⟩ := E
  obtain ⟨A, c, B, d, h1, h2, h3, h4, h⟩ := h.rf
  simp only at h h1 h3
  have c2 := (h.blk 0 rfl).cell 2
  have c3 := (h.blk 0 rfl).cell 3
  have f2 := (h.blk 0 rfl).frozen 2
  have f3 := (h.blk 0 rfl).frozen 3
  have H := hide h
  clear h
  go_enter Try.func40, Try.ntmps40
  go_wp2
  go_end0
  exact ⟨rfl, St.addRf ((H.out.set_ 2 (.bool (decide (0 ≤ n)))).set_ 3 (.int .i64 n))⟩

set_option maxHeartbeats 400000 in
theorem rcopy_st {M0 : Imm} {L : List Res} (g : Nat) (E : RD) (w : World) (h : St M0 w (rfR g E :: L)) :
    Calls Try.prog 39 #[.pointer (some ⟨g, 0, none⟩)] w fun e w' => ∃ g', e = .returned (.pointer (some ⟨g', 0, none⟩)) ∧ St M0 w' (rfR g' E :: L) := by
  obtain ⟨sure, pend, fused, left, down⟩ := E
  obtain ⟨A, c, B, d, h1, h2, h3, h4, h⟩ := h.rf
  simp only at h h1 h3
  have c0 := (h.blk 0 rfl).cell 0
  have c1 := (h.blk 0 rfl).cell 1
  have c2 := (h.blk 0 rfl).cell 2
  have c3 := (h.blk 0 rfl).cell 3
  have c4 := (h.blk 0 rfl).cell 4
  have H := hide h
  clear h
  go_enter Try.func39, Try.ntmps39
  go_wp2
  refine region_tail 20 (by kernel_rfl) (by kernel_rfl) (fun W hW => ?_)
  have HW := hide (H.out.grow (show Fr Non w W by rw [hW]; exact (Fr.refl _ _).drew))
  clear H hW c0 c1 c2 c3 c4
  have c0 := (HW.out.blk 0 rfl).cell 0
  have c1 := (HW.out.blk 0 rfl).cell 1
  have c2 := (HW.out.blk 0 rfl).cell 2
  have c3 := (HW.out.blk 0 rfl).cell 3
  have c4 := (HW.out.blk 0 rfl).cell 4
  simp only [List.take_succ_cons, List.take_zero, List.drop_succ_cons, List.drop_zero]
  repeat still_step
  try refine wpStill_nil ?_
  go_wp2
  go_ret
  refine ⟨W.heap.size, rfl, ?_⟩
  exact St.addRf (HW.out.tail.alloc 91 #[.slice A sure.length c, .slice B pend.length d, .bool fused, .int .i64 left, .bool down])
/-- the last write of a sector, from the last one back -/
theorem lastW_drop (i : Nat) (l : List (Nat × List Int)) (j : Nat) (p : Nat × List Int) (h : l[j]? = some p) : lastW i (l.drop j) = match lastW i (l.drop (j + 1)) with | some b => some b | none => if p.1 = i then some p.2 else none := by
  have hj := (List.getElem?_eq_some_iff.1 h).1
  rw [List.drop_eq_getElem_cons hj]
  obtain rfl : l[j] = p := by simpa [List.getElem?_eq_getElem hj] using h
  rfl
theorem Ints.mid {w : World} {k : IntKind} {A A' : Option Addr} {n c lo q cc : Nat} {xs : List Int} (h : Ints w k (.slice A n c) xs) (hm : lo + q ≤ n) (hA : lo < n → A' = A.map (·.add lo)) (hcc : cc = c - lo) : Ints w k (.slice A' q cc) ((xs.drop lo).take q) := by
  subst hcc
  obtain ⟨h0, h1, h2, h3⟩ := h.sl
  have hl : ((xs.drop lo).take q).length = q := by rw [List.length_take, List.length_drop]; omega
  refine ⟨A', c - lo, by rw [hl], by rw [hl]; omega, by unfold maxLen; omega, by rw [List.length_map]; omega, fun hp => ?_⟩
  rw [hl] at hp
  obtain ⟨ad, e, hq, hb, hc⟩ := h3.2 (by omega)
  subst e
  refine ⟨ad.add lo, by rw [hA (by omega)]; rfl, trivial, by rw [addr_block]; exact hb, fun j u hu => ?_⟩
  rw [addr_add]
  refine hc (lo + j) u ?_
  rw [List.map_take, List.map_drop, List.getElem?_take] at hu
  split at hu
  · rwa [List.getElem?_drop] at hu
  · cases hu
theorem cells2 {w : World} {p : Addr} {a b : Value} (h : ∀ j u, [a, b][j]? = some u → w.cell? (p.add j) = some u) : w.cell? p = some a ∧ w.cell? ⟨p.block, p.off + 1, none⟩ = some b :=
  ⟨by simpa [Addr.add] using h 0 a rfl, by simpa [Addr.add] using h 1 b rfl⟩

set_option maxHeartbeats 1000000 in
theorem rread_st {M0 : Imm} {L : List Res} (g : Nat) (E : RD) (n : Nat) (i : Int) (w : World) (ho : E.ok n) (hp : E.pend.length < 1000000) (h : St M0 w (rfR g E :: L)) :
    Calls Try.prog 54 #[.pointer (some ⟨g, 0, none⟩), .int .i64 i] w fun e w' => ∃ v, e = .returned (.tuple #[v, .int .i64 (E.readE i)]) ∧ St M0 w' (intsR .u8 v (E.read i) :: rfR g E :: L) := by
  have H0 := hide h
  have hlen := ho.len
  have HL := hide (fun w' (h : St M0 w' (rfR g E :: L)) => rlen_st g E w' h)
  rw [hlen] at HL
  unfold RD.read RD.readE
  rw [hlen]
  obtain ⟨sure, pend, fused, left, down⟩ := E
  have hs := ho.hs
  have hn2 := ho.n2
  simp only at hs hp
  obtain ⟨A, c, B, d, h1, h2, h3, h4, h⟩ := h.rf
  simp only at h h1 h3
  have c0 := (h.blk 0 rfl).cell 0
  have c1 := (h.blk 0 rfl).cell 1
  by_cases hneg : i < 0
  · rw [if_pos (.inl hneg), if_pos (.inl hneg)]
    clear h
    go_enter Try.func54, Try.ntmps54
    go_wp2
    go_ret2
    exact ⟨_, rfl, H0.out.pers0 (fun w' _ => Ints.none_ w' _)⟩
  by_cases hbig : (n : Int) ≤ i
  · rw [if_pos (.inr hbig), if_pos (.inr hbig)]
    clear h
    go_enter Try.func54, Try.ntmps54
    go_wp2_with (go_at_call 51; refine (HL.out _ H0.out).mono ?_; rintro e w' ⟨rfl, rfl⟩)
    go_ret2
    exact ⟨_, rfl, H0.out.pers0 (fun w' _ => Ints.none_ w' _)⟩
  rw [if_neg (by omega), if_neg (by omega)]
  obtain ⟨k, rfl⟩ := Int.eq_ofNat_of_zero_le (show 0 ≤ i by omega)
  rw [show ((k : Int)).toNat = k by omega]
  have H := hide h
  have HS := hide hs
  have HA1 : Hid (∀ b, lastW k pend = some b → RD.at_ ⟨sure, pend, fused, left, down⟩ k = b) := hide (fun b hb => by unfold RD.at_; simp only [hb])
  have HA2 : Hid (lastW k pend = none → RD.at_ ⟨sure, pend, fused, left, down⟩ k = (sure.drop (64 * k)).take 64) := hide (fun hb => by unfold RD.at_; simp only [hb])
  have HLast : Hid (∀ (l : List (Nat × List Int)) (t : Nat) (b : List Int), lastW k (l.drop t) = some b → lastW k l = some b) := hide (fun l t b => by
    induction t generalizing l with
    | zero => intro h; exact h
    | succ t ih =>
      intro h
      cases l with
      | nil => simp [lastW] at h
      | cons p r =>
        have := ih r (by simpa using h)
        simp only [lastW, this])
  generalize RD.at_ ⟨sure, pend, fused, left, down⟩ k = res at *
  clear h hs
  generalize hq : pend.length = q at *
  have HQ := hide hq
  clear hq
  go_enter Try.func54, Try.ntmps54
  go_wp2_with (go_at_call 51; refine (HL.out _ H0.out).mono ?_; rintro e w' ⟨rfl, rfl⟩)
  go_loop [6] (fun x => ∃ j : Nat, j ≤ q ∧ x = .int .i64 ((j : Int) - 1) ∧ lastW k (pend.drop j) = none) (fun x => (intOf x + 1).toNat)
  case atStart => exact ⟨q, Nat.le_refl _, rfl, by rw [List.drop_of_length_le (by rw [HQ.out]; exact Nat.le_refl _)]; rfl⟩
  case round =>
    obtain ⟨j, hj, rfl, hlw⟩ := hrel
    have HLW := hide hlw
    clear hlw
    by_cases hlt : 0 < j
    · obtain ⟨t, rfl⟩ : ∃ t, j = t + 1 := ⟨j - 1, by omega⟩
      have ht : t < q := by omega
      have hx := List.getElem?_eq_getElem (l := pend) (i := t) (by rw [HQ.out]; exact ht)
      generalize pend[t]'(by rw [HQ.out]; exact ht) = p at hx
      have hld := lastW_drop k pend t p hx
      rw [HLW.out] at hld
      simp only at hld
      obtain ⟨ad, cs, rfl, hl, hcs, ⟨vb, rfl, hI⟩, he⟩ := H.out.elem 2 rfl hx
      obtain ⟨k0, k1⟩ := cells2 hcs
      obtain ⟨A2, c2, rfl, _, _, _⟩ := id hI
      have HE := hide he
      have HLD := hide hld
      have e0 : ((t + 1 : Nat) : Int) - 1 = (t : Int) := by omega
      rw [e0]
      clear hx hl hcs hI he hld e0
      by_cases hpk : p.1 = k
      · have hb := isT (a := (p.1 : Int)) (b := (k : Int)) (by omega)
        have hres := HA1.out p.2 (HLast.out pend t p.2 (by rw [HLD.out, if_pos hpk]))
        have HRES := hide hres
        clear hres
        go_wp2
        go_ret2
        rw [HRES.out]
        exact ⟨_, rfl, (St.addRf (HE.out.pers1 (R' := fun w' => Ints w' .u8 (.slice A2 p.2.length c2) p.2) (fun w' ⟨_, v', e, hi⟩ => by simp at e; rw [e]; exact hi)).dn3).swap⟩
      · have hb := isF (a := (p.1 : Int)) (b := (k : Int)) (by omega)
        go_wp2
        go_round
        case rel => exact ⟨t, by omega, by go_num, by rw [HLD.out, if_neg hpk]⟩
        case measure => simp [intOf]
    · obtain rfl : j = 0 := by omega
      have hres := HA2.out (by simpa using HLW.out)
      have HRES := hide hres
      have hk64 : 64 * k + 64 ≤ sure.length := by rw [HS.out]; omega
      have m1 : (64 : Int) * (k : Int) + 64 ≤ (c : Int) := by omega
      have m0 : (64 : Int) * (k : Int) ≤ (64 : Int) * (k : Int) + 64 := by omega
      have mz : (0 : Int) ≤ (64 : Int) * (k : Int) := by omega
      have key : ∀ A' q cc, q = 64 → cc = c - 64 * k → (64 * k < sure.length → A' = A.map (·.add (64 * k))) → St M0 w (intsR .u8 (.slice A' q cc) ((sure.drop (64 * k)).take 64) :: rfR g ⟨sure, pend, fused, left, down⟩ :: L) := by
        rintro A' q cc rfl hcc hA'
        exact (St.addRf ((H.out.swap.copy 0 rfl).pers1 (R' := fun w' => Ints w' .u8 (.slice A' 64 cc) ((sure.drop (64 * k)).take 64)) (fun w' h => h.mid (by omega) hA' hcc)).dn3.swap).swap
      have HK := hide key
      clear hres key
      go_wp2
      all_goals
        go_ret2
        rw [HRES.out]
        exact ⟨_, rfl, HK.out _ _ _ (by omega) (by omega) (fun _ => by first | rfl | omega)⟩

end Go.Proofs.Ythddgnnbgldfmaa
