/- The document's disk: New, Write. -/
import Derived.Test.YthddgnnbgldfmaaRefSt
import Derived.Test.YthddgnnbgldfmaaStZeros
import Derived.Test.YthddgnnbgldfmaaStFlat
import Derived.Test.YthddgnnbgldfmaaDiskN
namespace Go.Proofs.Ythddgnnbgldfmaa
open Go.RowKit

/-- an empty row -/
theorem St.emptyRow4 {M0 : Imm} {w : World} {L : List Res} (h : St M0 w L) (e : TypeId) : St M0 (w.alloc (.cells #[] e)) (rowR e 1 (.slice (some ⟨w.heap.size, 0, none⟩) 0 0) 0 [] :: L) :=
  h.newRow ((Fr.refl _ _).alloc _) (World.ownsRow_made w #[] 0 (Nat.zero_le _) (Nat.zero_le _) (by simp)) (fun b hb => by simp [Value.ownBlock] at hb; omega)
theorem wr_flat1 {w : World} {v : Value} {css : Nat → List Value} {xs : List (Nat × List Int)} (h : RowsC w 2 WrR v css xs) : ∀ u ∈ flat css xs.length, u.oneCell' = true := by
  intro u hu
  obtain ⟨i, hi, hu⟩ := flat_mem hu
  obtain ⟨A, c, _, _, _, h3⟩ := h
  obtain ⟨ad, _, _, _, v', hv, A', c', hv', _⟩ := h3 i _ (List.getElem?_eq_getElem hi)
  rw [hv] at hu
  subst hv'
  rcases List.mem_cons.1 hu with rfl | hu
  · rfl
  · rcases List.mem_cons.1 hu with rfl | hu
    · rfl
    · cases hu
theorem bv_full (b : List Int) : bv b ++ List.replicate (64 - b.length) (.int .u8 0) = (full b).map (Value.int .u8) := by simp [bv, full, zeros]
theorem u8_info : (Try.prog.info? 5).map (fun i => (i.zero, i.size, i.bytes)) = some (some (.int .u8 0), 1, 1) := by kernel_rfl
theorem u8_row4 : ElemOf Try.prog 50 5 (.int .u8 0) 1 1 := ⟨Try.underlying50, u8_info, by kernel_rfl, by omega⟩
theorem wr_row : ElemOf Try.prog 89 93 (.agg #[.int .i64 0, .slice none 0 0]) 2 32 := ⟨Try.underlying89, by kernel_rfl, by kernel_rfl, by omega⟩
theorem make_u8 (k : Nat) (hk : k ≤ 100000) (w : World) : (Instr.makeSlice 50 (.int .i64 k) (.int .i64 k)).run Try.prog w = .ok (.slice (some ⟨w.heap.size, 0, none⟩) k k) (w.alloc (.cells (bv (zeros k)).toArray 5)) := by
  obtain ⟨i0, hi0, hz0, hs0, hb0⟩ := info_parts u8_info
  have hr := run_make (P := Try.prog) (w := w) 50 5 i0 _ Try.underlying50 hi0 hz0 .i64 .i64 k k (by omega) (by omega) (by rw [hb0]; omega) (by omega)
  simp only [Int.toNat_natCast] at hr
  rw [hr]
  have e : madeCells (Value.cells (.int .u8 0)) (k * i0.size) = (bv (zeros k)).toArray := by
    rw [hs0, Nat.mul_one]
    apply Array.toList_inj.1
    have := made_rep 1 k (.int .u8 0) (by omega)
    simp only [bv, zeros, List.map_replicate]
    exact this
  rw [e]

set_option maxHeartbeats 400000 in
theorem rnew_st {M0 : Imm} {L : List Res} (n : Nat) (w : World) (h1 : 1 ≤ n) (h2 : n ≤ 512) (h : St M0 w L) :
    Calls Try.prog 35 #[.int .i64 n] w fun e w' => ∃ g, e = .returned (.tuple #[.pointer (some ⟨g, 0, none⟩), .int .i64 0]) ∧ St M0 w' (rfR g (RD.new n) :: L) := by
  have hl : (zeros (64 * n)).length = 64 * n := by simp [zeros]
  have h3 := h.litInts 5 .u8 (zeros (64 * n)) (by rw [hl]; omega) w.heap.size rfl
  rw [hl] at h3
  have H := hide h3
  have hmk := fun W => make_u8 (64 * n) (by omega) W
  have e1 : ((64 * n : Nat) : Int) = 64 * (n : Int) := by omega
  rw [e1] at hmk
  have hn1 : ¬ (n : Int) < 1 := by omega
  have hn2 : ¬ (512 : Int) < (n : Int) := by omega
  have w64 : IntKind.i64.wrap (64 * (n : Int)) = 64 * (n : Int) := IntWalk.i64_in _ (by omega)
  clear h h3 hl e1
  go_enter Try.func35, Try.ntmps35
  go_wp2
  go_ret2
  have h4 := ((H.out.nilGrow 0 2 WrR).rowsGrow.swap).alloc 91 #[.slice (some ⟨w.heap.size, 0, none⟩) (64 * n) (64 * n), .slice none 0 0, .bool false, .int .i64 0, .bool false]
  rw [show (w.alloc (.cells ((zeros (64 * n)).map (Value.int .u8)).toArray 5)).heap.size = w.heap.size + 1 by simp] at h4
  exact ⟨_, rfl, St.addRf h4⟩

theorem rnew_no {M0 : Imm} {L : List Res} (n : Int) (w : World) (h1 : n < 1 ∨ 512 < n) (h : St M0 w L) :
    Calls Try.prog 35 #[.int .i64 n] w fun e w' => e = .returned (.tuple #[.pointer none, .int .i64 1]) ∧ St M0 w' L := by
  rcases h1 with h1 | h1
  · go_enter Try.func35, Try.ntmps35
    go_wp2
    go_ret2
    exact ⟨rfl, h⟩
  · have h2 : ¬ n < 1 := by omega
    go_enter Try.func35, Try.ntmps35
    go_wp2
    go_ret2
    exact ⟨rfl, h⟩

set_option maxRecDepth 100000 in
set_option maxHeartbeats 1000000 in
theorem rwrite_st {M0 : Imm} {L : List Res} (g : Nat) (E : RD) (n : Nat) (i : Int) (v : Value) (bs : List Int) (w : World) (ho : E.ok n) (hp : E.pend.length < 1000000) (hl : E.lo) (h : St M0 w (rfR g E :: intsR .u8 v bs :: L)) :
    Calls Try.prog 36 #[.pointer (some ⟨g, 0, none⟩), .int .i64 i, v] w fun e w' => e = .returned (.int .i64 (E.writeE i bs)) ∧ St M0 w' (rfR g (E.write i bs) :: intsR .u8 v bs :: L) := by
  have H0 := hide h
  have hlen := ho.len
  have HL := hide (fun w' (h : St M0 w' (rfR g E :: intsR .u8 v bs :: L)) => rlen_st g E w' h)
  have HD := hide (fun w' (h : St M0 w' (rfR g E :: intsR .u8 v bs :: L)) => rdone_st g E w' hl h)
  rw [hlen] at HL
  obtain ⟨A, c, rfl, hbc, hcm, _⟩ := h.get 1 rfl
  unfold maxLen at hcm
  have key : ∀ x E', E.writeE i bs = x → E.write i bs = E' → Hid (E.writeE i bs = x ∧ E.write i bs = E') := fun _ _ h1 h2 => ⟨h1, h2⟩
  by_cases hneg : i < 0
  · have K := key 40 E (by unfold RD.writeE; rw [if_pos (.inl hneg)]) (by unfold RD.write; rw [if_pos (.inl hneg)])
    clear key h hlen
    go_enter Try.func36, Try.ntmps36
    go_wp2
    go_ret
    rw [K.out.1, K.out.2]
    exact ⟨rfl, H0.out⟩
  by_cases hbig : (n : Int) ≤ i
  · have K := key 40 E (by unfold RD.writeE; rw [if_pos (.inr (by rw [hlen]; exact hbig))]) (by unfold RD.write; rw [if_pos (.inr (by rw [hlen]; exact hbig))])
    clear key h hlen
    go_enter Try.func36, Try.ntmps36
    go_wp2_with (go_at_call 51; refine (HL.out _ H0.out).mono ?_; rintro e w' ⟨rfl, rfl⟩)
    go_ret
    rw [K.out.1, K.out.2]
    exact ⟨rfl, H0.out⟩
  have hc1 : ¬ (i < 0 ∨ (E.len : Int) ≤ i) := by rw [hlen]; omega
  by_cases hlong : 64 < bs.length
  · have K := key 2 E (by unfold RD.writeE; rw [if_neg hc1, if_pos hlong]) (by unfold RD.write; rw [if_neg hc1, if_pos hlong])
    clear key h hlen hc1
    go_enter Try.func36, Try.ntmps36
    go_wp2_with (go_at_call 51; refine (HL.out _ H0.out).mono ?_; rintro e w' ⟨rfl, rfl⟩)
    go_ret
    rw [K.out.1, K.out.2]
    exact ⟨rfl, H0.out⟩
  cases hgo : E.goes with
  | false =>
    have K := key 43 E.after (by unfold RD.writeE; rw [if_neg hc1, if_neg hlong, hgo]; rfl) (by unfold RD.write; rw [if_neg hc1, if_neg hlong, hgo]; rfl)
    rw [hgo] at HD
    clear key h hlen hc1 hgo
    go_enter Try.func36, Try.ntmps36
    go_wp2_with (first | (go_at_call 51; refine (HL.out _ H0.out).mono ?_; rintro e w' ⟨rfl, rfl⟩) | (go_at_call 52; refine (HD.out _ H0.out).mono ?_; rintro e w1 ⟨rfl, h1⟩; have H1 := hide h1; clear h1))
    go_ret
    rw [K.out.1, K.out.2]
    exact ⟨rfl, H1.out⟩
  | true =>
    obtain ⟨k, rfl⟩ := Int.eq_ofNat_of_zero_le (show 0 ≤ i by omega)
    have K := key 0 { E.after with pend := E.pend ++ [(k, full bs)] } (by unfold RD.writeE; rw [if_neg hc1, if_neg hlong, hgo]; rfl) (by unfold RD.write; rw [if_neg hc1, if_neg hlong, hgo]; rfl)
    rw [hgo] at HD
    have hak := E.after_keep
    obtain ⟨F, hF⟩ : ∃ F, E.after = F := ⟨_, rfl⟩
    rw [hF] at hak K HD
    obtain ⟨sure, pend, fused, left, down⟩ := F
    simp only at hak K
    obtain ⟨-, rfl⟩ := hak
    clear key h hlen hc1 hgo hF
    have hemp2 := fun w => (show (Instr.buildSlice 89 0 #[]).run Try.prog w = .ok (.slice (some ⟨w.heap.size, 0, none⟩) 0 0) (w.alloc (.cells #[] 93)) by kernel_rfl)
    have hemp := fun w => (show (Instr.buildSlice 50 0 #[]).run Try.prog w = .ok (.slice (some ⟨w.heap.size, 0, none⟩) 0 0) (w.alloc (.cells #[] 5)) by kernel_rfl)
    go_enter Try.func36, Try.ntmps36
    go_wp2_with (first | (go_at_call 51; refine (HL.out _ H0.out).mono ?_; rintro e w' ⟨rfl, rfl⟩) | (go_at_call 52; refine (HD.out _ H0.out).mono ?_; rintro e w1 ⟨rfl, h1⟩; have H1 := hide h1; clear h1) | (at_builtin; refine St.app_step u8_row4 (H1.out.emptyRow4 5) rfl _ _ rfl rfl A bs.length c rfl (bv bs) ((H1.out.emptyRow4 5).get 2 rfl).sl.2.2.2 (bv_one _) (by omega) (by omega) ?_; intro A4 c4 w4 h4; simp only [Nat.zero_add, List.nil_append] at h4; rw [Nat.zero_add]; have H4 := hide h4; clear h4) | (at_builtin; obtain ⟨v5, w5, hrun, h5⟩ := St.run_zeros u8_row4 rfl rfl Try.underlying3 H4.out 50 .i64 (64 - bs.length) (by omega) (by omega) (by omega); rw [show ((64 - bs.length : Nat) : Int) = 64 - (bs.length : Int) by omega] at hrun; refine Lib.wpList_append_run _ rfl _ _ _ _ rfl _ _ rfl rfl _ _ hrun ?_; rw [bv_full] at h5; have H5 := hide h5.ints; clear h5 hrun; obtain ⟨A5, c5, rfl, _, _, _⟩ := H5.out.get 0 rfl; obtain ⟨A6, c6, B, d, h1', h2', h3', h4', h6⟩ := (H5.out.litRow 93 2 0 [] rfl (by omega) w5.heap.size rfl).up2.rf; simp only at h6 h3' h1'; have k1 := (h6.blk 0 rfl).cell 1; obtain ⟨css, h6⟩ := h6.up2.openRows; have H6 := hide h6.up3; clear h6) | (at_builtin; refine St.app_step wr_row H6.out rfl _ _ rfl rfl B E.pend.length d rfl (flat css E.pend.length) ((H6.out.get 1 rfl).sl (by omega)).1 (wr_flat1 (H6.out.get 1 rfl)) (by omega) (by omega) ?_; intro A7 c7 w7 h7; simp only [Nat.zero_add, List.nil_append] at h7; rw [Nat.zero_add]; obtain ⟨vs, hq7, hv7, h7⟩ := (h7.growOf rfl ((H6.out.get 1 rfl).sl (by omega)).2.2.2.2).openGrowS; have H7 := hide h7; clear h7) | (at_builtin; refine St.app_step wr_row (H7.out.junk _) rfl _ _ rfl rfl (some ⟨_, 0, none⟩) 1 1 rfl [.int .i64 k, .slice A5 (full bs).length c5] (sl_newG rfl) (by intro u hu; simp at hu; rcases hu with rfl | rfl <;> rfl) (by omega) (by omega) ?_; intro A8 c8 w8 h8; have h9 := ((h8.up4.pers1 (R' := fun w' => WrR w' [.int .i64 k, .slice A5 (full bs).length c5] (k, full bs)) (fun w' hi => ⟨_, rfl, hi⟩)).dn2.snocGrow hq7 rfl hv7).rowsGrow.swap; have f1 := (h9.blk 0 rfl).frozen 1; have k1 := (h9.blk 0 rfl).cell 1; have H9 := hide h9; clear h8 h9))
    go_ret
    rw [K.out.1, K.out.2]
    exact ⟨rfl, St.addRf ((H9.out.set_ 1 (.slice A8 (E.pend.length + 1) c8)).pick 3 [0, 2, 1])⟩

end Go.Proofs.Ythddgnnbgldfmaa
