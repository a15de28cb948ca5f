/- store: what an answer tells; messages that are the same. -/
import Derived.Test.YtpaelngpmbeedaaGreatDoorStoB
namespace Go.Proofs.YtpaelngpmbeedaaGreatDoor
open Go.RowKit

/-! ### what an answer tells -/
def toldC (b : List Int) : Int × Rd := (Rd.mk b false).num 1
def toldN (b : List Int) : Int × Rd := (toldC b).2.num 1
def toldL (b : List Int) : List (List Int) × Rd := (toldN b).2.logs (toldN b).1.toNat
def toldE (b : List Int) : Int := (toldL b).2.endE
set_option maxRecDepth 100000 in
set_option maxHeartbeats 8000000 in
theorem told_st {M0 : Imm} {L : List Res} (f t i : Int) (ok : Bool) (p1 p2 p3 : Int) (v9 : Value) (hv9 : ∃ A n c, v9 = .slice A n c) (A : Option Addr) (n c : Nat) (b : List Int) (w : World) (hb : Bytes b) (hl : b.length ≤ 1000000) (h : St M0 w (intsR .u8 (.slice A n c) b :: L)) :
    Calls Tryz.prog 19 #[.agg #[.int .i64 12, .int .i64 f, .int .i64 t, .int .u64 p1, .int .u64 i, .int .u64 p2, .int .u64 p3, .bool ok, .slice A n c, v9]] w fun e w' =>
      (toldE b = 0 → ∃ V, e = .returned (.tuple #[V, .int .i64 (toldC b).1, .int .i64 0]) ∧ St M0 w' (rowsR 1 LogR V (toldL b).1 :: L)) ∧
      (toldE b ≠ 0 → e = .returned (.tuple #[.slice none 0 0, .int .i64 0, .int .i64 (toldE b)]) ∧ St M0 w' L) := by
  obtain ⟨A9, n9, c9, rfl⟩ := hv9
  have h1 := h.alloc 63 #[.int .i64 12, .int .i64 f, .int .i64 t, .int .u64 p1, .int .u64 i, .int .u64 p2, .int .u64 p3, .bool ok, .slice A n c, .slice A9 n9 c9]
  obtain ⟨m0, m1, m2, m3, m4, m5, m6, m7, m8, m9⟩ := (h1.blk 0 rfl).ten
  have H := hide h1.tail
  have ok0 : Rd.Ok (Rd.mk b false) := ⟨hb, by show b.length ≤ 140737488355328; omega, fun h => by cases h⟩
  have OK0 := hide ok0
  obtain ⟨tc, htc⟩ : ∃ x, x = toldC b := ⟨_, rfl⟩
  obtain ⟨tn, htn⟩ : ∃ x, x = toldN b := ⟨_, rfl⟩
  obtain ⟨tl, htl⟩ : ∃ x, x = toldL b := ⟨_, rfl⟩
  obtain ⟨te, hte⟩ : ∃ x, x = toldE b := ⟨_, rfl⟩
  have E1 := hide (show tc = (Rd.mk b false).num 1 from htc)
  have E2 := hide (show tn = tc.2.num 1 by rw [htn, htc]; rfl)
  have E3 := hide (show tl = tn.2.logs tn.1.toNat by rw [htl, htn]; rfl)
  have E4 := hide (show te = tl.2.endE by rw [hte, htl]; rfl)
  rw [← hte, ← htl, ← htc]
  clear hte htl htn htc
  clear h h1 ok0 hb hl
  go_enter Tryz.func19, Tryz.ntmps19
  go_wp2_with fail
  refine (read_st _ b _ H.out).mono ?_
  rintro e w1 ⟨g, rfl, h⟩
  have H1 := hide h.del1
  clear H h m0 m1 m2 m3 m4 m5 m6 m7 m8 m9
  have HB0 := hide (Rd.num1_lt OK0.out)
  have OK1 := hide (OK0.out.num 1)
  go_wp2_with fail
  refine (rdnum_st g _ 1 _ OK0.out.hb OK0.out.hl OK0.out.hz H1.out).mono ?_
  rintro e w2 ⟨rfl, h⟩
  have H2 := hide h
  clear h H1
  rw [← E1.out] at H2 HB0 OK1 ⊢
  obtain ⟨b0, b1⟩ := HB0.out
  have HB1 := hide (Rd.num1_lt OK1.out)
  have OK2 := hide (OK1.out.num 1)
  have wc : IntKind.i64.wrap tc.1 = tc.1 := IntWalk.i64_in _ (by omega)
  go_wp2_with fail
  refine (rdnum_st g _ 1 _ OK1.out.hb OK1.out.hl OK1.out.hz H2.out).mono ?_
  rintro e w3 ⟨rfl, h⟩
  have H3 := hide h
  clear h H2
  rw [← E2.out] at H3 HB1 OK2 ⊢
  obtain ⟨b2, b3⟩ := HB1.out
  obtain ⟨n0, r0⟩ := tn
  have b2 : 0 ≤ n0 := b2
  have b3 : n0 < 256 := b3
  have H3 : Hid (St M0 w3 (rdR g r0 :: L)) := H3
  have OK2 : Hid r0.Ok := OK2
  have E3 : Hid (tl = r0.logs n0.toNat) := E3
  obtain ⟨q, rfl⟩ := Int.eq_ofNat_of_zero_le b2
  rw [Int.toNat_natCast] at E3
  have hq : q ≤ 256 := by omega
  clear b2 b3
  go_wp2_with fail
  go_loopg [2, 18] q (fun gh out i wr => ∃ k z A' c', gh = q - k ∧ k ≤ q ∧ i = .int .u64 (k : Nat) ∧ out = .slice A' z c' ∧ z = k ∧ St M0 wr (growR 34 1 LogR (.slice A' z c') (r0.logs k).1 :: rdR g (r0.logs k).2 :: L))
  case atStart => exact ⟨0, 0, none, 0, rfl, by omega, rfl, rfl, rfl, (H3.out).nilGrow 34 1 LogR⟩
  case round =>
    obtain ⟨k, z, A', c', hg, hk, rfl, rfl, hz, h⟩ := hrel
    have HG := hide hg
    clear hg H3
    by_cases hlt : k < q
    · have HQ := hide hz
      have H := hide h.swap
      have OKK := hide (OK2.out.logs k)
      have hz1 : z ≤ 1000 := by omega
      clear h hz
      go_wp2_with fail
      refine (rdbyt_st g _ _ OKK.out.hb OKK.out.hl OKK.out.hz H.out).mono ?_
      rintro e w5 ⟨v5, rfl, h⟩
      obtain ⟨A5, c5, rfl, _, _, _⟩ := h.get 0 rfl
      have EL := hide (show r0.logs (k + 1) = ((r0.logs k).1 ++ [(r0.logs k).2.byt.1], (r0.logs k).2.byt.2) from rfl)
      have LL := hide (Rd.logs_length r0 k)
      generalize r0.logs k = lk at *
      obtain ⟨l1, rk⟩ := lk
      have h : St M0 w5 (intsR .u8 (.slice A5 rk.byt.1.length c5) rk.byt.1 :: rdR g rk.byt.2 :: growR 34 1 LogR (.slice A' z c') l1 :: L) := h
      have EL : Hid (r0.logs (k + 1) = (l1 ++ [rk.byt.1], rk.byt.2)) := EL
      have LL : Hid (l1.length = k) := LL
      generalize rk.byt.1 = x at *
      generalize rk.byt.2 = rk2 at *
      generalize hnx : x.length = nx at *
      have HNX := hide hnx
      obtain ⟨vs, hq2, hvs, h3⟩ := (h.sub (L' := growR 34 1 LogR (.slice A' z c') l1 :: intsR .u8 (.slice A5 nx c5) x :: rdR g rk2 :: L) (by (repeat (first | with_reducible exact Sub.refl _ | (with_reducible apply Sub.take; focus (repeat (first | with_reducible exact At.here | with_reducible apply At.there))) | with_reducible apply Sub.drop)))).openGrowS
      have H3 := hide (h3.junk (.cells #[.slice A5 nx c5] 34))
      have HVS := hide hvs
      clear h h3 hq2 hvs H hnx
      go_wp2_with (at_builtin; refine St.app_step logs_elem H3.out rfl _ _ rfl rfl (some ⟨w5.heap.size, 0, none⟩) 1 1 rfl [.slice A5 nx c5] (sl_new1 _ _ _) (by simp [Value.oneCell']) (by omega) (by omega) ?_; intro A4 c4 w4 h4)
      go_roundg (q - (k + 1))
      case measure => have := HG.out; omega
      case rel =>
        refine ⟨k + 1, z + 1, A4, c4, rfl, by omega, by go_num, rfl, by rw [HQ.out], ?_⟩
        rw [EL.out]
        have h5 := (h4.up2.pers1 (R' := fun w' => LogR w' [.slice A5 nx c5] x) (fun w' hi => ⟨_, rfl, hi⟩))
        have h6 := h5.dn2.snocGrow (by rw [LL.out, HQ.out]) rfl HVS.out
        exact h6
    · obtain rfl : k = q := by omega
      have HQ := hide hz
      rw [← E3.out] at h
      have OKE := hide (show tl.2.Ok by rw [E3.out]; exact OK2.out.logs k)
      have LL := hide (show tl.1.length = k by rw [E3.out]; exact Rd.logs_length r0 k)
      have H := hide h.swap
      clear h hz hlt HG
      go_wp2_with fail
      refine (rdend_st g _ _ H.out).mono ?_
      rintro e w6 ⟨rfl, h⟩
      rw [← E4.out]
      have H6 := hide h
      clear h H
      by_cases he : te = 0
      · subst he
        go_wp2_with fail
        exact bodyPost_ret (results_three rfl _ _ _) rfl ⟨.slice A' z c', rfl, H6.out.tail.rowsGrow⟩
      · have heb : (te != 0) = true := by simp [he]
        have HE := hide he
        clear he
        go_wp2_with fail
        exact bodyPost_ret (results_three rfl _ _ _) rfl ⟨fun h0 => absurd h0 HE.out, fun _ => ⟨rfl, H6.out.tail.tail⟩⟩

/-! ### messages that are the same -/
set_option maxRecDepth 100000 in
theorem ment_nil (w : World) : Calls Tryz.prog 110 #[.slice none 0 0, .slice none 0 0] w fun e w' => e = .returned (.bool true) ∧ w' = w := by
  go_enter Tryz.func110, Tryz.ntmps110
  go_wp2_with fail
  refine wp_loop_rounds 1 ?_
  rw [rounds_succ]
  go_wp2_with fail
  go_ret
  exact ⟨rfl, rfl⟩
set_option maxRecDepth 100000 in
set_option maxHeartbeats 4000000 in
theorem msame_true {M0 : Imm} {L : List Res} (k f t i : Int) (ok : Bool) (A B : Option Addr) (n m c d : Nat) (xs : List Int) (w : World) (h : St M0 w (intsR .u8 (.slice A n c) xs :: intsR .u8 (.slice B m d) xs :: L)) :
    Calls Tryz.prog 90 #[msgV k f t i ok (.slice A n c), msgV k f t i ok (.slice B m d)] w fun e w' => e = .returned (.bool true) ∧ St M0 w' L := by
  have h1 := (h.alloc 63 (msgC k f t i ok (.slice A n c))).alloc 63 (msgC k f t i ok (.slice B m d))
  simp only [World.size_alloc] at h1
  obtain ⟨a0, a1, a2, a3, a4, a5, a6, a7, a8, a9⟩ := (h1.blk 1 rfl).ten
  obtain ⟨b0, b1, b2, b3, b4, b5, b6, b7, b8, b9⟩ := (h1.blk 0 rfl).ten
  have dk : (k != k) = false := by simp
  have df : (f != f) = false := by simp
  have dt : (t != t) = false := by simp
  have di : (i != i) = false := by simp
  have do_ : (ok != ok) = false := by simp
  have H := hide h1
  clear h h1
  go_enter Tryz.func90, Tryz.ntmps90
  go_wp2_with fail
  refine (same_true _ _ xs _ (H.out.get 2 rfl) (H.out.get 3 rfl) H.out).mono ?_
  rintro e w2 ⟨rfl, h⟩
  obtain ⟨a0, a1, a2, a3, a4, a5, a6, a7, a8, a9⟩ := (h.blk 1 rfl).ten
  obtain ⟨b0, b1, b2, b3, b4, b5, b6, b7, b8, b9⟩ := (h.blk 0 rfl).ten
  have H2 := hide h
  clear h H
  go_wp2_with fail
  refine (ment_nil _).mono ?_
  rintro e w3 ⟨rfl, rfl⟩
  go_wp2_with fail
  go_ret
  exact ⟨rfl, H2.out.tail.tail.tail.tail⟩
end Go.Proofs.YtpaelngpmbeedaaGreatDoor
