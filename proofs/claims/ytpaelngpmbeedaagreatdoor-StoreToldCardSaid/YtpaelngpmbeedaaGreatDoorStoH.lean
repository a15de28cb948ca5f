/- StoreTold: what the document tells of a message. -/
import Derived.Test.YtpaelngpmbeedaaGreatDoorStoE
import Derived.Test.YtpaelngpmbeedaaGreatDoorOpenZ
namespace Go.Proofs.YtpaelngpmbeedaaGreatDoor
open Go.RowKit

theorem rreader_build (w : World) (A : Option Addr) (n c : Nat) : (Instr.build 121 #[(0, .slice A n c)]).run Tryz.prog w = .ok (.agg #[.slice A n c, .int .i64 0, .bool false]) w := by kernel_rfl
set_option maxRecDepth 100000 in
set_option maxHeartbeats 8000000 in
theorem rtold_st {M0 : Imm} {L : List Res} (f t i : Int) (ok : Bool) (p1 p2 p3 : Int) (v9 : Value) (hv9 : ∃ A n c, v9 = .slice A n c) (A : Option Addr) (n c : Nat) (b : List Int) (w : World) (hb : Bytes b) (hl : b.length ≤ 1000000) (h : St M0 w (intsR .u8 (.slice A n c) b :: L)) :
    Calls Tryz.prog 20 #[.agg #[.int .i64 12, .int .i64 f, .int .i64 t, .int .u64 p1, .int .u64 i, .int .u64 p2, .int .u64 p3, .bool ok, .slice A n c, v9]] w fun e w' =>
      (toldE b = 0 → ∃ V, e = .returned (.tuple #[V, .int .i64 (toldC b).1, .int .i64 0]) ∧ St M0 w' (rowsR 1 LogR V (toldL b).1 :: L)) ∧
      (toldE b ≠ 0 → e = .returned (.tuple #[.slice none 0 0, .int .i64 0, .int .i64 (toldE b)]) ∧ St M0 w' L) := by
  obtain ⟨A9, n9, c9, rfl⟩ := hv9
  have h1 := h.alloc 63 #[.int .i64 12, .int .i64 f, .int .i64 t, .int .u64 p1, .int .u64 i, .int .u64 p2, .int .u64 p3, .bool ok, .slice A n c, .slice A9 n9 c9]
  obtain ⟨m0, m1, m2, m3, m4, m5, m6, m7, m8, m9⟩ := (h1.blk 0 rfl).ten
  have h2 := h1.tail.alloc 121 #[.slice A n c, .int .i64 0, .bool false]
  simp only [World.size_alloc] at h2
  have h3 : St M0 _ (rrR (w.heap.size + 1) ⟨b, false⟩ :: L) := St.addRr (r := ⟨b, false⟩) (k := 0) h2 (Nat.zero_le _) (by omega) rfl
  have H := hide h3
  have ok0 : Rd.Ok (Rd.mk b false) := ⟨hb, by show b.length ≤ 140737488355328; omega, fun h => by cases h⟩
  have OK0 := hide ok0
  obtain ⟨tc, htc⟩ : ∃ x, x = toldC b := ⟨_, rfl⟩
  obtain ⟨tn, htn⟩ : ∃ x, x = toldN b := ⟨_, rfl⟩
  obtain ⟨tl, htl⟩ : ∃ x, x = toldL b := ⟨_, rfl⟩
  obtain ⟨te, hte⟩ : ∃ x, x = toldE b := ⟨_, rfl⟩
  have E1 := hide (show tc = (Rd.mk b false).num 1 from htc)
  have E2 := hide (show tn = tc.2.num 1 by rw [htn, htc]; rfl)
  have E3 := hide (show tl = tn.2.logs tn.1.toNat by rw [htl, htn]; rfl)
  have E4 := hide (show te = tl.2.endE by rw [hte, htl]; rfl)
  rw [← hte, ← htl, ← htc]
  clear hte htl htn htc
  obtain ⟨g, hg⟩ : ∃ g, g = w.heap.size + 1 := ⟨_, rfl⟩
  rw [← hg] at H
  have HGG := hide hg
  clear h h1 h2 h3 ok0 hb hl hg
  go_enter Tryz.func20, Tryz.ntmps20
  go_wp2_with fail
  rw [← HGG.out]
  clear m0 m1 m2 m3 m4 m5 m6 m7 m8 m9
  have HB0 := hide (Rd.num1_lt OK0.out)
  have OK1 := hide (OK0.out.num 1)
  refine (rrnum_st g _ 1 _ OK0.out.hb H.out).mono ?_
  rintro e w2 ⟨rfl, h⟩
  have H2 := hide h
  clear h H
  rw [← E1.out] at H2 HB0 OK1 ⊢
  obtain ⟨b0, b1⟩ := HB0.out
  have HB1 := hide (Rd.num1_lt OK1.out)
  have OK2 := hide (OK1.out.num 1)
  have wc : IntKind.i64.wrap tc.1 = tc.1 := IntWalk.i64_in _ (by omega)
  go_wp2_with fail
  refine (rrnum_st g _ 1 _ OK1.out.hb H2.out).mono ?_
  rintro e w3 ⟨rfl, h⟩
  have H3 := hide h
  clear h H2
  rw [← E2.out] at H3 HB1 OK2 ⊢
  obtain ⟨b2, b3⟩ := HB1.out
  obtain ⟨n0, r0⟩ := tn
  have b2 : 0 ≤ n0 := b2
  have b3 : n0 < 256 := b3
  have H3 : Hid (St M0 w3 (rrR g r0 :: L)) := H3
  have OK2 : Hid r0.Ok := OK2
  have E3 : Hid (tl = r0.logs n0.toNat) := E3
  obtain ⟨q, rfl⟩ := Int.eq_ofNat_of_zero_le b2
  rw [Int.toNat_natCast] at E3
  have hq : q ≤ 256 := by omega
  clear b2 b3
  go_wp2_with fail
  go_loopg [8, 9] q (fun gh out i wr => ∃ k z A' c', gh = q - k ∧ k ≤ q ∧ i = .int .u64 (k : Nat) ∧ out = .slice A' z c' ∧ z = k ∧ St M0 wr (growR 34 1 LogR (.slice A' z c') (r0.logs k).1 :: rrR g (r0.logs k).2 :: L))
  case atStart => exact ⟨0, 0, none, 0, rfl, by omega, rfl, rfl, rfl, (H3.out).nilGrow 34 1 LogR⟩
  case round =>
    obtain ⟨k, z, A', c', hg, hk, rfl, rfl, hz, h⟩ := hrel
    have HG := hide hg
    clear hg H3
    by_cases hlt : k < q
    · have HQ := hide hz
      have H := hide h.swap
      have OKK := hide (OK2.out.logs k)
      have hz1 : z ≤ 1000 := by omega
      clear h hz
      go_wp2_with fail
      refine (rrbyt_st g _ _ OKK.out.hb OKK.out.hl H.out).mono ?_
      rintro e w5 ⟨v5, rfl, h⟩
      obtain ⟨A5, c5, rfl, _, _, _⟩ := h.get 0 rfl
      have EL := hide (show r0.logs (k + 1) = ((r0.logs k).1 ++ [(r0.logs k).2.byt.1], (r0.logs k).2.byt.2) from rfl)
      have LL := hide (Rd.logs_length r0 k)
      generalize r0.logs k = lk at *
      obtain ⟨l1, rk⟩ := lk
      have h : St M0 w5 (intsR .u8 (.slice A5 rk.byt.1.length c5) rk.byt.1 :: rrR g rk.byt.2 :: growR 34 1 LogR (.slice A' z c') l1 :: L) := h
      have EL : Hid (r0.logs (k + 1) = (l1 ++ [rk.byt.1], rk.byt.2)) := EL
      have LL : Hid (l1.length = k) := LL
      generalize rk.byt.1 = x at *
      generalize rk.byt.2 = rk2 at *
      generalize hnx : x.length = nx at *
      have HNX := hide hnx
      obtain ⟨vs, hq2, hvs, h3⟩ := (h.sub (L' := growR 34 1 LogR (.slice A' z c') l1 :: intsR .u8 (.slice A5 nx c5) x :: rrR g rk2 :: L) (by (repeat (first | with_reducible exact Sub.refl _ | (with_reducible apply Sub.take; focus (repeat (first | with_reducible exact At.here | with_reducible apply At.there))) | with_reducible apply Sub.drop)))).openGrowS
      have H3 := hide (h3.junk (.cells #[.slice A5 nx c5] 34))
      have HVS := hide hvs
      clear h h3 hq2 hvs H hnx
      go_wp2_with (at_builtin; refine St.app_step logs_elem H3.out rfl _ _ rfl rfl (some ⟨w5.heap.size, 0, none⟩) 1 1 rfl [.slice A5 nx c5] (sl_new1 _ _ _) (by simp [Value.oneCell']) (by omega) (by omega) ?_; intro A4 c4 w4 h4)
      go_roundg (q - (k + 1))
      case measure => have := HG.out; omega
      case rel =>
        refine ⟨k + 1, z + 1, A4, c4, rfl, by omega, by go_num, rfl, by rw [HQ.out], ?_⟩
        rw [EL.out]
        have h5 := (h4.up2.pers1 (R' := fun w' => LogR w' [.slice A5 nx c5] x) (fun w' hi => ⟨_, rfl, hi⟩))
        have h6 := h5.dn2.snocGrow (by rw [LL.out, HQ.out]) rfl HVS.out
        exact h6
    · obtain rfl : k = q := by omega
      have HQ := hide hz
      rw [← E3.out] at h
      have H := hide h.swap
      clear h hz hlt HG
      go_wp2_with fail
      refine (rrend_st g _ _ H.out).mono ?_
      rintro e w6 ⟨rfl, h⟩
      rw [← E4.out]
      have H6 := hide h
      clear h H
      by_cases he : te = 0
      · subst he
        go_wp2_with fail
        exact bodyPost_ret (results_three rfl _ _ _) rfl ⟨.slice A' z c', rfl, H6.out.tail.rowsGrow⟩
      · have heb : (te != 0) = true := by simp [he]
        have HE := hide he
        clear he
        go_wp2_with fail
        exact bodyPost_ret (results_three rfl _ _ _) rfl ⟨fun h0 => absurd h0 HE.out, fun _ => ⟨rfl, H6.out.tail.tail⟩⟩
/-- another kind -/
theorem told_kind {M0 : Imm} {L : List Res} (k f t i : Int) (hk : k ≠ 12) (ok : Bool) (p1 p2 p3 : Int) (v8 v9 : Value) (h8 : ∃ A n c, v8 = .slice A n c) (hv9 : ∃ A n c, v9 = .slice A n c) (w : World) (h : St M0 w L) :
    Calls Tryz.prog 19 #[.agg #[.int .i64 k, .int .i64 f, .int .i64 t, .int .u64 p1, .int .u64 i, .int .u64 p2, .int .u64 p3, .bool ok, v8, v9]] w fun e w' => e = .returned (.tuple #[.slice none 0 0, .int .i64 0, .int .i64 30]) ∧ St M0 w' L := by
  obtain ⟨A8, n8, c8, rfl⟩ := h8
  obtain ⟨A9, n9, c9, rfl⟩ := hv9
  have h1 := h.alloc 63 #[.int .i64 k, .int .i64 f, .int .i64 t, .int .u64 p1, .int .u64 i, .int .u64 p2, .int .u64 p3, .bool ok, .slice A8 n8 c8, .slice A9 n9 c9]
  obtain ⟨m0, m1, m2, m3, m4, m5, m6, m7, m8, m9⟩ := (h1.blk 0 rfl).ten
  have dk : (k != 12) = true := by simpa using hk
  have H := hide h1.tail
  clear h h1 hk
  go_enter Tryz.func19, Tryz.ntmps19
  go_wp2_with fail
  exact bodyPost_ret (results_three rfl _ _ _) rfl ⟨rfl, H.out⟩
theorem rtold_kind {M0 : Imm} {L : List Res} (k f t i : Int) (hk : k ≠ 12) (ok : Bool) (p1 p2 p3 : Int) (v8 v9 : Value) (h8 : ∃ A n c, v8 = .slice A n c) (hv9 : ∃ A n c, v9 = .slice A n c) (w : World) (h : St M0 w L) :
    Calls Tryz.prog 20 #[.agg #[.int .i64 k, .int .i64 f, .int .i64 t, .int .u64 p1, .int .u64 i, .int .u64 p2, .int .u64 p3, .bool ok, v8, v9]] w fun e w' => e = .returned (.tuple #[.slice none 0 0, .int .i64 0, .int .i64 30]) ∧ St M0 w' L := by
  obtain ⟨A8, n8, c8, rfl⟩ := h8
  obtain ⟨A9, n9, c9, rfl⟩ := hv9
  have h1 := h.alloc 63 #[.int .i64 k, .int .i64 f, .int .i64 t, .int .u64 p1, .int .u64 i, .int .u64 p2, .int .u64 p3, .bool ok, .slice A8 n8 c8, .slice A9 n9 c9]
  obtain ⟨m0, m1, m2, m3, m4, m5, m6, m7, m8, m9⟩ := (h1.blk 0 rfl).ten
  have dk : (k != 12) = true := by simpa using hk
  have H := hide h1.tail
  clear h h1 hk
  go_enter Tryz.func20, Tryz.ntmps20
  go_wp2_with fail
  exact bodyPost_ret (results_three rfl _ _ _) rfl ⟨rfl, H.out⟩
set_option maxRecDepth 100000 in
set_option maxHeartbeats 8000000 in
theorem toldLaw_st {M0 : Imm} {L : List Res} (hT : Tbl M0) (k f t i : Int) (ok : Bool) (p1 p2 p3 : Int) (v9 : Value) (hv9 : ∃ A n c, v9 = .slice A n c) (A : Option Addr) (c : Nat) (b : List Int) (w : World) (hb : Bytes b) (h : St M0 w (intsR .u8 (.slice A b.length c) b :: L)) :
    Calls Tryz.prog 4 #[.agg #[.int .i64 k, .int .i64 f, .int .i64 t, .int .u64 p1, .int .u64 i, .int .u64 p2, .int .u64 p3, .bool ok, .slice A b.length c, v9]] w fun e w' => e = .returned (.bool true) ∧ St M0 w' L := by
  have HV := hide hv9
  obtain ⟨A9, n9, c9, rfl⟩ := hv9
  generalize hn : b.length = n at *
  have HN := hide hn
  have HB := hide hb
  have h1 := h.alloc 63 #[.int .i64 k, .int .i64 f, .int .i64 t, .int .u64 p1, .int .u64 i, .int .u64 p2, .int .u64 p3, .bool ok, .slice A n c, .slice A9 n9 c9]
  have H := hide h1
  obtain ⟨gm, hgm⟩ : ∃ gm, gm = w.heap.size := ⟨_, rfl⟩
  rw [← hgm] at H
  have HGM := hide hgm
  clear h h1 hb hn hgm
  go_enter Tryz.func4, Tryz.ntmps4
  go_wp2_with fail
  rw [← HGM.out]
  refine (awake23_st hT _ H.out).mono ?_
  rintro e w1 ⟨rfl, h⟩
  obtain ⟨m0, m1, m2, m3, m4, m5, m6, m7, m8, m9⟩ := (h.blk 0 rfl).ten
  have H1 := hide h
  clear h H
  by_cases t0 : 2000 < n
  · have dt0 : decide ((2000 : Int) < (n : Int)) = true := decide_eq_true (by omega)
    go_wp2_with fail
    go_ret
    exact ⟨rfl, H1.out.tail.tail⟩
  have dt0 : decide ((2000 : Int) < (n : Int)) = false := decide_eq_false (by omega)
  have HL := hide (show b.length ≤ 1000000 by rw [HN.out]; omega)
  go_wp2_with fail
  clear dt0
  by_cases hk : k = 12
  · subst hk
    refine (told_st f t i ok p1 p2 p3 _ HV.out A n c b _ HB.out HL.out ((H1.out.copyA (Q := fun w => Ints w .u8 (.slice A n c) b) (by (repeat (first | with_reducible exact At.here | with_reducible apply At.there)))).sub (L' := intsR .u8 (.slice A n c) b :: blkR gm 63 #[.int .i64 12, .int .i64 f, .int .i64 t, .int .u64 p1, .int .u64 i, .int .u64 p2, .int .u64 p3, .bool ok, .slice A n c, .slice A9 n9 c9] :: intsR .u8 (.slice A n c) b :: L) (by (repeat (first | with_reducible exact Sub.refl _ | (with_reducible apply Sub.take; focus (repeat (first | with_reducible exact At.here | with_reducible apply At.there))) | with_reducible apply Sub.drop))))).mono ?_
    rintro e w2 ⟨hgood, hbad⟩
    by_cases he : toldE b = 0
    · obtain ⟨V, rfl, h⟩ := hgood he
      obtain ⟨AV, cV, rfl, _, _⟩ := (h.getRows 0 rfl).slice
      obtain ⟨m0, m1, m2, m3, m4, m5, m6, m7, m8, m9⟩ := (h.blk 1 rfl).ten
      have H2 := hide h
      have HE := hide he
      generalize htl : (toldL b).1.length = ln at *
      generalize hcc : (toldC b).1 = cc at *
      have HCC := hide hcc
      clear h hgood hbad H1 htl hcc he
      go_wp2_with fail
      refine (rtold_st f t i ok p1 p2 p3 _ HV.out A n c b _ HB.out HL.out (H2.out.sub (L' := intsR .u8 (.slice A n c) b :: rowsR 1 LogR (.slice AV ln cV) (toldL b).1 :: L) (by (repeat (first | with_reducible exact Sub.refl _ | (with_reducible apply Sub.take; focus (repeat (first | with_reducible exact At.here | with_reducible apply At.there))) | with_reducible apply Sub.drop))))).mono ?_
      rintro e w3 ⟨hgood, _⟩
      obtain ⟨V2, rfl, h⟩ := hgood HE.out
      rw [HCC.out]
      obtain ⟨AW, cW, rfl, _, _⟩ := (h.getRows 0 rfl).slice
      generalize (toldL b).1.length = ln2 at *
      have H3 := hide h
      clear h hgood H2 m0 m1 m2 m3 m4 m5 m6 m7 m8 m9
      have dc : (cc == cc) = true := by simp
      go_wp2_with fail
      refine (sames_true _ _ (toldL b).1 _ (H3.out.getRows 1 rfl) (H3.out.getRows 0 rfl) H3.out).mono ?_
      rintro e w4 ⟨rfl, h⟩
      have H4 := hide h
      clear h H3
      go_wp2_with fail
      go_ret
      exact ⟨rfl, H4.out.tail.tail⟩
    · obtain ⟨rfl, h⟩ := hbad he
      obtain ⟨m0, m1, m2, m3, m4, m5, m6, m7, m8, m9⟩ := (h.blk 0 rfl).ten
      have H2 := hide h
      have HE := hide he
      generalize hte : toldE b = te at *
      have HTE := hide hte
      clear h hgood hbad H1 hte he
      go_wp2_with fail
      refine (rtold_st f t i ok p1 p2 p3 _ HV.out A n c b _ HB.out HL.out (H2.out.sub (L' := intsR .u8 (.slice A n c) b :: L) (by (repeat (first | with_reducible exact Sub.refl _ | (with_reducible apply Sub.take; focus (repeat (first | with_reducible exact At.here | with_reducible apply At.there))) | with_reducible apply Sub.drop))))).mono ?_
      rintro e w3 ⟨_, hbad⟩
      obtain ⟨rfl, h⟩ := hbad (by rw [HTE.out]; exact HE.out)
      rw [HTE.out]
      have H3 := hide (h.nilLog)
      clear h hbad H2 m0 m1 m2 m3 m4 m5 m6 m7 m8 m9
      have dc : (te == te) = true := by simp
      go_wp2_with fail
      refine (sames_true _ _ [] _ (H3.out.getRows 0 rfl) (H3.out.getRows 0 rfl) H3.out).mono ?_
      rintro e w4 ⟨rfl, h⟩
      have H4 := hide h
      clear h H3
      go_wp2_with fail
      go_ret
      exact ⟨rfl, H4.out.tail⟩
  · refine (told_kind k f t i hk ok p1 p2 p3 _ _ ⟨A, n, c, rfl⟩ HV.out _ H1.out).mono ?_
    rintro e w2 ⟨rfl, h⟩
    obtain ⟨m0, m1, m2, m3, m4, m5, m6, m7, m8, m9⟩ := (h.blk 0 rfl).ten
    have H2 := hide h
    have HK := hide hk
    clear h H1 hk
    go_wp2_with fail
    refine (rtold_kind k f t i HK.out ok p1 p2 p3 _ _ ⟨A, n, c, rfl⟩ HV.out _ H2.out).mono ?_
    rintro e w3 ⟨rfl, h⟩
    have H3 := hide (h.nilLog)
    clear h H2 m0 m1 m2 m3 m4 m5 m6 m7 m8 m9
    go_wp2_with fail
    refine (sames_true _ _ [] _ (H3.out.getRows 0 rfl) (H3.out.getRows 0 rfl) H3.out).mono ?_
    rintro e w4 ⟨rfl, h⟩
    have H4 := hide h
    clear h H3
    go_wp2_with fail
    go_ret
    exact ⟨rfl, H4.out.tail.tail.tail⟩
end Go.Proofs.YtpaelngpmbeedaaGreatDoor
