/- store: a message heard, whatever comes of it; the chapter's examples. -/
import Derived.Test.YtpaelngpmbeedaaGreatDoorStoC
namespace Go.Proofs.YtpaelngpmbeedaaGreatDoor
open Go.RowKit

/-! ### plain -/
theorem check_range (m : Nat → Rg) (r : RQ) : 0 ≤ (checkI m r).2 ∧ (checkI m r).2 ≤ 1000 ∧ (checkI m r).2 ≠ 43 := by
  have hw : r.wrong = 0 ∨ r.wrong = 1 ∨ r.wrong = 2 := by unfold RQ.wrong; split; · exact .inr (.inl rfl)
                                                          split; · exact .inr (.inr rfl)
                                                          exact .inl rfl
  unfold checkI
  split
  · show 0 ≤ r.wrong ∧ r.wrong ≤ 1000 ∧ r.wrong ≠ 43
    omega
  split; · decide
  split; · decide
  split; · decide
  split
  · unfold Rg.next Rg.nextA
    have h2 : ∀ n, 0 ≤ (Rg.next2 n r).2 ∧ (Rg.next2 n r).2 ≤ 1000 ∧ (Rg.next2 n r).2 ≠ 43 := by
      intro n
      unfold Rg.next2
      split; · decide
      split; · decide
      decide
    split
    · split; · decide
      exact h2 _
    split; · decide
    split; · decide
    split; · decide
    exact h2 _
  · decide
theorem doO_len {m : Nat → Rg} {r : RQ} (hm : ∀ k, (m k).ok) (hr : r.ok) : (doO m r).length ≤ 4 := by
  unfold doO
  split
  · unfold Rg.out
    split
    · show 1 ≤ 4; omega
    split
    · exact (doM_ok hm hr _).ll
    · show 0 ≤ 4; omega
  · show 0 ≤ 4; omega
theorem doO_24 {m : Nat → Rg} {r : RQ} (hm : ∀ k, (m k).ok) (hr : r.ok) : ∀ x ∈ doO m r, x.length ≤ 24 := by
  intro x hx
  unfold doO at hx
  split at hx
  · unfold Rg.out at hx
    split at hx
    · rw [List.mem_singleton.1 hx]
      exact (doM_ok hm hr _).bb _
    split at hx
    · exact (doM_ok hm hr _).lb x hx
    · exact absurd hx List.not_mem_nil
  · exact absurd hx List.not_mem_nil
/-- the answer's bytes -/
def ansM (m : Nat → Rg) (r : RQ) : List Int := ansB (checkI m r).2 (doO m r)
theorem told_back (code : Int) (l : List (List Int)) (hc : 0 ≤ code ∧ code < 256) (hl : l.length < 256) (hx : ∀ x ∈ l, x.length ≤ 24) : toldC (ansB code l) = (code, ⟨numB (l.length : Nat) 1 ++ (l.flatMap bytB ++ []), false⟩) ∧ toldL (ansB code l) = (l, ⟨[], false⟩) ∧ toldE (ansB code l) = 0 := by
  have e1 : toldC (ansB code l) = (code, ⟨numB (l.length : Nat) 1 ++ (l.flatMap bytB ++ []), false⟩) := by
    show (Rd.mk (ansB code l) false).num ((1 : Nat) : Int) = _
    rw [show ansB code l = numB code 1 ++ (numB (l.length : Nat) 1 ++ (l.flatMap bytB ++ [])) by unfold ansB; rw [List.append_assoc, List.append_nil]]
    exact numQ_back hc.1 (by rw [show (256 : Int) ^ 1 = 256 by decide]; exact hc.2) (by omega) (by omega) _
  have e2 : toldN (ansB code l) = (((l.length : Nat) : Int), ⟨l.flatMap bytB ++ [], false⟩) := by
    show (toldC (ansB code l)).2.num ((1 : Nat) : Int) = _
    rw [e1]
    exact numQ_back (by omega) (by rw [show (256 : Int) ^ 1 = 256 by decide]; omega) (by omega) (by omega) _
  have e3 : toldL (ansB code l) = (l, ⟨[], false⟩) := by
    unfold toldL
    rw [e2]
    show Rd.logs ⟨l.flatMap bytB ++ [], false⟩ ((l.length : Int).toNat) = _
    rw [Int.toNat_natCast, logs_back l [] hx _ (Nat.le_refl _), List.take_length, List.drop_length]
    rfl
  exact ⟨e1, e3, by unfold toldE; rw [e3]; rfl⟩
theorem bytB_byt {b : List Int} (h : Bytes b) : Bytes (bytB b) := (numB_bytes _ _).append (h.take _)
theorem ansB_bytes {code : Int} {l : List (List Int)} (h : ∀ x ∈ l, Bytes x) : Bytes (ansB code l) := ((numB_bytes _ _).append (numB_bytes _ _)).append (flat_bytes l h)
theorem doO_bytes {m : Nat → Rg} {r : RQ} (hm : MB m) (hr : Bytes r.data) : ∀ x ∈ doO m r, Bytes x := by
  have h2 := hm.doM hr
  intro x hx
  unfold doO at hx
  split at hx
  · unfold Rg.out at hx
    split at hx
    · rw [List.mem_singleton.1 hx]
      exact h2.b _ _
    split at hx
    · exact h2.l _ x hx
    · exact absurd hx List.not_mem_nil
  · exact absurd hx List.not_mem_nil

/-! ### a message is heard -/
set_option maxRecDepth 100000 in
set_option maxHeartbeats 16000000 in
/-- the store goes down -/
theorem hear_dn {M0 : Imm} {L : List Res} (hT : Tbl M0) (g gs gd gj gi kk : Nat) (me f i : Int) (ok : Bool) (s : SM) (r : RQ) (A : Option Addr) (n c : Nat) (w : World) (hkk : kk ≤ 700000) (hS : SOk s 0 8 kk) (hr : r.ok) (hb : Bytes r.data) (hw : r.wrong = 0) (h43 : s.doE 0 8 r = 43)
    (h : St M0 w (intsR .u8 (.slice A n c) (encQ r) :: blkR g 163 (stoC me gd (.pointer (some ⟨gs, 0, none⟩))) :: srvR gs gd gj gi 0 8 s L)) :
    Calls Tryz.prog 44 #[.pointer (some ⟨g, 0, none⟩), msgV 11 f me i ok (.slice A n c)] w fun e w' => e = .returned (.slice none 0 0) ∧ St M0 w' (blkR g 163 (stoC me gd (.pointer none)) :: srvR gs gd gj gi 0 8 (s.doS 0 8 r) L) := by
  have h1 := h.alloc 63 (msgC 11 f me i ok (.slice A n c))
  obtain ⟨m0, m1, m2, m3, m4, m5, m6, m7, m8, m9⟩ := (h1.blk 0 rfl).ten
  obtain ⟨s0, s1, s2⟩ := (h1.blk 2 rfl).three
  have H := hide h1
  have dm : (me != me) = false := by simp
  have HS := hide hS
  have HR := hide hr
  have HB := hide hb
  have HW := hide hw
  have H43 := hide h43
  clear h h1 hS hr hb hw h43
  go_enter Tryz.func44, Tryz.ntmps44
  go_wp2_with fail
  go_quiet (fail)
  go_wp2_with fail
  refine (sdo_st hT g gs gd gj gi kk me s r A n c _ hkk HS.out HR.out HB.out HW.out ((H.out.drewN _).sub (L' := intsR .u8 (.slice A n c) (encQ r) :: blkR g 163 (stoC me gd (.pointer (some ⟨gs, 0, none⟩))) :: srvR gs gd gj gi 0 8 s L) (by unfold srvR; (repeat (first | with_reducible exact Sub.refl _ | (with_reducible apply Sub.take; focus (repeat (first | with_reducible exact At.here | with_reducible apply At.there))) | with_reducible apply Sub.drop))))).mono ?_
  rintro e w2 ⟨V, rfl, h⟩
  rw [H43.out]
  obtain ⟨AV, cV, rfl, _, _⟩ := (h.getRows 0 rfl).slice
  obtain ⟨s0, s1, s2⟩ := (h.blk 1 rfl).three
  have fz := (h.blk 1 rfl).frozen
  have H2 := hide h.tail
  generalize (s.doO 0 8 r).length = nn at *
  clear h H m0 m1 m2 m3 m4 m5 m6 m7 m8 m9
  go_wp2_with fail
  go_ret
  exact ⟨rfl, H2.out.set_ 2 (.pointer none)⟩
theorem doO_of {s : SM} {r : RQ} (h : s.doE 0 8 r = (checkI s.M r).2) : s.doO 0 8 r = doO s.M r := by
  unfold SM.doO
  rw [h]
  split
  · rfl
  · rename_i h0
    exact (if_neg h0).symm
/-- whatever comes of it -/
theorem hear_st {M0 : Imm} {L : List Res} (hT : Tbl M0) (g gs gd gj gi : Nat) (me f i : Int) (ok : Bool) (s : SM) (K T : Int) (r : RQ) (A : Option Addr) (n c : Nat) (w : World) (hU : Up s 0 8 K T) (hK : K ≤ 3000000000) (hTT : T < 256) (hr : r.ok) (hb : Bytes r.data) (hw : r.wrong = 0)
    (h : St M0 w (intsR .u8 (.slice A n c) (encQ r) :: blkR g 163 (stoC me gd (.pointer (some ⟨gs, 0, none⟩))) :: srvR gs gd gj gi 0 8 s L)) :
    Calls Tryz.prog 44 #[.pointer (some ⟨g, 0, none⟩), msgV 11 f me i ok (.slice A n c)] w fun e w' =>
      (∃ gm A2 c2, e = .returned (.slice (some ⟨gm, 0, none⟩) 1 1) ∧ Up (s.doS 0 8 r) 0 8 (K + 3) T ∧ (s.doS 0 8 r).M = doM s.M r ∧ St M0 w' (blkR gm 63 (msgC 12 me f i ((checkI s.M r).2 == 0) (.slice A2 (ansM s.M r).length c2)) :: intsR .u8 (.slice A2 (ansM s.M r).length c2) (ansM s.M r) :: blkR g 163 (stoC me gd (.pointer (some ⟨gs, 0, none⟩))) :: srvR gs gd gj gi 0 8 (s.doS 0 8 r) L)) ∨
      (e = .returned (.slice none 0 0) ∧ s.lg r = true ∧ Down (s.doS 0 8 r) 0 8 (doM s.M r) (K + 3) T ∧ (s.doS 0 8 r).M = s.M ∧ St M0 w' (blkR g 163 (stoC me gd (.pointer none)) :: srvR gs gd gj gi 0 8 (s.doS 0 8 r) L)) := by
  have hm := hU.mi
  have hS := hU.sok (by omega) 0
  rcases hU.doS hK hTT hr hb with ⟨d1, d2, d3, _⟩ | ⟨d1, d2, d3, d4, _⟩
  · have hc := check_range s.M r
    have hO := doO_of d1
    have hD : (s.doS 0 8 r).D.down = false := d2.c.dn
    refine (hear_up hT g gs gd gj gi 0 me f i ok s r A n c w (by omega) hS hr hb hw (by rw [d1]; omega) (by rw [d1]; exact hc.2.2) hD (by rw [hO]; have := doO_len hm.ok hr; omega) h).mono ?_
    rintro e w' ⟨gm, A2, c2, rfl, h1⟩
    rw [hO, d1] at h1
    refine .inl ⟨gm, A2, c2, rfl, d2, ?_, h1⟩
    rw [d3]
    split
    · rfl
    · rename_i h0
      exact (if_neg (fun hc => h0 hc.1)).symm
  · refine (hear_dn hT g gs gd gj gi 0 me f i ok s r A n c w (by omega) hS hr hb hw d1 h).mono ?_
    rintro e w' ⟨rfl, h1⟩
    exact .inr ⟨rfl, d2, d3, d4, h1⟩
/-- on a disk that lives -/
theorem hear_live {M0 : Imm} {L : List Res} (hT : Tbl M0) (g gs gd gj gi : Nat) (me f i : Int) (ok : Bool) (s : SM) (K T : Int) (r : RQ) (A : Option Addr) (n c : Nat) (w : World) (hU : Up s 0 8 K T) (hN : NF s.D) (hK : K ≤ 3000000000) (hTT : T < 256) (hr : r.ok) (hb : Bytes r.data) (hw : r.wrong = 0)
    (h : St M0 w (intsR .u8 (.slice A n c) (encQ r) :: blkR g 163 (stoC me gd (.pointer (some ⟨gs, 0, none⟩))) :: srvR gs gd gj gi 0 8 s L)) :
    Calls Tryz.prog 44 #[.pointer (some ⟨g, 0, none⟩), msgV 11 f me i ok (.slice A n c)] w fun e w' =>
      ∃ gm A2 c2, e = .returned (.slice (some ⟨gm, 0, none⟩) 1 1) ∧ Up (s.doS 0 8 r) 0 8 (K + 3) T ∧ NF (s.doS 0 8 r).D ∧ (s.doS 0 8 r).M = doM s.M r ∧ St M0 w' (blkR gm 63 (msgC 12 me f i ((checkI s.M r).2 == 0) (.slice A2 (ansM s.M r).length c2)) :: intsR .u8 (.slice A2 (ansM s.M r).length c2) (ansM s.M r) :: blkR g 163 (stoC me gd (.pointer (some ⟨gs, 0, none⟩))) :: srvR gs gd gj gi 0 8 (s.doS 0 8 r) L) := by
  have hn := NF.doS hN 0 8 r
  refine (hear_st hT g gs gd gj gi me f i ok s K T r A n c w hU hK hTT hr hb hw h).mono ?_
  rintro e w' (⟨gm, A2, c2, he, h1, h2, h3⟩ | ⟨_, _, h1, _, _⟩)
  · exact ⟨gm, A2, c2, he, h1, hn, h2, h3⟩
  · have := h1.c.dn
    rw [hn.2] at this
    cases this

/-! ### the examples -/
def stN (n : Nat) (a : Int) (ring : Nat) : SM := ⟨openM (DS.new n) a ring, openD (DS.new n) a ring, openJ (DS.new n) a ring, false⟩
theorem stN_up {n : Nat} {a : Int} {ring : Nat} (h0 : 0 ≤ a) (hr : 1 ≤ ring ∧ ring ≤ 100) (h1 : a + 46 + (ring : Int) ≤ (n : Int)) (h2 : n ≤ 512) : OpOk (DS.new n) a ring ∧ (stN n a ring).M = aw0 ∧ Up (stN n a ring) a ring 10 1 ∧ NF (stN n a ring).D := by
  obtain ⟨h1, h2, h3, h4, _⟩ := new_open h0 hr h1 h2
  exact ⟨h1, h2, h3, h4.nf⟩
abbrev st0 : SM := stN 54 0 8
theorem st0_up : OpOk (DS.new 54) 0 8 ∧ st0.M = aw0 ∧ Up st0 0 8 10 1 ∧ NF st0.D := stN_up (by omega) (by omega) (by omega) (by omega)
set_option maxRecDepth 100000 in
set_option maxHeartbeats 4000000 in
theorem begun_st {M0 : Imm} {L : List Res} (hT : Tbl M0) (w : World) (h : St M0 w L) :
    Calls Tryz.prog 42 #[] w fun e w' => ∃ gd g gs gj gi, e = .returned (.tuple #[.pointer (some ⟨gd, 0, none⟩), .pointer (some ⟨g, 0, none⟩)]) ∧ St M0 w' (blkR g 163 (stoC 2 gd (.pointer (some ⟨gs, 0, none⟩))) :: srvR gs gd gj gi 0 8 st0 L) := by
  have H := hide h
  clear h
  go_enter Tryz.func42, Tryz.ntmps42
  go_wp2_with fail
  refine (new_ds 54 (by omega) (by omega) H.out).mono ?_
  rintro e w1 ⟨gd, rfl, h⟩
  have H1 := hide h
  clear h H
  go_wp2_with fail
  refine (snew_st hT gd 10 2 (DS.new 54) _ (by omega) ((new_calm (n := 54) (by omega) (by omega)).1.dsok 10) (by omega) st0_up.1 H1.out).mono ?_
  rintro e w2 ⟨g, gs, gj, gi, rfl, h⟩
  have H2 := hide h
  clear h H1
  go_wp2_with fail
  go_ret2
  exact ⟨gd, g, gs, gj, gi, rfl, H2.out⟩
set_option maxRecDepth 100000 in
set_option maxHeartbeats 4000000 in
/-- two lists of one message, that are the same -/
theorem mall_one {M0 : Imm} {L : List Res} (ga gb : Nat) (k f t i : Int) (ok : Bool) (A B : Option Addr) (n c d : Nat) (xs : List Int) (hn : n = xs.length) (w : World)
    (h : St M0 w (blkR ga 63 (msgC k f t i ok (.slice A n c)) :: blkR gb 63 (msgC k f t i ok (.slice B n d)) :: intsR .u8 (.slice A n c) xs :: intsR .u8 (.slice B n d) xs :: L)) :
    Calls Tryz.prog 47 #[.slice (some ⟨ga, 0, none⟩) 1 1, .slice (some ⟨gb, 0, none⟩) 1 1] w fun e w' => e = .returned (.bool true) ∧ St M0 w' L := by
  obtain ⟨a0, a1, a2, a3, a4, a5, a6, a7, a8, a9⟩ := (h.blk 0 rfl).ten
  obtain ⟨b0, b1, b2, b3, b4, b5, b6, b7, b8, b9⟩ := (h.blk 1 rfl).ten
  have H := hide h
  have HN := hide hn
  clear h hn
  go_enter Tryz.func47, Tryz.ntmps47
  go_wp2_with fail
  refine wp_loop_rounds 2 ?_
  rw [rounds_succ]
  go_wp2_with fail
  refine region_tail 8 (by kernel_rfl) (by kernel_rfl) (fun W hW => ?_)
  have H5 := hide H.out.drew
  rw [← hW] at H5
  obtain ⟨a0, a1, a2, a3, a4, a5, a6, a7, a8, a9⟩ := (H5.out.blk 0 rfl).ten
  obtain ⟨b0, b1, b2, b3, b4, b5, b6, b7, b8, b9⟩ := (H5.out.blk 1 rfl).ten
  clear hW H
  simp only [List.take_succ_cons, List.take_zero, List.drop_succ_cons, List.drop_zero]
  repeat still_step
  try refine wpStill_nil ?_
  go_wp2_with fail
  refine (msame_true k f t i ok A B n n c d xs _ (H5.out.sub (L' := intsR .u8 (.slice A n c) xs :: intsR .u8 (.slice B n d) xs :: L) (by (repeat (first | with_reducible exact Sub.refl _ | (with_reducible apply Sub.take; focus (repeat (first | with_reducible exact At.here | with_reducible apply At.there))) | with_reducible apply Sub.drop))))).mono ?_
  rintro e w2 ⟨rfl, h⟩
  have H6 := hide h
  clear h H5 a0 a1 a2 a3 a4 a5 a6 a7 a8 a9 b0 b1 b2 b3 b4 b5 b6 b7 b8 b9
  go_wp2_with fail
  rw [rounds_succ]
  go_wp2_with fail
  go_ret
  exact ⟨rfl, H6.out⟩
end Go.Proofs.YtpaelngpmbeedaaGreatDoor
