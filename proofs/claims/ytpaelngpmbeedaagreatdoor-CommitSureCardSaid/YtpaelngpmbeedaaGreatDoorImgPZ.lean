/- Image.Pack. Printed by gen_imgp.py. -/
import Derived.Test.YtpaelngpmbeedaaGreatDoorImgOZ
import Derived.Test.YtpaelngpmbeedaaGreatDoorPackZ
import Derived.Deep.LoopGhost
import Derived.Deep.MidRow
import Derived.Test.YtpaelngpmbeedaaGreatDoorStZ
import Derived.Test.YtpaelngpmbeedaaGreatDoorImgRZ
namespace Go.Proofs.YtpaelngpmbeedaaGreatDoor
open Go.RowKit

def regB (x : Rg) : List Int := numI x.high 8 ++ numI x.seq 4 ++ bytB (x.b 0) ++ bytB (x.b 1) ++ bytB (x.b 2) ++ bytB (x.b 3) ++ numI x.log.length 1 ++ x.log.flatMap bytB
def packTo (m : Nat → Rg) (k : Nat) : List Int := (List.range k).flatMap fun i => regB (m i)
def packI (m : Nat → Rg) : List Int := packTo m 4
theorem packTo_succ (m : Nat → Rg) (k : Nat) : packTo m (k + 1) = packTo m k ++ regB (m k) := by simp [packTo, List.range_succ]
theorem logB_length (l : List (List Int)) : (l.flatMap bytB).length ≤ l.length * 1002 := by
  induction l with
  | nil => simp
  | cons b l ih => have := bytB_length b; simp only [List.flatMap_cons, List.length_append, List.length_cons]; omega
theorem regB_length (x : Rg) (h : x.log.length ≤ 255) : (regB x).length ≤ 260000 := by
  have := logB_length x.log
  have h1 := numI_length x.high 8
  have h2 := numI_length x.seq 4
  have h3 := numI_length x.log.length 1
  have := bytB_length (x.b 0)
  have := bytB_length (x.b 1)
  have := bytB_length (x.b 2)
  have := bytB_length (x.b 3)
  unfold regB
  simp only [List.length_append]
  omega
theorem packTo_length (m : Nat → Rg) (h : ∀ k, (m k).log.length ≤ 255) (k : Nat) : (packTo m k).length ≤ k * 260000 := by
  induction k with
  | zero => simp [packTo]
  | succ k ih => have := regB_length (m k) (h k); rw [packTo_succ, List.length_append]; omega

section
variable {P : Program} {ops : Array Oper} {rest : List Oper} {o : Oper} {ac : Act} {Q : Exit → Act → World → Prop} {w w' : World} {v : Value}
theorem at_index (hgd : o.guard = none) (t : TypeId) (x y : Operand) (p u : Value) (ho : o.op = .index t x y) (hx : ac.eval x = p) (hy : ac.eval y = u)
    (hrun : (Instr.index t p u).run P w = .ok v w') (h : wpList P ops Q rest (ac.put o.dst v) w') : wpList P ops Q (o :: rest) ac w := by
  refine wpList_plain hgd fun K hK => ?_
  unfold Oper.wp execOp
  simp only [ho, hx, hy, Sem.run_bind, Sem.run_pure, Result.andThen_ok, hrun]
  exact hK _ _ h
end
theorem img_load {w : World} {g : Nat} {vs : Nat → RV} {m : Nat → Rg} (h : Blk w g 102 (imgC m vs)) : (Instr.loadAt 100 (.pointer (some ⟨g, 0, none⟩))).run Tryz.prog w = .ok (.agg (imgC m vs)) w := by
  have hr : w.rangeAt g 0 (imgC m vs).toList := fun j u hu => by
    rw [Nat.zero_add, h.cell]
    simpa using hu
  have := run_loadAt_mid (P := Tryz.prog) w g 0 100 (imgC m vs).toList _ hr Tryz.underlying100 rfl (by kernel_rfl)
  simpa using this
theorem img_index (vs : Nat → RV) (m : Nat → Rg) {k : Nat} (hk : k < 4) (w : World) : (Instr.index 100 (.agg (imgC m vs)) (.int .i64 (k : Nat))).run Tryz.prog w = .ok (.agg #[.int .u64 (m k).high, .int .u32 (m k).seq, (vs k).b 0, (vs k).b 1, (vs k).b 2, (vs k).b 3, (vs k).log]) w := by
  rcases below4 hk with rfl | rfl | rfl | rfl <;> kernel_rfl
theorem arr_index0 (v0 v1 v2 v3 : Value) (w : World) : (Instr.index 35 (.agg #[v0, v1, v2, v3]) (.int .i64 0)).run Tryz.prog w = .ok v0 w := by kernel_rfl
theorem arr_index1 (v0 v1 v2 v3 : Value) (w : World) : (Instr.index 35 (.agg #[v0, v1, v2, v3]) (.int .i64 1)).run Tryz.prog w = .ok v1 w := by kernel_rfl
theorem arr_index2 (v0 v1 v2 v3 : Value) (w : World) : (Instr.index 35 (.agg #[v0, v1, v2, v3]) (.int .i64 2)).run Tryz.prog w = .ok v2 w := by kernel_rfl
theorem arr_index3 (v0 v1 v2 v3 : Value) (w : World) : (Instr.index 35 (.agg #[v0, v1, v2, v3]) (.int .i64 3)).run Tryz.prog w = .ok v3 w := by kernel_rfl
theorem Blk.seven {w : World} {b : Nat} {t : TypeId} {v0 v1 v2 v3 v4 v5 v6 : Value} (h : Blk w b t #[v0, v1, v2, v3, v4, v5, v6]) : w.cell? ⟨b, 0, none⟩ = some v0 ∧ w.cell? ⟨b, 1, none⟩ = some v1 ∧ w.cell? ⟨b, 2, none⟩ = some v2 ∧ w.cell? ⟨b, 3, none⟩ = some v3 ∧ w.cell? ⟨b, 4, none⟩ = some v4 ∧ w.cell? ⟨b, 5, none⟩ = some v5 ∧ w.cell? ⟨b, 6, none⟩ = some v6 :=
  ⟨h.cell 0, h.cell 1, h.cell 2, h.cell 3, h.cell 4, h.cell 5, h.cell 6⟩

theorem RowsC.at1 {w : World} {A : Option Addr} {n c : Nat} {cs : Nat → List Value} {xs : List (List Int)} {i : Nat} {x : List Int} (h : RowsC w 1 LogR (.slice A n c) cs xs) (hi : xs[i]? = some x) :
    ∃ ad vb, A = some ad ∧ cs i = [vb] ∧ w.cell? (ad.add i) = some vb ∧ Ints w .u8 vb x := by
  obtain ⟨A', c', e, _, _, h3⟩ := h
  injection e with e1 e2 e3
  subst e1
  obtain ⟨ad, ha, _, hc, ⟨vb, ecs, hI⟩⟩ := h3 i x hi
  rw [ecs] at hc
  exact ⟨ad, vb, ha, ecs, by simpa [Addr.add] using hc 0 _ rfl, hI⟩

set_option maxRecDepth 100000 in
set_option maxHeartbeats 4000000 in
theorem pack_st {M0 : Imm} {L : List Res} (g : Nat) (m : Nat → Rg) (w : World) (hm : ∀ k, (m k).ok) (h : St M0 w (imgR g m :: L)) :
    Calls Tryz.prog 15 #[.pointer (some ⟨g, 0, none⟩)] w fun e w' => ∃ v, e = .returned v ∧ St M0 w' (rowR 5 1 v (packI m).length (bv (packI m)) :: imgR g m :: L) := by
  obtain ⟨vs, h⟩ := h.img
  have h1 := h.nilRow 5 1
  have h2 := (h1.alloc 97 #[.slice none 0 0])
  have H := hide (St.addWr (xs := []) h2 rfl)
  have hld := fun w' (hw : Blk w' g 102 (imgC m vs)) => img_load hw
  have HLD := hide (hld _ (H.out.blk 1 rfl))
  have HLEN := hide (fun k => packTo_length m (fun i => by have := (hm i).ll; omega) k)
  have HM := hide hm
  clear h h1 h2 hld hm
  go_enter Tryz.func15, Tryz.ntmps15
  go_wp2_with ((with_reducible apply at_load (t := 100)); (focus rfl); (focus rfl); (focus rfl); (focus exact HLD.out))
  clear HLD
  go_loopg [14] 4 (fun gh i wr => ∃ k : Nat, gh = 4 - k ∧ k ≤ 4 ∧ i = .int .i64 (k : Nat) ∧ St M0 wr (wrR w.heap.size (packTo m k) :: imgB g vs m :: regsR vs m :: L))
  case atStart => exact ⟨0, rfl, by omega, rfl, H.out⟩
  case round =>
    clear H
    obtain ⟨k, hg, hk, rfl, h⟩ := hrel
    have HG := hide hg
    clear hg
    by_cases hlt : k < 4
    · have hR := (h.get 2 rfl) k hlt
      obtain ⟨A0, c0, e0, _, _, _⟩ := hR.b 0 (by omega)
      obtain ⟨A1, c1, e1, _, _, _⟩ := hR.b 1 (by omega)
      obtain ⟨A2, c2, e2, _, _, _⟩ := hR.b 2 (by omega)
      obtain ⟨A3, c3, e3, _, _, _⟩ := hR.b 3 (by omega)
      obtain ⟨A6, c6, e6, hc6, hm6, _⟩ := hR.log
      have hidx := img_index vs m hlt
      simp only [e0, e1, e2, e3, e6] at hidx
      have HIDX := hide hidx
      have E0 := hide e0
      have E1 := hide e1
      have E2 := hide e2
      have E3 := hide e3
      have E6 := hide e6
      have BL : Hid ((packTo m k ++ regB (m k)).length ≤ 4000000) := hide (by rw [← packTo_succ]; have := HLEN.out (k + 1); omega)
      unfold regB at BL
      have q0 := (HM.out k).s0
      have q1 := (HM.out k).s1
      have q4 := (HM.out k).ll
      have H1 := hide (h.alloc 99 #[.int .u64 (m k).high, .int .u32 (m k).seq, .slice A0 ((m k).b 0).length c0, .slice A1 ((m k).b 1).length c1, .slice A2 ((m k).b 2).length c2, .slice A3 ((m k).b 3).length c3, .slice A6 (m k).log.length c6]).swap
      clear h hR e0 e1 e2 e3 e6 hidx
      go_wp2_with ((with_reducible apply at_index (t := 100)); (focus rfl); (focus rfl); (focus rfl); (focus rfl); (focus exact HIDX.out _))
      refine (num_st w.heap.size (m k).high 8 _ _ (by have := BL.out; simp only [List.length_append] at this ⊢; omega) H1.out).mono ?_
      rintro e w2 ⟨rfl, h⟩
      obtain ⟨s0, s1, s2, s3, s4, s5, s6⟩ := (h.blk 1 rfl).seven
      have H2 := hide h
      clear H1 h
      go_wp2_with fail
      refine (num_st w.heap.size (m k).seq 4 _ _ (by have := BL.out; simp only [List.length_append] at this ⊢; omega) H2.out).mono ?_
      rintro e w3 ⟨rfl, h⟩
      obtain ⟨s0, s1, s2, s3, s4, s5, s6⟩ := (h.blk 1 rfl).seven
      have H3 := hide h
      clear H2 h
      go_wp2_with fail
      refine wp_loop_rounds 5 ?_
      rw [rounds_succ]
      go_wp2_with ((with_reducible apply at_index (t := 35)); (focus rfl); (focus rfl); (focus rfl); (focus rfl); (focus exact arr_index0 _ _ _ _ _))
      have h9 := ((H3.out.copy 3 rfl).pers1 (R' := fun w' => Ints w' .u8 (.slice A0 ((m k).b 0).length c0) ((m k).b 0)) (fun w' hr => by have := (hr k hlt).b 0 (by omega); rw [E0.out] at this; exact this)).swap
      refine (byt_st (w.heap.size) _ ((m k).b 0) _ _ (by have := BL.out; simp only [List.length_append] at this ⊢; omega) h9).mono ?_
      clear h9 H3
      rintro e w5 ⟨rfl, h⟩
      obtain ⟨s0, s1, s2, s3, s4, s5, s6⟩ := (h.blk 2 rfl).seven
      have H4 := hide h.del1
      clear h
      go_wp2_with fail
      rw [rounds_succ]
      go_wp2_with ((with_reducible apply at_index (t := 35)); (focus rfl); (focus rfl); (focus rfl); (focus rfl); (focus exact arr_index1 _ _ _ _ _))
      have h9 := ((H4.out.copy 3 rfl).pers1 (R' := fun w' => Ints w' .u8 (.slice A1 ((m k).b 1).length c1) ((m k).b 1)) (fun w' hr => by have := (hr k hlt).b 1 (by omega); rw [E1.out] at this; exact this)).swap
      refine (byt_st (w.heap.size) _ ((m k).b 1) _ _ (by have := BL.out; simp only [List.length_append] at this ⊢; omega) h9).mono ?_
      clear h9 H4
      rintro e w6 ⟨rfl, h⟩
      obtain ⟨s0, s1, s2, s3, s4, s5, s6⟩ := (h.blk 2 rfl).seven
      have H5 := hide h.del1
      clear h
      go_wp2_with fail
      rw [rounds_succ]
      go_wp2_with ((with_reducible apply at_index (t := 35)); (focus rfl); (focus rfl); (focus rfl); (focus rfl); (focus exact arr_index2 _ _ _ _ _))
      have h9 := ((H5.out.copy 3 rfl).pers1 (R' := fun w' => Ints w' .u8 (.slice A2 ((m k).b 2).length c2) ((m k).b 2)) (fun w' hr => by have := (hr k hlt).b 2 (by omega); rw [E2.out] at this; exact this)).swap
      refine (byt_st (w.heap.size) _ ((m k).b 2) _ _ (by have := BL.out; simp only [List.length_append] at this ⊢; omega) h9).mono ?_
      clear h9 H5
      rintro e w7 ⟨rfl, h⟩
      obtain ⟨s0, s1, s2, s3, s4, s5, s6⟩ := (h.blk 2 rfl).seven
      have H6 := hide h.del1
      clear h
      go_wp2_with fail
      rw [rounds_succ]
      go_wp2_with ((with_reducible apply at_index (t := 35)); (focus rfl); (focus rfl); (focus rfl); (focus rfl); (focus exact arr_index3 _ _ _ _ _))
      have h9 := ((H6.out.copy 3 rfl).pers1 (R' := fun w' => Ints w' .u8 (.slice A3 ((m k).b 3).length c3) ((m k).b 3)) (fun w' hr => by have := (hr k hlt).b 3 (by omega); rw [E3.out] at this; exact this)).swap
      refine (byt_st (w.heap.size) _ ((m k).b 3) _ _ (by have := BL.out; simp only [List.length_append] at this ⊢; omega) h9).mono ?_
      clear h9 H6
      rintro e w8 ⟨rfl, h⟩
      obtain ⟨s0, s1, s2, s3, s4, s5, s6⟩ := (h.blk 2 rfl).seven
      have H7 := hide h.del1
      clear h
      go_wp2_with fail
      rw [rounds_succ]
      go_wp2_with fail
      refine (num_st w.heap.size ((m k).log.length : Nat) 1 _ _ (by have := BL.out; simp only [List.length_append] at this ⊢; omega) H7.out).mono ?_
      rintro e w9 ⟨rfl, h⟩
      obtain ⟨s0, s1, s2, s3, s4, s5, s6⟩ := (h.blk 1 rfl).seven
      have H8 := hide (h.pick (L' := wrR w.heap.size (packTo m k ++ numI (m k).high 8 ++ numI (m k).seq 4 ++ bytB ((m k).b 0) ++ bytB ((m k).b 1) ++ bytB ((m k).b 2) ++ bytB ((m k).b 3) ++ numI ((m k).log.length : Nat) 1) :: imgB g vs m :: regsR vs m :: L) 4 [0, 2, 3])
      clear h H7
      generalize hn6 : (m k).log.length = n6 at *
      have HN6 := hide hn6
      clear hn6
      go_wp2_with fail
      clear s0 s1 s2 s3 s4 s5 s6
      go_loopg [40] n6 (fun gh i wq => ∃ j : Nat, gh = n6 - j ∧ j ≤ n6 ∧ i = .int .i64 (j : Nat) ∧ St M0 wq (wrR w.heap.size (packTo m k ++ numI (m k).high 8 ++ numI (m k).seq 4 ++ bytB ((m k).b 0) ++ bytB ((m k).b 1) ++ bytB ((m k).b 2) ++ bytB ((m k).b 3) ++ numI (n6 : Nat) 1 ++ ((m k).log.take j).flatMap bytB) :: imgB g vs m :: regsR vs m :: L))
      case atStart => exact ⟨0, rfl, by omega, rfl, by simpa using H8.out⟩
      case round =>
        clear H8
        obtain ⟨j, hg, hj, rfl, h⟩ := hrel
        have HJ := hide hg
        clear hg
        by_cases hjt : j < n6
        · have hx := List.getElem?_eq_getElem (l := (m k).log) (i := j) (by rw [HN6.out]; exact hjt)
          generalize (m k).log[j]'(by rw [HN6.out]; exact hjt) = x at hx
          have hr := ((h.get 2 rfl) k hlt).log
          rw [E6.out] at hr
          obtain ⟨ad, vb, rfl, ecs, hcell, hI⟩ := hr.at1 hx
          obtain ⟨B, d, rfl, _, _, _⟩ := hI
          have h9 := ((h.copy 2 rfl).pers1 (R' := fun w' => Ints w' .u8 (.slice B x.length d) x) (fun w' hr => by
            have h1 := (hr k hlt).log
            rw [E6.out] at h1
            obtain ⟨_, vb', _, e', _, hI'⟩ := h1.at1 hx
            rw [ecs] at e'
            injection e' with e'
            rw [e']
            exact hI')).swap
          have HX := hide hx
          have H9 := hide h9
          have hln : ((m k).log.take (j + 1)).flatMap bytB = ((m k).log.take j).flatMap bytB ++ bytB x := by rw [take_snoc hx, List.flatMap_append]; simp
          have hle : (((m k).log.take (j + 1)).flatMap bytB).length ≤ 300000 := by
            have := logB_length ((m k).log.take (j + 1))
            have := List.length_take_le (j + 1) (m k).log
            have := q4
            have := HN6.out
            omega
          rw [hln, List.length_append] at hle
          have HLN := hide hln
          have i0 : (0 : Int) ≤ (j : Int) := by omega
          have i1 : (j : Int) < (n6 : Int) := by omega
          clear h hr ecs h9 hx hln
          go_wp2_with fail
          refine (byt_st w.heap.size _ x _ _ (by have := BL.out; simp only [List.length_append] at this ⊢; omega) H9.out).mono ?_
          clear H9 hle
          rintro e w10 ⟨rfl, h⟩
          have H10 := hide h.del1
          clear h
          go_wp2_with fail
          go_roundg (n6 - (j + 1))
          case measure => have := HJ.out; omega
          case rel => exact ⟨j + 1, rfl, by omega, by go_num, by rw [HLN.out, ← List.append_assoc]; exact H10.out⟩
        · obtain rfl : j = n6 := by omega
          rw [List.take_of_length_le (by rw [HN6.out]; exact Nat.le_refl _)] at h
          have H := hide h
          clear h
          go_wp2_with fail
          go_roundg (4 - (k + 1))
          case measure => have := HG.out; omega
          case rel => exact ⟨k + 1, rfl, by omega, by go_num, by rw [packTo_succ]; unfold regB; rw [HN6.out]; simpa only [List.append_assoc] using H.out⟩
    · obtain rfl : k = 4 := by omega
      have H := hide h
      clear h
      go_wp2_with fail
      refine (out_st w.heap.size (packTo m 4) _ (by have := HLEN.out 4; omega) H.out).mono ?_
      rintro e w2 ⟨v, rfl, h⟩
      have H2 := hide (h.pick (L' := imgB g vs m :: regsR vs m :: rowR 5 1 v (packI m).length (bv (packI m)) :: L) 4 [2, 3, 0])
      clear H h
      go_wp2_with fail
      go_ret
      exact ⟨v, rfl, (St.addImg H2.out).swap⟩

end Go.Proofs.YtpaelngpmbeedaaGreatDoor
/- The statements' own examples: Image. -/
namespace Go.Proofs.YtpaelngpmbeedaaGreatDoor
open Go.RowKit

def aw0 : Nat → Rg := fun _ => Rg.zero
abbrev aq1 : RQ := ⟨2, 0, 1, 5, 1, [97]⟩
abbrev aq2 : RQ := ⟨1, 0, 1, 5, 0, []⟩
abbrev aq3 : RQ := ⟨1, 0, 1, 4, 0, []⟩
abbrev aq5 : RQ := ⟨2, 0, 1, 5, 3, []⟩
abbrev aq6 : RQ := ⟨2, 0, 1, 6, 2, []⟩
abbrev aq7 : RQ := ⟨4, 0, 0, 6, 1, [98]⟩
abbrev aq8 : RQ := ⟨2, 0, 1, 5, 2, []⟩
def aw1 : Nat → Rg := doM aw0 aq1
def aw7 : Nat → Rg := doM aw1 aq7
theorem aw_e1 : (checkI aw0 aq1).2 = 0 := by decide
theorem aw_e2 : (checkI aw1 aq2).2 = 0 := by decide
theorem aw_e3 : (checkI aw1 aq3).2 = 100 := by decide
theorem aw_e4 : (checkI aw1 aq1).2 = 0 := by decide
theorem aw_e5 : (checkI aw1 aq5).2 = 60 := by decide
theorem aw_e6 : (checkI aw1 aq6).2 = 60 := by decide
theorem aw_e7 : (checkI aw1 aq7).2 = 0 := by decide
theorem aw_e8 : (checkI aw7 aq8).2 = 100 := by decide
theorem aw_m2 : doM aw1 aq2 = aw1 := if_neg (by decide)
theorem aw_m3 : doM aw1 aq3 = aw1 := if_neg (by decide)
theorem aw_m4 : doM aw1 aq1 = aw1 := if_neg (by decide)
theorem aw_m5 : doM aw1 aq5 = aw1 := if_neg (by decide)
theorem aw_m6 : doM aw1 aq6 = aw1 := if_neg (by decide)
theorem aw_o2 : doO aw1 aq2 = [[97]] := by decide
theorem aw_ok0 : ∀ k, (aw0 k).ok := fun _ => Rg.zero_ok
theorem aq_ok (op region index token seq : Int) (data : List Int) (h : 0 ≤ token ∧ token < 18446744073709551616 ∧ 0 ≤ seq ∧ seq < 4294967296 := by decide) : (RQ.mk op region index token seq data).ok := ⟨h.1, h.2.1, h.2.2.1, h.2.2.2⟩
theorem aw_ok1 : ∀ k, (aw1 k).ok := doM_ok aw_ok0 (aq_ok _ _ _ _ _ _)
theorem aw_ok7 : ∀ k, (aw7 k).ok := doM_ok aw_ok1 (aq_ok _ _ _ _ _ _)

theorem LogR.ints1 {w : World} {v : Value} {b : List Int} (h : LogR w [v] b) : Ints w .u8 v b := by
  obtain ⟨v', e, hi⟩ := h
  injection e with e
  subst e
  exact hi
def nilRV : RV := ⟨fun _ => .slice none 0 0, .slice none 0 0, fun _ => []⟩
theorem St.newImg {M0 : Imm} {w : World} {L : List Res} (h : St M0 w L) : St M0 (w.alloc (.cells (imgC aw0 (fun _ => nilRV)) 102)) (imgR w.heap.size aw0 :: L) :=
  St.addImg (vs := fun _ => nilRV) (((h.pers0 (R := fun w => ∀ k, k < 4 → RegR w nilRV (aw0 k)) (fun w' _ _k _ => ⟨fun _ _ => Ints.none_ w' _, RowsC.none_ _ _ _ _⟩)).alloc 102 _))

theorem do_none {M0 : Imm} {L : List Res} (g : Nat) (m : Nat → Rg) (r : RQ) (w : World) (hd : r.data = []) (hr : r.ok) (hm : ∀ k, (m k).ok) (h : St M0 w (imgR g m :: L)) :
    Calls Tryz.prog 26 #[.pointer (some ⟨g, 0, none⟩), reqV r (.slice none 0 0)] w fun e w' => ∃ V, e = .returned (.tuple #[V, .int .i64 (checkI m r).2]) ∧ St M0 w' (rowsR 1 LogR V (doO m r) :: imgR g (doM m r) :: L) :=
  do_st g m r none 0 0 w hr hm (h.pers0 (fun w' _ => by rw [hd]; exact Ints.none_ w' _))

end Go.Proofs.YtpaelngpmbeedaaGreatDoor
/- Image.High, Image.Seq. -/
namespace Go.Proofs.YtpaelngpmbeedaaGreatDoor
open Go.RowKit

def highI (m : Nat → Rg) (i : Int) : Int := if 0 ≤ i ∧ i < 4 then (m i.toNat).high else 0
def seqI (m : Nat → Rg) (i : Int) : Int := if 0 ≤ i ∧ i < 4 then (m i.toNat).seq else 0
theorem highI_at (m : Nat → Rg) (k : Nat) (h : k < 4) : highI m k = (m k).high := if_pos ⟨by omega, by omega⟩
theorem seqI_at (m : Nat → Rg) (k : Nat) (h : k < 4) : seqI m k = (m k).seq := if_pos ⟨by omega, by omega⟩

end Go.Proofs.YtpaelngpmbeedaaGreatDoor
/- Requests as a slice that stays; running through them (plain). -/
namespace Go.Proofs.YtpaelngpmbeedaaGreatDoor
open Go.RowKit

def ReqR (w : World) (cs : List Value) (r : RQ) : Prop := ∃ v, cs = [.int .i64 r.op, .int .i64 r.region, .int .i64 r.index, .int .u64 r.token, .int .u32 r.seq, v] ∧ Ints w .u8 v r.data ∧ r.ok
theorem cells6 {w : World} {p : Addr} {a b c d e f : Value} (h : ∀ j u, [a, b, c, d, e, f][j]? = some u → w.cell? (p.add j) = some u) :
    w.cell? p = some a ∧ w.cell? ⟨p.block, p.off + 1, none⟩ = some b ∧ w.cell? ⟨p.block, p.off + 2, none⟩ = some c ∧ w.cell? ⟨p.block, p.off + 3, none⟩ = some d ∧ w.cell? ⟨p.block, p.off + 4, none⟩ = some e ∧ w.cell? ⟨p.block, p.off + 5, none⟩ = some f :=
  ⟨by simpa [Addr.add] using h 0 a rfl, by simpa [Addr.add] using h 1 b rfl, by simpa [Addr.add] using h 2 c rfl, by simpa [Addr.add] using h 3 d rfl, by simpa [Addr.add] using h 4 e rfl, by simpa [Addr.add] using h 5 f rfl⟩
def runI (l : List RQ) : Nat → Rg := l.foldl doM aw0
theorem runI_snoc {l : List RQ} {k : Nat} {x : RQ} (h : l[k]? = some x) : runI (l.take (k + 1)) = doM (runI (l.take k)) x := by
  rw [take_snoc h, runI, runI, List.foldl_append]
  rfl
theorem runI_ok : ∀ (l : List RQ) (m : Nat → Rg), (∀ x ∈ l, x.ok) → (∀ k, (m k).ok) → ∀ k, (l.foldl doM m k).ok
  | [], _, _, hm => hm
  | x :: l, _, hl, hm => runI_ok l _ (fun y hy => hl y (List.mem_cons_of_mem _ hy)) (doM_ok hm (hl x List.mem_cons_self))
theorem run_ok {l : List RQ} (hl : ∀ x ∈ l, x.ok) (k : Nat) : ∀ i, (runI (l.take k) i).ok := runI_ok _ _ (fun x hx => hl x (List.mem_of_mem_take hx)) aw_ok0
/-- an element of the slice: its request, its cells, what they stand for -/
theorem St.req {M0 : Imm} {w : World} {L : List Res} {A : Option Addr} {n c : Nat} {l : List RQ} (h : St M0 w L) (i : Nat) (hi : L[i]? = some (rowsR 6 ReqR (.slice A n c) l)) {k : Nat} {x : RQ} (hk : l[k]? = some x) :
    ∃ ad B d, A = some ad ∧ x.ok ∧ St M0 w (persR (fun w' => (∀ j u, [Value.int .i64 x.op, .int .i64 x.region, .int .i64 x.index, .int .u64 x.token, .int .u32 x.seq, .slice B x.data.length d][j]? = some u → w'.cell? ((ad.add (k * 6)).add j) = some u) ∧ Ints w' .u8 (.slice B x.data.length d) x.data) :: L) := by
  obtain ⟨ad, cs, rfl, _, _, ⟨v, rfl, hv, hx⟩, h⟩ := h.elem i hi hk
  obtain ⟨B, d, rfl, _, _, _⟩ := hv
  refine ⟨ad, B, d, rfl, hx, h.pers1 (fun w' hr => ⟨hr.1, ?_⟩)⟩
  obtain ⟨v', e, hv', _⟩ := hr.2
  simp only [List.cons.injEq, true_and, and_true] at e
  subst e
  exact hv'

end Go.Proofs.YtpaelngpmbeedaaGreatDoor
/- Two lists of lists of bytes that are one are told alike. -/
namespace Go.Proofs.YtpaelngpmbeedaaGreatDoor
open Go.RowKit

theorem Rows.drewN {α : Type} {w : World} {size : Nat} {R : World → List Value → α → Prop} {v : Value} {xs : List α} (h : Rows w size R v xs) (hR : ∀ n cs x, R w cs x → R (w.drewN n) cs x) (n : Nat) : Rows (w.drewN n) size R v xs := by
  obtain ⟨css, A, c, e, h1, h2, h3⟩ := h
  refine ⟨css, A, c, e, h1, h2, fun i x hi => ?_⟩
  obtain ⟨ad, h4, h5, h6, h7⟩ := h3 i x hi
  exact ⟨ad, h4, h5, h6, hR n _ _ h7⟩
theorem drewN_two (w : World) (a b : Nat) : (w.drewN a).drewN b = w.drewN (a + b) := by
  unfold World.drewN
  simp [Nat.add_assoc]
theorem LogR.drewN {w : World} (n : Nat) (cs : List Value) (x : List Int) (h : LogR w cs x) : LogR (w.drewN n) cs x := by
  obtain ⟨v, e, hi⟩ := h
  exact ⟨v, e, hi.non ((Fr.refl _ _).drewN n)⟩

set_option maxRecDepth 100000 in
set_option maxHeartbeats 1000000 in
theorem sames_q (v u : Value) (xs : List (List Int)) (w : World) (hx : Rows w 1 LogR v xs) (hy : Rows w 1 LogR u xs) :
    Calls Tryz.prog 21 #[v, u] w fun e w' => e = .returned (.bool true) ∧ ∃ n, w' = w.drewN n := by
  obtain ⟨A, c, rfl, hc, hm⟩ := hx.slice
  obtain ⟨B, d, rfl, hc2, hm2⟩ := hy.slice
  have HA := hide (fun n => hx.drewN LogR.drewN n)
  have HB := hide (fun n => hy.drewN LogR.drewN n)
  clear hx hy
  generalize hn : xs.length = n at *
  have HN := hide hn
  clear hn
  go_enter Tryz.func21, Tryz.ntmps21
  go_wp2
  go_loopw [5] (fun i wr => ∃ k q : Nat, k ≤ n ∧ i = .int .i64 k ∧ wr = w.drewN q) (fun i _ => n - (intOf i).toNat)
  case atStart => exact ⟨0, 0, Nat.zero_le _, rfl, rfl⟩
  case round =>
    obtain ⟨k, q, hk, rfl, rfl⟩ := hrel
    by_cases hlt : k < n
    · have hx := List.getElem?_eq_getElem (l := xs) (i := k) (by rw [HN.out]; exact hlt)
      generalize xs[k]'(by rw [HN.out]; exact hlt) = x at hx
      obtain ⟨ad, cs, rfl, _, hcs, ⟨va, rfl, ha⟩⟩ := (HA.out q).at_ hx
      obtain ⟨bd, cs2, rfl, _, hcs2, ⟨vb, rfl, hb⟩⟩ := (HB.out q).at_ hx
      have k0 : (w.drewN q).cell? (ad.add k) = some va := by simpa [Addr.add] using hcs 0 _ rfl
      have j0 : (w.drewN q).cell? (bd.add k) = some vb := by simpa [Addr.add] using hcs2 0 _ rfl
      obtain ⟨A2, c2, rfl, _, _, _⟩ := id ha
      obtain ⟨B2, d2, rfl, _, _, _⟩ := id hb
      generalize hwr : w.drewN q = wr at *
      have HW := hide hwr
      clear hwr
      have HA2 := hide (fun m => ha.non ((Fr.refl _ _).drewN m))
      have HB2 := hide (fun m => hb.non ((Fr.refl _ _).drewN m))
      clear hx hcs hcs2 ha hb
      go_wp2
      go_quiet ((go_at_call 8; exact Calls.quiet_of (same_eq _ _ x _ (HA2.out _) (HB2.out _))))
      go_wp2
      go_roundw
      case rel => exact ⟨k + 1, q + nq, by omega, by go_num, by rw [← HW.out]; exact drewN_two _ _ _⟩
      case measure => simp [intOf]; omega
    · go_wp2
      go_ret
      exact ⟨rfl, q, rfl⟩

theorem sames_true {M0 : Imm} {L : List Res} (v u : Value) (xs : List (List Int)) (w : World) (hx : Rows w 1 LogR v xs) (hy : Rows w 1 LogR u xs) (h : St M0 w L) :
    Calls Tryz.prog 21 #[v, u] w fun e w' => e = .returned (.bool true) ∧ St M0 w' L := by
  refine (sames_q v u xs w hx hy).mono ?_
  rintro e w' ⟨he, n, rfl⟩
  exact ⟨he, h.drewN n⟩

end Go.Proofs.YtpaelngpmbeedaaGreatDoor
