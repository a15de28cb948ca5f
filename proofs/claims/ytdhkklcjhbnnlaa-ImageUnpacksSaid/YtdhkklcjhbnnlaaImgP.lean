/- Image.Pack. Printed by gen_imgp.py. -/
import Derived.Test.YtdhkklcjhbnnlaaImgDo
import Derived.Test.YtdhkklcjhbnnlaaPackW
import Derived.Deep.LoopGhost
import Derived.Deep.MidRow
namespace Go.Proofs.Ytdhkklcjhbnnlaa
open Go.RowKit

def regB (x : Rg) : List Int := numI x.high 8 ++ numI x.seq 4 ++ bytB (x.b 0) ++ bytB (x.b 1) ++ bytB (x.b 2) ++ bytB (x.b 3) ++ numI x.log.length 1 ++ x.log.flatMap bytB
def packTo (m : Nat → Rg) (k : Nat) : List Int := (List.range k).flatMap fun i => regB (m i)
def packI (m : Nat → Rg) : List Int := packTo m 4
theorem packTo_succ (m : Nat → Rg) (k : Nat) : packTo m (k + 1) = packTo m k ++ regB (m k) := by simp [packTo, List.range_succ]
theorem logB_length (l : List (List Int)) : (l.flatMap bytB).length ≤ l.length * 1002 := by
  induction l with
  | nil => simp
  | cons b l ih => have := bytB_length b; simp only [List.flatMap_cons, List.length_append, List.length_cons]; omega
theorem regB_length (x : Rg) (h : x.log.length ≤ 255) : (regB x).length ≤ 260000 := by
  have := logB_length x.log
  have h1 := numI_length x.high 8
  have h2 := numI_length x.seq 4
  have h3 := numI_length x.log.length 1
  have := bytB_length (x.b 0)
  have := bytB_length (x.b 1)
  have := bytB_length (x.b 2)
  have := bytB_length (x.b 3)
  unfold regB
  simp only [List.length_append]
  omega
theorem packTo_length (m : Nat → Rg) (h : ∀ k, (m k).log.length ≤ 255) (k : Nat) : (packTo m k).length ≤ k * 260000 := by
  induction k with
  | zero => simp [packTo]
  | succ k ih => have := regB_length (m k) (h k); rw [packTo_succ, List.length_append]; omega

section
variable {P : Program} {ops : Array Oper} {rest : List Oper} {o : Oper} {ac : Act} {Q : Exit → Act → World → Prop} {w w' : World} {v : Value}
theorem at_index (hgd : o.guard = none) (t : TypeId) (x y : Operand) (p u : Value) (ho : o.op = .index t x y) (hx : ac.eval x = p) (hy : ac.eval y = u)
    (hrun : (Instr.index t p u).run P w = .ok v w') (h : wpList P ops Q rest (ac.put o.dst v) w') : wpList P ops Q (o :: rest) ac w := by
  refine wpList_plain hgd fun K hK => ?_
  unfold Oper.wp execOp
  simp only [ho, hx, hy, Sem.run_bind, Sem.run_pure, Result.andThen_ok, hrun]
  exact hK _ _ h
end
theorem img_load {w : World} {g : Nat} {vs : Nat → RV} {m : Nat → Rg} (h : Blk w g 65 (imgC m vs)) : (Instr.loadAt 63 (.pointer (some ⟨g, 0, none⟩))).run Try.prog w = .ok (.agg (imgC m vs)) w := by
  have hr : w.rangeAt g 0 (imgC m vs).toList := fun j u hu => by
    rw [Nat.zero_add, h.cell]
    simpa using hu
  have := run_loadAt_mid (P := Try.prog) w g 0 63 (imgC m vs).toList _ hr Try.underlying63 rfl (by kernel_rfl)
  simpa using this
theorem img_index (vs : Nat → RV) (m : Nat → Rg) {k : Nat} (hk : k < 4) (w : World) : (Instr.index 63 (.agg (imgC m vs)) (.int .i64 (k : Nat))).run Try.prog w = .ok (.agg #[.int .u64 (m k).high, .int .u32 (m k).seq, (vs k).b 0, (vs k).b 1, (vs k).b 2, (vs k).b 3, (vs k).log]) w := by
  rcases below4 hk with rfl | rfl | rfl | rfl <;> kernel_rfl
theorem arr_index0 (v0 v1 v2 v3 : Value) (w : World) : (Instr.index 59 (.agg #[v0, v1, v2, v3]) (.int .i64 0)).run Try.prog w = .ok v0 w := by kernel_rfl
theorem arr_index1 (v0 v1 v2 v3 : Value) (w : World) : (Instr.index 59 (.agg #[v0, v1, v2, v3]) (.int .i64 1)).run Try.prog w = .ok v1 w := by kernel_rfl
theorem arr_index2 (v0 v1 v2 v3 : Value) (w : World) : (Instr.index 59 (.agg #[v0, v1, v2, v3]) (.int .i64 2)).run Try.prog w = .ok v2 w := by kernel_rfl
theorem arr_index3 (v0 v1 v2 v3 : Value) (w : World) : (Instr.index 59 (.agg #[v0, v1, v2, v3]) (.int .i64 3)).run Try.prog w = .ok v3 w := by kernel_rfl
theorem Blk.seven {w : World} {b : Nat} {t : TypeId} {v0 v1 v2 v3 v4 v5 v6 : Value} (h : Blk w b t #[v0, v1, v2, v3, v4, v5, v6]) : w.cell? ⟨b, 0, none⟩ = some v0 ∧ w.cell? ⟨b, 1, none⟩ = some v1 ∧ w.cell? ⟨b, 2, none⟩ = some v2 ∧ w.cell? ⟨b, 3, none⟩ = some v3 ∧ w.cell? ⟨b, 4, none⟩ = some v4 ∧ w.cell? ⟨b, 5, none⟩ = some v5 ∧ w.cell? ⟨b, 6, none⟩ = some v6 :=
  ⟨h.cell 0, h.cell 1, h.cell 2, h.cell 3, h.cell 4, h.cell 5, h.cell 6⟩

theorem RowsC.at1 {w : World} {A : Option Addr} {n c : Nat} {cs : Nat → List Value} {xs : List (List Int)} {i : Nat} {x : List Int} (h : RowsC w 1 LogR (.slice A n c) cs xs) (hi : xs[i]? = some x) :
    ∃ ad vb, A = some ad ∧ cs i = [vb] ∧ w.cell? (ad.add i) = some vb ∧ Ints w .u8 vb x := by
  obtain ⟨A', c', e, _, _, h3⟩ := h
  injection e with e1 e2 e3
  subst e1
  obtain ⟨ad, ha, _, hc, ⟨vb, ecs, hI⟩⟩ := h3 i x hi
  rw [ecs] at hc
  exact ⟨ad, vb, ha, ecs, by simpa [Addr.add] using hc 0 _ rfl, hI⟩

set_option maxRecDepth 100000 in
set_option maxHeartbeats 4000000 in
theorem pack_st {M0 : Imm} {L : List Res} (g : Nat) (m : Nat → Rg) (w : World) (hm : ∀ k, (m k).ok) (h : St M0 w (imgR g m :: L)) :
    Calls Try.prog 43 #[.pointer (some ⟨g, 0, none⟩)] w fun e w' => ∃ v, e = .returned v ∧ St M0 w' (rowR 5 1 v (packI m).length (bv (packI m)) :: imgR g m :: L) := by
  obtain ⟨vs, h⟩ := h.img
  have h1 := h.nilRow 5 1
  have h2 := (h1.alloc 37 #[.slice none 0 0])
  have H := hide (St.addWr (xs := []) h2 rfl)
  have hld := fun w' (hw : Blk w' g 65 (imgC m vs)) => img_load hw
  have HLD := hide (hld _ (H.out.blk 1 rfl))
  have HLEN := hide (fun k => packTo_length m (fun i => by have := (hm i).ll; omega) k)
  have HM := hide hm
  clear h h1 h2 hld hm
  go_enter Try.func43, Try.ntmps43
  go_wp2_with ((with_reducible apply at_load (t := 63)); (focus rfl); (focus rfl); (focus rfl); (focus exact HLD.out))
  clear HLD
  go_loopg [14] 4 (fun gh i wr => ∃ k : Nat, gh = 4 - k ∧ k ≤ 4 ∧ i = .int .i64 (k : Nat) ∧ St M0 wr (wrR w.heap.size (packTo m k) :: imgB g vs m :: regsR vs m :: L))
  case atStart => exact ⟨0, rfl, by omega, rfl, H.out⟩
  case round =>
    clear H
    obtain ⟨k, hg, hk, rfl, h⟩ := hrel
    have HG := hide hg
    clear hg
    by_cases hlt : k < 4
    · have hR := (h.get 2 rfl) k hlt
      obtain ⟨A0, c0, e0, _, _, _⟩ := hR.b 0 (by omega)
      obtain ⟨A1, c1, e1, _, _, _⟩ := hR.b 1 (by omega)
      obtain ⟨A2, c2, e2, _, _, _⟩ := hR.b 2 (by omega)
      obtain ⟨A3, c3, e3, _, _, _⟩ := hR.b 3 (by omega)
      obtain ⟨A6, c6, e6, hc6, hm6, _⟩ := hR.log
      have hidx := img_index vs m hlt
      simp only [e0, e1, e2, e3, e6] at hidx
      have HIDX := hide hidx
      have E0 := hide e0
      have E1 := hide e1
      have E2 := hide e2
      have E3 := hide e3
      have E6 := hide e6
      have BL : Hid ((packTo m k ++ regB (m k)).length ≤ 4000000) := hide (by rw [← packTo_succ]; have := HLEN.out (k + 1); omega)
      unfold regB at BL
      have q0 := (HM.out k).s0
      have q1 := (HM.out k).s1
      have q4 := (HM.out k).ll
      have H1 := hide (h.alloc 62 #[.int .u64 (m k).high, .int .u32 (m k).seq, .slice A0 ((m k).b 0).length c0, .slice A1 ((m k).b 1).length c1, .slice A2 ((m k).b 2).length c2, .slice A3 ((m k).b 3).length c3, .slice A6 (m k).log.length c6]).swap
      clear h hR e0 e1 e2 e3 e6 hidx
      go_wp2_with ((with_reducible apply at_index (t := 63)); (focus rfl); (focus rfl); (focus rfl); (focus rfl); (focus exact HIDX.out _))
      refine (num_st w.heap.size (m k).high 8 _ _ (by have := BL.out; simp only [List.length_append] at this ⊢; omega) H1.out).mono ?_
      rintro e w2 ⟨rfl, h⟩
      obtain ⟨s0, s1, s2, s3, s4, s5, s6⟩ := (h.blk 1 rfl).seven
      have H2 := hide h
      clear H1 h
      go_wp2_with fail
      refine (num_st w.heap.size (m k).seq 4 _ _ (by have := BL.out; simp only [List.length_append] at this ⊢; omega) H2.out).mono ?_
      rintro e w3 ⟨rfl, h⟩
      obtain ⟨s0, s1, s2, s3, s4, s5, s6⟩ := (h.blk 1 rfl).seven
      have H3 := hide h
      clear H2 h
      go_wp2_with fail
      refine wp_loop_rounds 5 ?_
      rw [rounds_succ]
      go_wp2_with ((with_reducible apply at_index (t := 59)); (focus rfl); (focus rfl); (focus rfl); (focus rfl); (focus exact arr_index0 _ _ _ _ _))
      have h9 := ((H3.out.copy 3 rfl).pers1 (R' := fun w' => Ints w' .u8 (.slice A0 ((m k).b 0).length c0) ((m k).b 0)) (fun w' hr => by have := (hr k hlt).b 0 (by omega); rw [E0.out] at this; exact this)).swap
      refine (byt_st (w.heap.size) _ ((m k).b 0) _ _ (by have := BL.out; simp only [List.length_append] at this ⊢; omega) h9).mono ?_
      clear h9 H3
      rintro e w5 ⟨rfl, h⟩
      obtain ⟨s0, s1, s2, s3, s4, s5, s6⟩ := (h.blk 2 rfl).seven
      have H4 := hide h.del1
      clear h
      go_wp2_with fail
      rw [rounds_succ]
      go_wp2_with ((with_reducible apply at_index (t := 59)); (focus rfl); (focus rfl); (focus rfl); (focus rfl); (focus exact arr_index1 _ _ _ _ _))
      have h9 := ((H4.out.copy 3 rfl).pers1 (R' := fun w' => Ints w' .u8 (.slice A1 ((m k).b 1).length c1) ((m k).b 1)) (fun w' hr => by have := (hr k hlt).b 1 (by omega); rw [E1.out] at this; exact this)).swap
      refine (byt_st (w.heap.size) _ ((m k).b 1) _ _ (by have := BL.out; simp only [List.length_append] at this ⊢; omega) h9).mono ?_
      clear h9 H4
      rintro e w6 ⟨rfl, h⟩
      obtain ⟨s0, s1, s2, s3, s4, s5, s6⟩ := (h.blk 2 rfl).seven
      have H5 := hide h.del1
      clear h
      go_wp2_with fail
      rw [rounds_succ]
      go_wp2_with ((with_reducible apply at_index (t := 59)); (focus rfl); (focus rfl); (focus rfl); (focus rfl); (focus exact arr_index2 _ _ _ _ _))
      have h9 := ((H5.out.copy 3 rfl).pers1 (R' := fun w' => Ints w' .u8 (.slice A2 ((m k).b 2).length c2) ((m k).b 2)) (fun w' hr => by have := (hr k hlt).b 2 (by omega); rw [E2.out] at this; exact this)).swap
      refine (byt_st (w.heap.size) _ ((m k).b 2) _ _ (by have := BL.out; simp only [List.length_append] at this ⊢; omega) h9).mono ?_
      clear h9 H5
      rintro e w7 ⟨rfl, h⟩
      obtain ⟨s0, s1, s2, s3, s4, s5, s6⟩ := (h.blk 2 rfl).seven
      have H6 := hide h.del1
      clear h
      go_wp2_with fail
      rw [rounds_succ]
      go_wp2_with ((with_reducible apply at_index (t := 59)); (focus rfl); (focus rfl); (focus rfl); (focus rfl); (focus exact arr_index3 _ _ _ _ _))
      have h9 := ((H6.out.copy 3 rfl).pers1 (R' := fun w' => Ints w' .u8 (.slice A3 ((m k).b 3).length c3) ((m k).b 3)) (fun w' hr => by have := (hr k hlt).b 3 (by omega); rw [E3.out] at this; exact this)).swap
      refine (byt_st (w.heap.size) _ ((m k).b 3) _ _ (by have := BL.out; simp only [List.length_append] at this ⊢; omega) h9).mono ?_
      clear h9 H6
      rintro e w8 ⟨rfl, h⟩
      obtain ⟨s0, s1, s2, s3, s4, s5, s6⟩ := (h.blk 2 rfl).seven
      have H7 := hide h.del1
      clear h
      go_wp2_with fail
      rw [rounds_succ]
      go_wp2_with fail
      refine (num_st w.heap.size ((m k).log.length : Nat) 1 _ _ (by have := BL.out; simp only [List.length_append] at this ⊢; omega) H7.out).mono ?_
      rintro e w9 ⟨rfl, h⟩
      obtain ⟨s0, s1, s2, s3, s4, s5, s6⟩ := (h.blk 1 rfl).seven
      have H8 := hide (h.pick (L' := wrR w.heap.size (packTo m k ++ numI (m k).high 8 ++ numI (m k).seq 4 ++ bytB ((m k).b 0) ++ bytB ((m k).b 1) ++ bytB ((m k).b 2) ++ bytB ((m k).b 3) ++ numI ((m k).log.length : Nat) 1) :: imgB g vs m :: regsR vs m :: L) 4 [0, 2, 3])
      clear h H7
      generalize hn6 : (m k).log.length = n6 at *
      have HN6 := hide hn6
      clear hn6
      go_wp2_with fail
      clear s0 s1 s2 s3 s4 s5 s6
      go_loopg [40] n6 (fun gh i wq => ∃ j : Nat, gh = n6 - j ∧ j ≤ n6 ∧ i = .int .i64 (j : Nat) ∧ St M0 wq (wrR w.heap.size (packTo m k ++ numI (m k).high 8 ++ numI (m k).seq 4 ++ bytB ((m k).b 0) ++ bytB ((m k).b 1) ++ bytB ((m k).b 2) ++ bytB ((m k).b 3) ++ numI (n6 : Nat) 1 ++ ((m k).log.take j).flatMap bytB) :: imgB g vs m :: regsR vs m :: L))
      case atStart => exact ⟨0, rfl, by omega, rfl, by simpa using H8.out⟩
      case round =>
        clear H8
        obtain ⟨j, hg, hj, rfl, h⟩ := hrel
        have HJ := hide hg
        clear hg
        by_cases hjt : j < n6
        · have hx := List.getElem?_eq_getElem (l := (m k).log) (i := j) (by rw [HN6.out]; exact hjt)
          generalize (m k).log[j]'(by rw [HN6.out]; exact hjt) = x at hx
          have hr := ((h.get 2 rfl) k hlt).log
          rw [E6.out] at hr
          obtain ⟨ad, vb, rfl, ecs, hcell, hI⟩ := hr.at1 hx
          obtain ⟨B, d, rfl, _, _, _⟩ := hI
          have h9 := ((h.copy 2 rfl).pers1 (R' := fun w' => Ints w' .u8 (.slice B x.length d) x) (fun w' hr => by
            have h1 := (hr k hlt).log
            rw [E6.out] at h1
            obtain ⟨_, vb', _, e', _, hI'⟩ := h1.at1 hx
            rw [ecs] at e'
            injection e' with e'
            rw [e']
            exact hI')).swap
          have HX := hide hx
          have H9 := hide h9
          have hln : ((m k).log.take (j + 1)).flatMap bytB = ((m k).log.take j).flatMap bytB ++ bytB x := by rw [take_snoc hx, List.flatMap_append]; simp
          have hle : (((m k).log.take (j + 1)).flatMap bytB).length ≤ 300000 := by
            have := logB_length ((m k).log.take (j + 1))
            have := List.length_take_le (j + 1) (m k).log
            have := q4
            have := HN6.out
            omega
          rw [hln, List.length_append] at hle
          have HLN := hide hln
          have i0 : (0 : Int) ≤ (j : Int) := by omega
          have i1 : (j : Int) < (n6 : Int) := by omega
          clear h hr ecs h9 hx hln
          go_wp2_with fail
          refine (byt_st w.heap.size _ x _ _ (by have := BL.out; simp only [List.length_append] at this ⊢; omega) H9.out).mono ?_
          clear H9 hle
          rintro e w10 ⟨rfl, h⟩
          have H10 := hide h.del1
          clear h
          go_wp2_with fail
          go_roundg (n6 - (j + 1))
          case measure => have := HJ.out; omega
          case rel => exact ⟨j + 1, rfl, by omega, by go_num, by rw [HLN.out, ← List.append_assoc]; exact H10.out⟩
        · obtain rfl : j = n6 := by omega
          rw [List.take_of_length_le (by rw [HN6.out]; exact Nat.le_refl _)] at h
          have H := hide h
          clear h
          go_wp2_with fail
          go_roundg (4 - (k + 1))
          case measure => have := HG.out; omega
          case rel => exact ⟨k + 1, rfl, by omega, by go_num, by rw [packTo_succ]; unfold regB; rw [HN6.out]; simpa only [List.append_assoc] using H.out⟩
    · obtain rfl : k = 4 := by omega
      have H := hide h
      clear h
      go_wp2_with fail
      refine (out_st w.heap.size (packTo m 4) _ (by have := HLEN.out 4; omega) H.out).mono ?_
      rintro e w2 ⟨v, rfl, h⟩
      have H2 := hide (h.pick (L' := imgB g vs m :: regsR vs m :: rowR 5 1 v (packI m).length (bv (packI m)) :: L) 4 [2, 3, 0])
      clear H h
      go_wp2_with fail
      go_ret
      exact ⟨v, rfl, (St.addImg H2.out).swap⟩

end Go.Proofs.Ytdhkklcjhbnnlaa
