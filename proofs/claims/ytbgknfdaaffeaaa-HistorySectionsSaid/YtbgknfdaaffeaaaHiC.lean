/- History: bears. -/
import Derived.Test.YtbgknfdaaffeaaaHiB
namespace Go.Proofs.Ytbgknfdaaffeaaa
open Go.RowKit Go.Shelf

/-- all bytes of blocks, of sections -/
def Byt4 (b : BlH) : Prop := ∀ j, Byt (b j)
structure SecOk (s : SecH) : Prop where
  p : ∀ x ∈ s.p, Byt x.d
  k : ∀ x ∈ s.k, Byt x.d
  pl : s.p.length ≤ 100
theorem Byt4.put {b : BlH} {x : PutH} (h : Byt4 b) (hx : Byt x.d) : Byt4 (putB b x) := by
  intro j
  unfold putB
  split
  · unfold upd
    split
    · exact hx
    · exact h j
  · exact h j
theorem Byt4.beh {b : BlH} : ∀ {l : List PutH}, Byt4 b → (∀ x ∈ l, Byt x.d) → Byt4 (behB b l) := by
  intro l
  induction l generalizing b with
  | nil => exact fun h _ => h
  | cons x r ih => exact fun h hl => ih (h.put (hl x (by simp))) (fun y hy => hl y (by simp [hy]))
theorem Byt4.at_ {b : BlH} (h : Byt4 b) (i : Int) : Byt (atB b i) := by
  unfold atB
  split
  · exact h _
  · exact fun x hx => by simp at hx
def cloS (gs gb gl : Nat) (v : Value) (s : Nat → SV) (i u : Value) (W : World) : Prop :=
  W.cell? ⟨gs, 1, none⟩ = some v ∧ (W.cell? ⟨gb, 0, none⟩ = some (.slice (s 0).a (s 0).n (s 0).c) ∧ W.cell? ⟨gb, 1, none⟩ = some (.slice (s 1).a (s 1).n (s 1).c) ∧ W.cell? ⟨gb, 2, none⟩ = some (.slice (s 2).a (s 2).n (s 2).c) ∧ W.cell? ⟨gb, 3, none⟩ = some (.slice (s 3).a (s 3).n (s 3).c)) ∧ W.cell? ⟨gl, 1, none⟩ = some i ∧ W.cell? ⟨gl, 2, none⟩ = some u
theorem cloS_of {M0 : Imm} {W : World} {Ls R1 R2 R3 : List Res} {gs gb gl : Nat} {a v c d i u q : Value} {s : Nat → SV} (h : St M0 W Ls) (h1 : At (blkR gs 37 #[a, v, c, d]) Ls R1) (h2 : At (blkR gb 142 (fourC s)) Ls R2) (h3 : At (blkR gl 124 #[q, i, u]) Ls R3) : cloS gs gb gl v s i u W :=
  ⟨(h.blkA h1).cell 1, ⟨(h.blkA h2).cell 0, (h.blkA h2).cell 1, (h.blkA h2).cell 2, (h.blkA h2).cell 3⟩, (h.blkA h3).cell 1, (h.blkA h3).cell 2⟩
set_option maxHeartbeats 2000000 in
set_option maxRecDepth 100000 in
theorem bclo_st {M0 : Imm} {L : List Res} (gs gb : Nat) (x : SecX) (s : Nat → SV) (b : BlH) (y : LookH) (B : Option Addr) (d : Nat) (w : World) (hx : SecOk x.s) (hb : Byt4 b) (hy : Byt y.d)
    (h : St M0 w (intsR .u8 (.slice B y.d.length d) y.d :: blkR gs 37 #[.int .u64 x.s.t, .slice x.pA x.s.p.length x.pc, .int .i64 x.s.s, .slice x.kA x.s.k.length x.kc] :: blkR gb 142 (fourC s) :: fourR s b :: rowsR 2 PutHR (.slice x.pA x.s.p.length x.pc) x.s.p :: L)) :
    Calls Try.prog 155 #[.agg #[.int .i64 y.a, .int .i64 y.i, .slice B y.d.length d], .pointer (some ⟨gs, 0, none⟩), .pointer (some ⟨gb, 0, none⟩)] w fun e w' => e = .returned (.bool (!lookB x.s b y)) ∧ St M0 w' (blkR gs 37 #[.int .u64 x.s.t, .slice x.pA x.s.p.length x.pc, .int .i64 x.s.s, .slice x.kA x.s.k.length x.kc] :: blkR gb 142 (fourC s) :: fourR s b :: rowsR 2 PutHR (.slice x.pA x.s.p.length x.pc) x.s.p :: L) := by
  obtain ⟨m, hm⟩ : ∃ m : Nat, (m : Int) = max 0 (min y.a (x.s.p.length : Int)) := ⟨(max 0 (min y.a (x.s.p.length : Int))).toNat, by omega⟩
  have hmn : m ≤ x.s.p.length := by omega
  have htk : x.s.p.take y.a.toNat = x.s.p.take m := by
    rcases Nat.le_total y.a.toNat x.s.p.length with hle | hle
    · rw [show m = y.a.toNat by omega]
    · rw [List.take_of_length_le hle, List.take_of_length_le (by omega)]
  have HT := hide (show lookB x.s b y = decide (atB (behB b (x.s.p.take m)) y.i = y.d) by unfold lookB; rw [htk])
  have h1 := h.alloc 124 #[.int .i64 y.a, .int .i64 y.i, .slice B y.d.length d]
  generalize hg : w.heap.size = gl at h1
  have l0 := (h1.blk 0 rfl).cell 0
  have l1 := (h1.blk 0 rfl).cell 1
  have l2 := (h1.blk 0 rfl).cell 2
  have s1 := (h1.blk 2 rfl).cell 1
  have HM := hide hm
  have H := hide h1
  clear h h1 htk
  go_enter Try.func155, Try.ntmps155
  go_wp2_with fail
  rw [← HM.out]
  generalize w.alloc _ = w0 at H ⊢
  clear l0 l1 l2 s1 hm HM
  refine region_mix (cloS gs gb gl (.slice x.pA x.s.p.length x.pc) s (.int .i64 y.i) (.slice B y.d.length d)) 12 [0, 1, 2, 3, 5, 6, 8, 9] [4, 7, 10, 11, 12] (by kernel_rfl) (by kernel_rfl) (fun d => by cases d <;> exact fun _ _ _ _ h => h) (fun W hW => ?_)
  have HW := hide (H.out.drew)
  rw [← hW] at HW
  clear hW H
  refine ⟨cloS_of HW.out (by (repeat (first | with_reducible exact At.here | with_reducible apply At.there))) (by (repeat (first | with_reducible exact At.here | with_reducible apply At.there))) (by (repeat (first | with_reducible exact At.here | with_reducible apply At.there))), ?_⟩
  iterate 8 (refine take_run rfl rfl (fun W hW => by (obtain ⟨s1, ⟨b0, b1, b2, b3⟩, l1, l2⟩ := hW; go_simp; try rfl)) ?_; (simp only [Act.put, List.setIfInBounds_toArray, List.set_cons_succ, List.set_cons_zero]))
  refine take_nil ?_
  have h2 := ((HW.out.rowsCopy (by (repeat (first | with_reducible exact At.here | with_reducible apply At.there)))).fourCopy (s := s) (b := b) (by (repeat (first | with_reducible exact At.here | with_reducible apply At.there)))).sub (L' := fourR s b :: rowsR 2 PutHR (.slice x.pA x.s.p.length x.pc) x.s.p :: blkR gs 37 #[.int .u64 x.s.t, .slice x.pA x.s.p.length x.pc, .int .i64 x.s.s, .slice x.kA x.s.k.length x.kc] :: blkR gb 142 (fourC s) :: fourR s b :: rowsR 2 PutHR (.slice x.pA x.s.p.length x.pc) x.s.p :: blkR gl 124 #[.int .i64 y.a, .int .i64 y.i, .slice B y.d.length d] :: intsR .u8 (.slice B y.d.length d) y.d :: L) (by (repeat (first | with_reducible exact Sub.refl _ | (with_reducible apply Sub.take; focus (repeat (first | with_reducible exact At.here | with_reducible apply At.there))) | with_reducible apply Sub.drop)))
  refine seq_call (f := 131) (args := #[fourV s, .slice x.pA x.s.p.length x.pc, .int .i64 (m : Nat)]) rfl rfl (by go_simp; try rfl) ?_
  refine (behind_st s b x.s.p x.pA x.s.p.length x.pc m W hmn h2).mono ?_
  rintro e w4 ⟨u, rfl, h4⟩
  refine ⟨_, rfl, fun _ => cloS_of h4 (by (repeat (first | with_reducible exact At.here | with_reducible apply At.there))) (by (repeat (first | with_reducible exact At.here | with_reducible apply At.there))) (by (repeat (first | with_reducible exact At.here | with_reducible apply At.there))), ?_⟩
  (simp only [Act.put, List.setIfInBounds_toArray, List.set_cons_succ, List.set_cons_zero])
  refine seq_call (f := 157) (args := #[fourV u, .int .i64 y.i]) rfl rfl (by go_simp; try rfl) ?_
  refine (at_st u (behB b (x.s.p.take m)) y.i w4 h4).mono ?_
  rintro e w5 ⟨v, rfl, h5⟩
  refine ⟨_, rfl, fun _ => cloS_of h5 (by (repeat (first | with_reducible exact At.here | with_reducible apply At.there))) (by (repeat (first | with_reducible exact At.here | with_reducible apply At.there))) (by (repeat (first | with_reducible exact At.here | with_reducible apply At.there))), ?_⟩
  (simp only [Act.put, List.setIfInBounds_toArray, List.set_cons_succ, List.set_cons_zero])
  have hby : Byt (atB (behB b (x.s.p.take m)) y.i) := (hb.beh (fun z hz => hx.p z (List.mem_of_mem_take hz))).at_ _
  obtain ⟨A5, n5, c5, rfl⟩ : ∃ A5 n5 c5, v = .slice A5 n5 c5 := by
    obtain ⟨A, c, e, _⟩ := h5.get 0 rfl
    exact ⟨_, _, _, e⟩
  refine seq_call (f := 156) (args := #[.slice A5 n5 c5, .slice B y.d.length d]) rfl rfl (by go_simp; try rfl) ?_
  refine (equal_st _ _ _ _ w5 (h5.get 0 rfl) (h5.getA (Q := fun w => Ints w .u8 (.slice B y.d.length d) y.d) (by (repeat (first | with_reducible exact At.here | with_reducible apply At.there)))) hby hy h5).mono ?_
  rintro e w6 ⟨rfl, h6⟩
  rw [← HT.out]
  refine ⟨_, rfl, fun _ => cloS_of h6 (by (repeat (first | with_reducible exact At.here | with_reducible apply At.there))) (by (repeat (first | with_reducible exact At.here | with_reducible apply At.there))) (by (repeat (first | with_reducible exact At.here | with_reducible apply At.there))), ?_⟩
  (simp only [Act.put, List.setIfInBounds_toArray, List.set_cons_succ, List.set_cons_zero])
  have H6 := hide (h6.sub (L' := blkR gs 37 #[.int .u64 x.s.t, .slice x.pA x.s.p.length x.pc, .int .i64 x.s.s, .slice x.kA x.s.k.length x.kc] :: blkR gb 142 (fourC s) :: fourR s b :: rowsR 2 PutHR (.slice x.pA x.s.p.length x.pc) x.s.p :: blkR gl 124 #[.int .i64 y.a, .int .i64 y.i, .slice B y.d.length d] :: L) (by (repeat (first | with_reducible exact Sub.refl _ | (with_reducible apply Sub.take; focus (repeat (first | with_reducible exact At.here | with_reducible apply At.there))) | with_reducible apply Sub.drop))))
  clear h2 h4 h5 h6 HW hby HT hmn
  refine seq_read rfl rfl (by (go_simp; try rfl)) (fun _ => cloS_of H6.out (by (repeat (first | with_reducible exact At.here | with_reducible apply At.there))) (by (repeat (first | with_reducible exact At.here | with_reducible apply At.there))) (by (repeat (first | with_reducible exact At.here | with_reducible apply At.there)))) ?_
  (simp only [Act.put, List.setIfInBounds_toArray, List.set_cons_succ, List.set_cons_zero])
  refine seq_read rfl rfl (by (go_simp; try rfl)) (fun h => absurd h (by decide)) ?_
  (simp only [Act.put, List.setIfInBounds_toArray, List.set_cons_succ, List.set_cons_zero])
  refine seq_nil ?_
  go_wp2_with fail
  go_ret
  exact ⟨rfl, H6.out.sub (by (repeat (first | with_reducible exact Sub.refl _ | (with_reducible apply Sub.take; focus (repeat (first | with_reducible exact At.here | with_reducible apply At.there))) | with_reducible apply Sub.drop)))⟩
theorem bearsB_any (x : SecH) (b : BlH) : (!x.k.any (fun y => !lookB x b y)) = bearsB x b := by
  unfold bearsB
  induction x.k with
  | nil => rfl
  | cons y r ih => rw [List.any_cons, List.all_cons, ← ih, Bool.not_or, Bool.not_not]
set_option maxHeartbeats 2000000 in
set_option maxRecDepth 100000 in
theorem bears_st {M0 : Imm} {L : List Res} (x : SecX) (s : Nat → SV) (b : BlH) (w : World) (hx : SecOk x.s) (hb : Byt4 b) (h : St M0 w (fourR s b :: rowsR 2 PutHR (.slice x.pA x.s.p.length x.pc) x.s.p :: rowsR 3 LookHR (.slice x.kA x.s.k.length x.kc) x.s.k :: L)) :
    Calls Try.prog 130 #[.agg #[.int .u64 x.s.t, .slice x.pA x.s.p.length x.pc, .int .i64 x.s.s, .slice x.kA x.s.k.length x.kc], fourV s] w fun e w' => e = .returned (.bool (bearsB x.s b)) ∧ St M0 w' L := by
  have h1 := h.alloc 37 #[.int .u64 x.s.t, .slice x.pA x.s.p.length x.pc, .int .i64 x.s.s, .slice x.kA x.s.k.length x.kc]
  generalize hgs : w.heap.size = gs at h1
  have h2 := h1.alloc 142 (fourC s)
  rw [World.size_alloc, hgs] at h2
  generalize hgb : gs + 1 = gb at h2
  have s3 := (h2.blk 1 rfl).cell 3
  have H := hide (h2.sub (L' := blkR gs 37 #[.int .u64 x.s.t, .slice x.pA x.s.p.length x.pc, .int .i64 x.s.s, .slice x.kA x.s.k.length x.kc] :: blkR gb 142 (fourC s) :: fourR s b :: rowsR 2 PutHR (.slice x.pA x.s.p.length x.pc) x.s.p :: rowsR 3 LookHR (.slice x.kA x.s.k.length x.kc) x.s.k :: L) (by (repeat (first | with_reducible exact Sub.refl _ | (with_reducible apply Sub.take; focus (repeat (first | with_reducible exact At.here | with_reducible apply At.there))) | with_reducible apply Sub.drop))))
  clear h h1 h2
  go_enter Try.func130, Try.ntmps130
  go_wp2_with fail
  refine (conLook_st 155 #[.pointer (some ⟨gs, 0, none⟩), .pointer (some ⟨gb, 0, none⟩)] (fun y => !lookB x.s b y) x.s.k x.kA x.s.k.length x.kc _ (enters_of Try.func155 (by kernel_rfl) rfl) (by (repeat (first | with_reducible exact At.here | with_reducible apply At.there))) (fun y B d W hm hW => (bclo_st gs gb x s b y B d W hx hb (hx.k y hm) hW).mono (fun e W' ⟨he, hs⟩ => ⟨he, hs⟩)) H.out).mono ?_
  rintro e w2 ⟨rfl, h⟩
  have HB := hide (bearsB_any x.s b)
  have H2 := hide (h.sub (L' := L) (by (repeat (first | with_reducible exact Sub.refl _ | (with_reducible apply Sub.take; focus (repeat (first | with_reducible exact At.here | with_reducible apply At.there))) | with_reducible apply Sub.drop))))
  clear h H s3
  go_wp2_with fail
  go_ret
  exact ⟨by rw [← HB.out]; try rfl, H2.out⟩
end Go.Proofs.Ytbgknfdaaffeaaa
