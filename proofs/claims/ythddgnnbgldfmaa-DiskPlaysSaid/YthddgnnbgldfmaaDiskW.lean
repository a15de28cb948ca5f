/- (*Disk).Write: what it answers, and how the disk lies behind it. -/
import Derived.Test.YthddgnnbgldfmaaDiskD
import Derived.Test.YthddgnnbgldfmaaCloneW
import Derived.Deep.WholeRow
import Derived.Test.YthddgnnbgldfmaaMix
namespace Go.Proofs.Ythddgnnbgldfmaa
open Go.RowKit

theorem build_write (k : Nat) (w : World) : (Instr.build 83 #[(0, .int .i64 k)]).run Try.prog w = .ok (.agg (wv (k, zeros 64)).toArray) w := by kernel_rfl
theorem alloc_write (w : World) : (Instr.alloc 83 true (.tuple #[])).run Try.prog w = .ok (.pointer (some ⟨w.heap.size, 0, none⟩)) (w.alloc (.cells (wv (0, zeros 64)).toArray 83)) := by kernel_rfl
theorem size_write : (Try.prog.info? 83).map (·.size) = some 65 := by kernel_rfl
theorem size_sector : (Try.prog.info? 81).map (·.size) = some 64 := by kernel_rfl
theorem size_byte : (Try.prog.info? 5).map (·.size) = some 1 := by kernel_rfl

theorem buildSlice_write (w : World) (cs : Array Value) (h : cs.size = 65) :
    (Instr.buildSlice 77 1 #[(0, .agg cs)]).run Try.prog w = .ok (.slice (some ⟨w.heap.size, 0, none⟩) 1 1) (w.alloc (.cells cs 83)) :=
  run_buildSlice_one (P := Try.prog) w 77 83 cs _ 72 Try.underlying77 (by rw [h]; exact info_write) (by omega) (by omega)

theorem wv_size {k : Nat} {b : List Int} (h : b.length = 64) : (wv (k, b)).toArray.size = 65 := by simp [wv, h]
theorem full_splice {b : List Int} (k : Nat) : splice (wv (k, zeros 64)) 1 (bv b) = wv (k, full b) := by
  simp only [splice, wv, bv_length, List.take_succ_cons, List.take_zero, List.cons_append, List.nil_append, show 1 + b.length = b.length + 1 by omega, List.drop_succ_cons]
  simp only [bv, zeros, full, List.map_append, List.map_replicate, List.drop_replicate]

set_option maxHeartbeats 400000 in
theorem write_no (g : Nat) (i : Int) (v : Value) (D : DS) (F : Nat → Prop) (w : World) (hi : i < 0 ∨ (D.n : Int) ≤ i) (hb : DiskAt w g D F) :
    Calls Try.prog 27 #[.pointer (some ⟨g, 0, none⟩), .int .i64 i, v] w fun e w' => e = .returned (.int .i64 40) ∧ w = w' := by
  have H := hide (has_any g i D F w hb)
  rw [decide_eq_false (by omega)] at H
  go_enter Try.func27, Try.ntmps27
  go_wp2_with (go_at_call 48; refine H.out.mono ?_; rintro e w' ⟨rfl, rfl⟩)
  go_ret
  exact ⟨rfl, rfl⟩

set_option maxHeartbeats 400000 in
theorem write_long (g : Nat) (i : Int) (a : Option Addr) (n c : Nat) (D : DS) (F : Nat → Prop) (w : World) (hi : 0 ≤ i) (hi' : i < (D.n : Int)) (hn : 64 < n) (hb : DiskAt w g D F) :
    Calls Try.prog 27 #[.pointer (some ⟨g, 0, none⟩), .int .i64 i, .slice a n c] w fun e w' => e = .returned (.int .i64 2) ∧ w = w' := by
  have H := hide (has_any g i D F w hb)
  rw [decide_eq_true ⟨hi, hi'⟩] at H
  go_enter Try.func27, Try.ntmps27
  go_wp2_with (go_at_call 48; refine H.out.mono ?_; rintro e w' ⟨rfl, rfl⟩)
  go_ret
  exact ⟨rfl, rfl⟩

set_option maxHeartbeats 400000 in
theorem write_down (g : Nat) (i : Int) (a : Option Addr) (n c : Nat) (D : DS) (F : Nat → Prop) (w : World) (ho : D.ok) (hi : 0 ≤ i) (hi' : i < (D.n : Int)) (hn : n ≤ 64) (hd : D.goes = false) (hb : DiskAt w g D F) :
    Calls Try.prog 27 #[.pointer (some ⟨g, 0, none⟩), .int .i64 i, .slice a n c] w fun e w' => e = .returned (.int .i64 43) ∧ Fr (· = g) w w' ∧ w'.heap.size = w.heap.size ∧ DiskAt w' g D.after F := by
  have H := hide (has_any g i D F w hb)
  rw [decide_eq_true ⟨hi, hi'⟩] at H
  have H2 := hide (done_any g D F w ho hb)
  rw [hd] at H2
  clear hd
  go_enter Try.func27, Try.ntmps27
  go_wp2_with (first | (go_at_call 48; refine H.out.mono ?_; rintro e w' ⟨rfl, rfl⟩) | (go_at_call 46; refine H2.out.mono ?_; rintro e w' ⟨rfl, h1, h2, h3⟩))
  go_ret
  exact ⟨rfl, h1, h2, h3⟩

set_option maxRecDepth 100000 in
set_option maxHeartbeats 1000000 in
theorem write_ok (g k : Nat) (A : Option Addr) (n c : Nat) (bs : List Int) (Q : Nat → Prop) (D : DS) (F : Nat → Prop) (w : World) (ho : D.ok) (hi' : k < D.n) (hn : n = bs.length) (hl : bs.length ≤ 64) (hd : D.goes = true) (hp : D.pend.length < 1000000)
    (hq : ∀ b, Q b → b ≠ g) (hv : Sl w Q 1 A n (bv bs)) (hb : DiskAt w g D F) :
    Calls Try.prog 27 #[.pointer (some ⟨g, 0, none⟩), .int .i64 k, .slice A n c] w fun e w' => e = .returned (.int .i64 0) ∧ Fr F w w' ∧ DiskAt w' g (D.after.put k bs) (Plus F w w') := by
  have H := hide (has_any g k D F w hb)
  rw [decide_eq_true (show 0 ≤ (k : Int) ∧ (k : Int) < (D.n : Int) by omega)] at H
  have H2 := hide (done_any g D F w ho hb)
  rw [hd] at H2
  have HN := hide hn
  have hnl : n ≤ 64 := by omega
  have HV := hide hv
  have HF := hide hb.fg
  have okA := ho.after
  clear hd hn hv hb
  generalize hDa : D.after = Da at *
  go_enter Try.func27, Try.ntmps27
  go_wp2_with fail
  refine H.out.mono ?_
  rintro e w' ⟨rfl, rfl⟩
  go_wp2_with fail
  refine H2.out.mono ?_
  rintro e w1 ⟨rfl, f1, hz, hb1⟩
  have HZ := hide hz
  clear hz
  have hst : (Instr.storeAt 83 (.pointer (some ⟨w1.heap.size, 0, none⟩)) (.agg (wv (k, zeros 64)).toArray)).run Try.prog (w1.alloc (.cells (wv (0, zeros 64)).toArray 83)) = .ok () (w1.alloc (.cells (wv (k, zeros 64)).toArray 83)) :=
    run_storeAt_new w1 83 _ _ (by rw [size_write, wv_size (by simp [zeros])]) (by rw [wv_size (by simp [zeros]), wv_size (by simp [zeros])]) (all_oneCell_toArray (wv_one _))
  have hcp : (Builtin.copy_ #[50, 50] 3 #[.slice (some ⟨w1.heap.size, 1, none⟩) 64 64, .slice A n c]).run Try.prog (w1.alloc (.cells (wv (k, zeros 64)).toArray 83)) = .ok (goInt n) (w1.alloc (.cells (wv (k, full bs)).toArray 83)) := by
    have hfr : Fr Non w1 (w1.alloc (.cells (wv (k, zeros 64)).toArray 83)) := (Fr.refl _ _).alloc _
    have hV : Sl (w1.alloc (.cells (wv (k, zeros 64)).toArray 83)) Q 1 A n (bv bs) := (HV.out.fr f1 (fun b h _ e => hq b h e)).non hfr
    rw [copy_run 50 50 3 5 w1.heap.size 1 64 64 A n c (bv bs) Q Try.underlying50 size_byte hV hnl ?_ (bv_one bs),
      setCells_alloc _ _ _ _ _ (by rw [wv_size (by simp [zeros])]; simp; omega), full_splice]
    refine (Blk.new _ _ _).there 1 n (by rw [wv_size (by simp [zeros])]; omega)
  go_wp2_with (first
    | ((with_reducible apply at_build1 (t := 83)); (focus rfl); (focus rfl); (focus rfl); (focus exact build_write k _))
    | ((with_reducible apply at_alloc (t := 83)); (focus rfl); (focus rfl); (focus exact alloc_write _))
    | ((with_reducible apply at_store (t := 83)); (focus rfl); (focus rfl); (focus rfl); (focus rfl); (focus exact hst))
    | ((with_reducible apply at_copy (tx := 50)); (focus rfl); (focus rfl); (focus rfl); (focus rfl); (focus exact hcp)))
  clear hst hcp
  obtain ⟨b1, c1, b2, c2, A3, c3, hD⟩ := hb1
  have hnk : (0 : Int) ≤ (k : Int) ∧ (k : Int) < (Da.n : Int) := by rw [← hDa]; show (0 : Int) ≤ (k : Int) ∧ (k : Int) < (D.n : Int); omega
  have hpl : Da.pend.length < 1000000 := by rw [← hDa]; exact hp
  refine region_tail 8 (by kernel_rfl) (by kernel_rfl) (fun W hW => ?_)
  have hFW : Fr Non w1 W := by rw [hW]; exact ((Fr.refl _ _).alloc _).drew
  have hDW := hD.fr hFW (fun _ _ x => x)
  have hblk : Blk W w1.heap.size 83 (wv (k, full bs)).toArray := by rw [hW]; exact (Blk.new _ _ _).drew
  have HW := hide hW
  clear hW
  have k0 : W.cell? ⟨g, 0, none⟩ = some (.slice (some ⟨b1, 0, none⟩) Da.n c1) := (hDW.blk.cell 0).trans rfl
  have hrg : W.rangeAt w1.heap.size 1 (bv (full bs)) := by
    have := hblk.range 1 64
    rwa [List.take_of_length_le (by simp [wv, full_length hl])] at this
  have hl81 := run_loadAt_mid (P := Try.prog) W w1.heap.size 1 81 (bv (full bs)) _ hrg Try.underlying81 rfl (by rw [size_sector]; simp [full_length hl])
  simp only [List.take_succ_cons, List.take_zero, List.drop_succ_cons, List.drop_zero]
  iterate 6 still_step
  (with_reducible apply still_load (t := 81))
  focus rfl
  focus rfl
  focus rfl
  focus exact hl81
  repeat still_step
  try refine wpStill_nil ?_
  have hfl := full_length hl
  have hin : k * 64 + 64 ≤ Da.n * 64 := by have : k < Da.n := by omega
                                           omega
  have hst2 : (Instr.storeAt 81 (.pointer (some ⟨b1, k * 64, none⟩)) (.agg (bv (full bs)).toArray)).run Try.prog W = .ok () (W.setCells b1 (k * 64) (bv (full bs))) :=
    run_storeAt_mid (P := Try.prog) W b1 (k * 64) 81 (bv (full bs)).toArray (by simpa [hfl] using own_there hDW.seen (k * 64) 64 hin) (by rw [size_sector]; simp [hfl]) (all_oneCell_toArray (bv_one _))
  have hseen := own_setCells (vs := bv (full bs)) hDW.seen (k * 64) (by simpa [hfl] using hin)
  have hF2 : Fr (· = b1) W (W.setCells b1 (k * 64) (bv (full bs))) := fr_setCells b1 _ _ _ (Fr.refl _ _) (fun _ => rfl)
  generalize W.setCells b1 (k * 64) (bv (full bs)) = w2 at hst2 hseen hF2
  (with_reducible apply at_store (t := 81))
  focus rfl
  focus rfl
  focus rfl
  focus rfl
  focus exact hst2
  clear hst2 hl81 hrg k0
  -- the disk's struct and the new write, in the world behind the store
  have hblk2 : Blk w2 w1.heap.size 83 (wv (k, full bs)).toArray := hblk.fr hF2 (fun e => by have := hD.lt _ hD.f1; omega)
  have hg2 : Blk w2 g 79 (dcells b1 c1 b2 c2 (.slice A3 Da.pend.length c3) Da) := hDW.blk.fr hF2 hDW.ne1
  have hsure2 := own_fr1 hDW.sure hF2 hDW.ne.symm
  have hpend2 := own_fr hDW.pend hF2 (fun b hb => (hDW.ne3 b hb).2.1)
  have k2 : w2.cell? ⟨g, 2, none⟩ = some (.slice A3 Da.pend.length c3) := (hg2.cell 2).trans rfl
  have j2 := hg2.frozen 2
  simp only [Act.put]
  go_wp2_with fail
  refine region_mix (fun W => W.cell? ⟨g, 2, none⟩ = some (.slice A3 Da.pend.length c3) ∧ W.rangeAt w1.heap.size 0 (wv (k, full bs))) 8 [0, 1, 2, 3, 4, 5] [6, 7, 8, 9, 10] (by kernel_rfl) (by kernel_rfl)
    (fun d => by cases d <;> exact fun _ _ _ _ h => h) (fun W3 hW3 => ?_)
  refine ⟨⟨by rw [hW3]; exact k2, ?_⟩, ?_⟩
  · rw [hW3]
    have := hblk2.range 0 65
    rw [List.drop_zero, List.take_of_length_le (by simp [wv, hfl])] at this
    exact this
  iterate 5 (refine take_run rfl rfl (fun W hW => by (rcases hW with ⟨_, _⟩; go_simp; try rfl)) ?_; simp only [Act.put, List.setIfInBounds_toArray, List.set_cons_succ, List.set_cons_zero])
  have hld (W : World) (hW : W.cell? ⟨g, 2, none⟩ = some (.slice A3 Da.pend.length c3) ∧ W.rangeAt w1.heap.size 0 (wv (k, full bs))) := run_loadAt_mid (P := Try.prog) W w1.heap.size 0 83 (wv (k, full bs)) _ hW.2 Try.underlying83 rfl (by rw [size_write]; simp [wv, hfl])
  refine take_load rfl rfl 83 _ (.pointer (some ⟨w1.heap.size, 0, none⟩)) rfl rfl hld ?_
  (simp only [Act.put, List.setIfInBounds_toArray, List.set_cons_succ, List.set_cons_zero])
  have hBlk3 : Blk W3 w1.heap.size 83 (wv (k, full bs)).toArray := by rw [hW3]; exact hblk2.drew
  have hg3 : Blk W3 g 79 (dcells b1 c1 b2 c2 (.slice A3 Da.pend.length c3) Da) := by rw [hW3]; exact hg2.drew
  have hF3 : Fr Non w2 W3 := by rw [hW3]; exact (Fr.refl _ _).drew
  have hz3 : W3.heap.size = w2.heap.size := by rw [hW3]; rfl
  clear hW3
  have hbs := buildSlice_write W3 (wv (k, full bs)).toArray (by simp [wv, hfl])
  refine seq_buildSlice1 rfl rfl 77 1 0 _ (.agg (wv (k, full bs)).toArray) rfl rfl hbs (fun _ => ⟨?_, ?_⟩) ?_
  · rw [World.cell?_alloc_lt _ _ _ (by have := hg3.lt; exact this)]; exact hg3.cell 2
  · have := (hBlk3.alloc (.cells (wv (k, full bs)).toArray 83)).range 0 65
    rwa [List.drop_zero, List.take_of_length_le (by simp [wv, hfl])] at this
  (simp only [Act.put, List.setIfInBounds_toArray, List.set_cons_succ, List.set_cons_zero])
  have hF4 : Fr Non w2 (W3.alloc (.cells (wv (k, full bs)).toArray 83)) := hF3.alloc _
  have hnew := Blk.new W3 83 (wv (k, full bs)).toArray
  have hpend4 := own_fr hpend2 hF4 (fun _ _ x => x)
  have hg4 := hg3.alloc (.cells (wv (k, full bs)).toArray 83)
  have hB4 := hBlk3.alloc (.cells (wv (k, full bs)).toArray 83)
  have hz4 : (W3.alloc (.cells (wv (k, full bs)).toArray 83)).heap.size = w2.heap.size + 1 := by rw [World.size_alloc, hz3]
  generalize W3.alloc (.cells (wv (k, full bs)).toArray 83) = W4 at hF4 hnew hpend4 hg4 hB4 hz4
  have hgo : ¬ (Value.slice A3 Da.pend.length c3).ownBlock = some g := fun e => (hD.ne3 g e).1 rfl
  have hwo : ¬ (Value.slice A3 Da.pend.length c3).ownBlock = some w1.heap.size := fun e => Nat.lt_irrefl _ (hD.lt _ (hD.f3 _ e))
  refine seq_append rfl rfl _ _ 77 rfl 0 83 _ 65 72 Try.underlying77 info_write (by kernel_rfl) (by omega) (.slice A3 Da.pend.length c3) Da.pend.length (pv Da.pend) rfl hpend4 ⟨W3.heap.size, 0, none⟩ 1 1 rfl (wv (k, full bs)) (by simp [wv, hfl]) ?_ (wv_one _) (by omega) (by omega) (Nat.zero_le _) (fun v' W5 hown5 hF5 hb5 => ⟨fun _ => ⟨?_, ?_⟩, ?_⟩)
  · intro j u hu
    rw [show (⟨W3.heap.size, 0, none⟩ : Addr).add j = ⟨W3.heap.size, j, none⟩ by simp [Addr.add]; exact Eq.symm, hnew.cell]
    simpa using hu
  · exact (hg4.fr hF5 hgo).cell 2
  · have := (hB4.fr hF5 hwo).range 0 65
    rwa [List.drop_zero, List.take_of_length_le (by simp [wv, hfl])] at this
  (simp only [Act.put, List.setIfInBounds_toArray, List.set_cons_succ, List.set_cons_zero])
  (refine seq_read rfl rfl (by (go_simp; try rfl)) (fun h => absurd h (by decide)) ?_; simp only [Act.put, List.setIfInBounds_toArray, List.set_cons_succ, List.set_cons_zero])
  (refine seq_read rfl rfl (by (go_simp; try rfl)) (fun h => absurd h (by decide)) ?_; simp only [Act.put, List.setIfInBounds_toArray, List.set_cons_succ, List.set_cons_zero])
  have hg5 := hg4.fr hF5 hgo
  obtain ⟨A5, c5, rfl⟩ : ∃ A5 c5, v' = .slice A5 (Da.pend.length + 1) c5 := by
    rcases hown5.2 with ⟨rfl, _⟩ | ⟨b5, cap5, cur5, rfl, _⟩
    · exact ⟨_, _, by rw [show Da.pend.length + 1 = 0 from by assumption]⟩
    · exact ⟨_, _, rfl⟩
  have hst3 : (Instr.storeAt 77 (.pointer (some ⟨g, 2, none⟩)) (.slice A5 (Da.pend.length + 1) c5)).run Try.prog W5 = .ok () (W5.setCell ⟨g, 2, none⟩ (.slice A5 (Da.pend.length + 1) c5)) := by
    have h1 : W5.cell? ⟨g, 2, none⟩ = some (.slice A3 Da.pend.length c3) := (hg5.cell 2).trans rfl
    have h2 := hg5.frozen 2
    go_simp
  refine seq_store rfl rfl 77 _ _ (.pointer (some ⟨g, 2, none⟩)) (.slice A5 (Da.pend.length + 1) c5) rfl rfl rfl hst3 (fun h => absurd h (by decide)) ?_
  (simp only [Act.put, List.setIfInBounds_toArray, List.set_cons_succ, List.set_cons_zero])
  refine seq_nil ?_
  go_wp2_with fail
  go_ret
  have hsz5 : W.heap.size + 1 ≤ W5.heap.size := by
    have h1 := hF2.size
    have h2 := hF5.size
    omega
  have hsz1 := hFW.size
  have hz := HZ.out
  have hFall : Fr F w (W5.setCell ⟨g, 2, none⟩ (.slice A5 (Da.pend.length + 1) c5)) := by
    have e1 : Fr F w w1 := f1.mono (by rintro i _ rfl; exact HF.out)
    have e2 : Fr F w W := e1.step hFW (fun _ x _ => x.elim)
    have e3 : Fr F w w2 := e2.step hF2 (by rintro i rfl _; exact hD.f1)
    have e4 : Fr F w W4 := e3.step hF4 (fun _ x _ => x.elim)
    have e5 : Fr F w W5 := e4.step hF5 (fun i x _ => hD.f3 i x)
    exact e5.setCell (fun _ => HF.out) _
  have hf6 : Fr (· = g) W5 (W5.setCell ⟨g, 2, none⟩ (.slice A5 (Da.pend.length + 1) c5)) := Fr.setCell (S := (· = g)) (p := ⟨g, 2, none⟩) (Fr.refl _ _) (fun _ => rfl) _
  have hs6 : (W5.setCell ⟨g, 2, none⟩ (.slice A5 (Da.pend.length + 1) c5)).heap.size = W5.heap.size := by simp [World.setCell]
  have hS1 : ¬ (Value.slice A3 Da.pend.length c3).ownBlock = some b1 := fun e => (hD.ne3 b1 e).2.1 rfl
  have hS2 : ¬ (Value.slice A3 Da.pend.length c3).ownBlock = some b2 := fun e => (hD.ne3 b2 e).2.2 rfl
  have hgl := hD.lt _ hD.fg
  have hownb : ∀ b, (Value.slice A5 (Da.pend.length + 1) c5).ownBlock = some b → (Value.slice A3 Da.pend.length c3).ownBlock = some b ∨ b = W4.heap.size := by
    intro b e
    rcases hb5 with h | h
    · exact .inl (h ▸ e)
    · exact .inr (by rw [h] at e; injection e with e; exact e.symm)
  refine ⟨rfl, hFall, b1, c1, b2, c2, A5, c5, ?_⟩
  have hpl5 : (Da.put k bs).pend.length = Da.pend.length + 1 := by simp [DS.put]
  have hlt : ∀ b, F b → b < w.heap.size := fun b hb => by have := hD.lt b hb; omega
  refine ⟨?_, ?_, ?_, ?_, hD.ne, .inl hD.fg, .inl hD.f1, .inl hD.f2, ?_, ?_⟩
  · have := hg5.set_ 2 (.slice A5 (Da.pend.length + 1) c5)
    rw [hpl5]
    exact this
  · have := own_fr1 (own_fr1 (own_fr1 hseen hF4 (fun x => x)) hF5 hS1) hf6 (fun e => hD.ne1 e.symm)
    rw [← bv_splice] at this
    exact this
  · exact own_fr1 (own_fr1 (own_fr1 hsure2 hF4 (fun x => x)) hF5 hS2) hf6 (fun e => hD.ne2 e.symm)
  · rw [hpl5]
    have hpv : pv (Da.put k bs).pend = pv Da.pend ++ wv (k, full bs) := by
      show pv (Da.pend ++ [(k, full bs)]) = _
      rw [pv_append, pv_one]
    rw [hpv]
    refine own_fr hown5 hf6 (fun b e => ?_)
    rcases hownb b e with h | rfl
    · exact (hD.ne3 b h).1
    · have := hg4.lt; omega
  · rw [hpl5]
    intro b e
    rcases hownb b e with h | rfl
    · exact .inl (hD.f3 b h)
    · refine .inr ⟨?_, ?_⟩
      · have h1 := hF2.size
        omega
      · rw [hs6]; exact (hown5.lt _ e).2
  · rintro b (h | h)
    · have := hlt b h; omega
    · exact h.2

theorem Plus.sub {F : Nat → Prop} {w w' : World} (b : Nat) (h : F b) : Plus F w w' b := .inl h
theorem DiskAt.plus {w w' : World} {g : Nat} {D : DS} {F : Nat → Prop} (h : DiskAt w' g D F) : DiskAt w' g D (Plus F w w') := by
  refine h.mono Plus.sub ?_
  rintro b (hb | hb)
  · exact h.lt b hb
  · exact hb.2

theorem write_any (g : Nat) (i : Int) (A : Option Addr) (n c : Nat) (bs : List Int) (Q : Nat → Prop) (D : DS) (F : Nat → Prop) (w : World) (ho : D.ok) (hn : n = bs.length) (hp : D.pend.length < 1000000)
    (hq : ∀ b, Q b → b ≠ g) (hv : Sl w Q 1 A n (bv bs)) (hb : DiskAt w g D F) :
    Calls Try.prog 27 #[.pointer (some ⟨g, 0, none⟩), .int .i64 i, .slice A n c] w fun e w' => e = .returned (.int .i64 (D.writeE i bs)) ∧ Fr F w w' ∧ DiskAt w' g (D.write i bs) (Plus F w w') := by
  unfold DS.writeE DS.write
  by_cases hi : i < 0 ∨ (D.n : Int) ≤ i
  · rw [if_pos hi, if_pos hi]
    refine (write_no g i _ D F w hi hb).mono ?_
    rintro e w' ⟨rfl, rfl⟩
    exact ⟨rfl, Fr.refl _ _, hb.plus⟩
  · rw [if_neg hi, if_neg hi]
    by_cases hl : 64 < bs.length
    · rw [if_pos hl, if_pos hl]
      refine (write_long g i A n c D F w (by omega) (by omega) (by omega) hb).mono ?_
      rintro e w' ⟨rfl, rfl⟩
      exact ⟨rfl, Fr.refl _ _, hb.plus⟩
    · rw [if_neg hl, if_neg hl]
      cases hd : D.goes with
      | false =>
        refine (write_down g i A n c D F w ho (by omega) (by omega) (by omega) hd hb).mono ?_
        rintro e w' ⟨rfl, h1, _, h2⟩
        exact ⟨rfl, h1.mono (by rintro b _ rfl; exact hb.fg), h2.plus⟩
      | true =>
        obtain ⟨k, rfl⟩ := Int.eq_ofNat_of_zero_le (show 0 ≤ i by omega)
        exact write_ok g k A n c bs Q D F w ho (by omega) hn (by omega) hd hp hq hv hb

end Go.Proofs.Ythddgnnbgldfmaa
