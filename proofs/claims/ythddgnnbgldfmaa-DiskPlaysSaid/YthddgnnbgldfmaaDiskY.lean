/- (*Disk).Sync: how the disk lies behind it. -/
import Derived.Test.YthddgnnbgldfmaaDiskR
import Derived.Deep.LoopGhost
namespace Go.Proofs.Ythddgnnbgldfmaa
open Go.RowKit


/-- the load of one pending write -/
theorem load_pend {w : World} {g3 c3 n k : Nat} {l : List (Nat × List Int)} (h : w.ownsRow 0 83 65 (.slice (some ⟨g3, 0, none⟩) n c3) n (pv l)) (hl : ∀ p ∈ l, p.2.length = 64) (hk : k < l.length) :
    (Instr.loadAt 83 (.pointer (some ⟨g3, k * 65, none⟩))).run Try.prog w = .ok (.agg (wv l[k]).toArray) w := by
  have hr := own_range h (k * 65) 65
  rw [pv_at hl k hk] at hr
  have h1 := hl _ (List.getElem_mem hk)
  exact run_loadAt_mid (P := Try.prog) w g3 (k * 65) 83 (wv l[k]) _ hr Try.underlying83 rfl (by rw [size_write]; simp [wv, h1])
theorem store_write {w : World} (p : Nat × List Int) (h : p.2.length = 64) : (Instr.storeAt 83 (.pointer (some ⟨w.heap.size, 0, none⟩)) (.agg (wv p).toArray)).run Try.prog (w.alloc (.cells (wv (0, zeros 64)).toArray 83)) = .ok () (w.alloc (.cells (wv p).toArray 83)) :=
  run_storeAt_new w 83 _ _ (by rw [size_write, wv_size h]) (by rw [wv_size h, wv_size (by simp [zeros])]) (all_oneCell_toArray (wv_one _))
/-- the bytes of a write that lies in a block -/
theorem load_b {w : World} {b : Nat} {p : Nat × List Int} (h : Blk w b 83 (wv p).toArray) (hp : p.2.length = 64) : (Instr.loadAt 81 (.pointer (some ⟨b, 1, none⟩))).run Try.prog w = .ok (.agg (bv p.2).toArray) w := by
  have hr := h.range 1 64
  rw [show (((wv p).toArray.toList.drop 1).take 64) = bv p.2 by simp only [wv, List.drop_succ_cons, List.drop_zero]; exact List.take_of_length_le (by simp [hp])] at hr
  exact run_loadAt_mid (P := Try.prog) w b 1 81 (bv p.2) _ hr Try.underlying81 rfl (by rw [size_sector]; simp [hp])
theorem store_sector {w : World} {b c n i : Nat} {xs : List Value} {v : List Int} (h : w.ownsRow 0 81 64 (.slice (some ⟨b, 0, none⟩) n c) n xs) (hi : i < n) (hv : v.length = 64) :
    (Instr.storeAt 81 (.pointer (some ⟨b, i * 64, none⟩)) (.agg (bv v).toArray)).run Try.prog w = .ok () (w.setCells b (i * 64) (bv v)) ∧
    (w.setCells b (i * 64) (bv v)).ownsRow 0 81 64 (.slice (some ⟨b, 0, none⟩) n c) n (splice xs (i * 64) (bv v)) ∧ Fr (· = b) w (w.setCells b (i * 64) (bv v)) := by
  have hin : (i + 1) * 64 ≤ n * 64 := Nat.mul_le_mul_right _ hi
  refine ⟨?_, own_setCells h (i * 64) (by simp [hv]; omega), fr_setCells b _ _ _ (Fr.refl _ _) (fun _ => rfl)⟩
  exact run_storeAt_mid (P := Try.prog) w b (i * 64) 81 (bv v).toArray (by simpa [hv] using own_there h (i * 64) 64 (by omega)) (by rw [size_sector]; simp [hv]) (all_oneCell_toArray (bv_one _))

theorem onto_take {s : List Int} {l : List (Nat × List Int)} {k : Nat} (hk : k < l.length) : onto s (l.take (k + 1)) = splice (onto s (l.take k)) (l[k].1 * 64) l[k].2 := by
  rw [List.take_succ_eq_append_getElem hk, onto_append]
  rfl

set_option maxHeartbeats 400000 in
theorem sync_down (g : Nat) (D : DS) (F : Nat → Prop) (w : World) (ho : D.ok) (hd : D.goes = false) (hb : DiskAt w g D F) :
    Calls Try.prog 25 #[.pointer (some ⟨g, 0, none⟩)] w fun e w' => e = .returned (.tuple #[]) ∧ Fr (· = g) w w' ∧ DiskAt w' g D.after F := by
  have H2 := hide (done_any g D F w ho hb)
  rw [hd] at H2
  clear hd
  go_enter Try.func25, Try.ntmps25
  go_wp2_with (go_at_call 46; refine H2.out.mono ?_; rintro e w' ⟨rfl, h1, h2, h3⟩)
  ((try simp only [Exit.inBlock, Exit.then]); refine bodyPost_ret (results_none rfl _ _ _) rfl ?_)
  exact ⟨rfl, h1, h3⟩

set_option maxRecDepth 100000 in
set_option maxHeartbeats 1000000 in
theorem sync_ok (g : Nat) (D : DS) (F : Nat → Prop) (w : World) (ho : D.ok) (hd : D.goes = true) (hp : D.pend.length < 1000000) (hb : DiskAt w g D F) :
    Calls Try.prog 25 #[.pointer (some ⟨g, 0, none⟩)] w fun e w' => e = .returned (.tuple #[]) ∧ Fr F w w' ∧ DiskAt w' g { D.after with sure := onto D.sure D.pend, pend := [] } F := by
  have H2 := hide (done_any g D F w ho hb)
  rw [hd] at H2
  have HF := hide hb.fg
  have okA := ho.after
  have hpl : D.after.pend.length < 1000000 := hp
  have hlt := hide hb.lt
  rw [show onto D.sure D.pend = onto D.after.sure D.after.pend from rfl]
  clear hd hb hp ho
  generalize D.after = Da at *
  go_enter Try.func25, Try.ntmps25
  go_wp2_with fail
  refine H2.out.mono ?_
  rintro e w1 ⟨rfl, f1, hz, hb1⟩
  have HZ := hide hz
  clear hz H2
  obtain ⟨b1, c1, b2, c2, A3, c3, hD⟩ := hb1
  have k2 : w1.cell? ⟨g, 2, none⟩ = some (.slice A3 Da.pend.length c3) := (hD.blk.cell 2).trans rfl
  go_wp2_with fail
  have f1' : Fr F w w1 := f1.mono (by rintro i _ rfl; exact HF.out)
  have HO := hide okA
  clear f1 okA k2
  go_loopg [12] Da.pend.length (fun gh i wr => ∃ k : Nat, gh = Da.pend.length - k ∧ k ≤ Da.pend.length ∧ i = .int .i64 k ∧ Fr F w wr ∧ DiskIn wr g { Da with sure := onto Da.sure (Da.pend.take k) } F b1 c1 b2 c2 A3 c3)
  case atStart => exact ⟨0, by omega, Nat.zero_le _, rfl, f1', hD⟩
  case round =>
    clear f1' hD
    obtain ⟨k, hgk, hk, rfl, hF, hD⟩ := hrel
    by_cases hkn : k < Da.pend.length
    · obtain ⟨g3, rfl⟩ := own_form hD.pend (by show 0 < Da.pend.length; omega)
      have hp1 := HO.out.hp _ (List.getElem_mem hkn)
      have hld := load_pend (w := wr) (k := k) hD.pend (fun p h => (HO.out.hp p h).2) hkn
      have HG := hide hgk
      have HD := hide hD
      have HFR := hide hF
      have HK := hide hk
      have hs1 := fun w => store_write (w := w) Da.pend[k] hp1.2
      have HT := hide (onto_take (s := Da.sure) hkn)
      change (Instr.loadAt 83 (.pointer (some ⟨g3, k * 65, none⟩))).run Try.prog wr = .ok (.agg (wv Da.pend[k]).toArray) wr at hld
      generalize Da.pend[k] = p at hp1 hld hs1 HT
      obtain ⟨pi, pb⟩ := p
      simp only at hp1
      have hpi := hp1.1
      have hpb := hp1.2
      clear hp1 hgk hk hD hF
      go_wp2_with (first
        | ((with_reducible apply at_load (t := 83)); (focus rfl); (focus rfl); (focus rfl); (focus exact hld))
        | ((with_reducible apply at_alloc (t := 83)); (focus rfl); (focus rfl); (focus exact alloc_write _))
        | ((with_reducible apply at_store (t := 83)); (focus rfl); (focus rfl); (focus rfl); (focus rfl); (focus exact hs1 _)))
      refine region_tail 9 (by kernel_rfl) (by kernel_rfl) (fun W hW => ?_)
      have hFW : Fr Non wr W := by rw [hW]; exact ((Fr.refl _ _).alloc _).drew
      have hDW := HD.out.fr hFW (fun _ _ x => x)
      have hblk : Blk W wr.heap.size 83 (wv (pi, pb)).toArray := by rw [hW]; exact (Blk.new _ _ _).drew
      have hzW : W.heap.size = wr.heap.size + 1 := by rw [hW]; exact World.size_alloc _ _
      have HZW := hide hzW
      clear hW hzW
      have q1 : W.cell? ⟨g, 1, none⟩ = some (.slice (some ⟨b2, 0, none⟩) Da.n c2) := (hDW.blk.cell 1).trans rfl
      have q2 : W.cell? ⟨wr.heap.size, 0, none⟩ = some (.int .i64 pi) := (hblk.cell 0).trans rfl
      have hlb := load_b hblk hpb
      have hnk : (0 : Int) ≤ (pi : Int) ∧ (pi : Int) < (Da.n : Int) := by omega
      have HDW := hide hDW
      obtain ⟨hst, hown, hfr⟩ := store_sector hDW.sure (show pi < Da.n from hpi) hpb
      clear hDW hblk
      generalize W.setCells b2 (pi * 64) (bv pb) = W2 at hst hown hfr
      simp only [List.take_succ_cons, List.take_zero, List.drop_succ_cons, List.drop_zero]
      iterate 7 still_step
      (with_reducible apply still_load (t := 81))
      focus rfl
      focus rfl
      focus rfl
      focus exact hlb
      repeat still_step
      try refine wpStill_nil ?_
      (with_reducible apply at_store (t := 81))
      focus rfl
      focus rfl
      focus rfl
      focus rfl
      focus exact hst
      simp only [Act.put]
      clear hst hlb q1 q2
      go_wp2_with fail
      go_roundg (Da.pend.length - (k + 1))
      case measure => have := HG.out; omega
      case rel =>
        have hDW := HDW.out
        refine ⟨k + 1, rfl, by omega, rfl, ?_, ?_⟩
        · exact (HFR.out.step hFW (fun _ x _ => x.elim)).step hfr (by rintro i rfl _; exact hDW.f2)
        · refine ⟨?_, ?_, ?_, ?_, hDW.ne, hDW.fg, hDW.f1, hDW.f2, hDW.f3, fun b hb => Nat.lt_of_lt_of_le (hDW.lt b hb) hfr.size⟩
          · exact hDW.blk.fr hfr hDW.ne2
          · exact own_fr1 hDW.seen hfr hDW.ne
          · rw [HT.out, bv_splice]; exact hown
          · exact own_fr hDW.pend hfr (fun b hb => (hDW.ne3 b hb).2.2)
    · obtain rfl : k = Da.pend.length := by omega
      have HD := hide hD
      have k2 : wr.cell? ⟨g, 2, none⟩ = some (.slice A3 Da.pend.length c3) := (hD.blk.cell 2).trans rfl
      have j2 := hD.blk.frozen 2
      clear hD hgk hk
      have HFR := hide hF
      go_wp2_with fail
      go_end0
      have hD := HD.out
      rw [List.take_length] at hD
      have hf : Fr (· = g) wr (wr.setCell ⟨g, 2, none⟩ (.slice none 0 0)) := Fr.setCell (S := (· = g)) (p := ⟨g, 2, none⟩) (Fr.refl _ _) (fun _ => rfl) _
      refine ⟨rfl, HFR.out.setCell (fun _ => hD.fg) _, b1, c1, b2, c2, none, 0, ?_⟩
      refine ⟨hD.blk.set_ 2 _, own_fr1 hD.seen hf (fun e => hD.ne1 e.symm), own_fr1 hD.sure hf (fun e => hD.ne2 e.symm), World.ownsRow_nil _ _ _ _, hD.ne, hD.fg, hD.f1, hD.f2, fun b e => by simp [Value.ownBlock] at e, fun b hb => Nat.lt_of_lt_of_le (hD.lt b hb) hf.size⟩

theorem sync_any (g : Nat) (D : DS) (F : Nat → Prop) (w : World) (ho : D.ok) (hp : D.pend.length < 1000000) (hb : DiskAt w g D F) :
    Calls Try.prog 25 #[.pointer (some ⟨g, 0, none⟩)] w fun e w' => e = .returned (.tuple #[]) ∧ Fr F w w' ∧ DiskAt w' g D.sync F := by
  unfold DS.sync
  cases hd : D.goes with
  | false =>
    refine (sync_down g D F w ho hd hb).mono ?_
    rintro e w' ⟨rfl, h1, h2⟩
    exact ⟨rfl, h1.mono (by rintro b _ rfl; exact hb.fg), h2⟩
  | true => exact sync_ok g D F w ho hd hp hb

end Go.Proofs.Ythddgnnbgldfmaa
