/- (*Disk).Crash: how the disk lies behind it. -/
import Derived.Test.YthddgnnbgldfmaaDiskY
import Derived.Test.YthddgnnbgldfmaaCloneS
import Derived.Deep.DeepCutAuto
namespace Go.Proofs.Ythddgnnbgldfmaa
open Go.RowKit

theorem tear_take {picks s : List Int} {l : List (Nat × List Int)} {k : Nat} (hk : k < l.length) :
    tear picks s 0 (l.take (k + 1)) = splice (tear picks s 0 (l.take k)) (l[k].1 * 64) (l[k].2.take (keeps picks k)) := by
  rw [List.take_succ_eq_append_getElem hk, tear_append, List.length_take, Nat.min_eq_left (by omega), Nat.zero_add]
  rfl

set_option maxRecDepth 100000 in
set_option maxHeartbeats 1000000 in
theorem crash_any (g : Nat) (A : Option Addr) (n c : Nat) (picks : List Int) (Q : Nat → Prop) (D : DS) (F : Nat → Prop) (w : World) (ho : D.ok) (hp : D.pend.length < 1000000)
    (hn : n = picks.length) (hq : ∀ b, Q b → ¬ F b) (hv : Sl w Q 1 A n (picks.map (Value.int .i64))) (hb : DiskAt w g D F) :
    Calls Try.prog 28 #[.pointer (some ⟨g, 0, none⟩), .slice A n c] w fun e w' => e = .returned (.tuple #[]) ∧ Fr F w w' ∧ DiskAt w' g (D.crash picks) (Plus F w w') := by
  have HF := hide hb.fg
  have HN := hide hn
  have HV := hide hv
  have hlt := hide hb.lt
  obtain ⟨b1, c1, b2, c2, A3, c3, hD⟩ := hb
  have k2 : w.cell? ⟨g, 2, none⟩ = some (.slice A3 D.pend.length c3) := (hD.blk.cell 2).trans rfl
  have HO := hide ho
  clear ho hn hv
  go_enter Try.func28, Try.ntmps28
  go_wp2_with fail
  clear k2
  go_loopg [12] D.pend.length (fun gh i wr => ∃ k : Nat, gh = D.pend.length - k ∧ k ≤ D.pend.length ∧ i = .int .i64 k ∧ Fr F w wr ∧ DiskIn wr g { D with sure := tear picks D.sure 0 (D.pend.take k) } F b1 c1 b2 c2 A3 c3)
  case atStart => exact ⟨0, by omega, Nat.zero_le _, rfl, Fr.refl _ _, hD⟩
  case round =>
    clear hD
    obtain ⟨k, hgk, hk, rfl, hF, hD⟩ := hrel
    by_cases hkn : k < D.pend.length
    · obtain ⟨g3, rfl⟩ := own_form hD.pend (by show 0 < D.pend.length; omega)
      have hp1 := HO.out.hp _ (List.getElem_mem hkn)
      have hld := load_pend (w := wr) (k := k) hD.pend (fun p h => (HO.out.hp p h).2) hkn
      have HG := hide hgk
      have HD := hide hD
      have HFR := hide hF
      have HK := hide hk
      have hs1 := fun w => store_write (w := w) D.pend[k] hp1.2
      have HT := hide (tear_take (picks := picks) (s := D.sure) hkn)
      change (Instr.loadAt 83 (.pointer (some ⟨g3, k * 65, none⟩))).run Try.prog wr = .ok (.agg (wv D.pend[k]).toArray) wr at hld
      generalize D.pend[k] = p at hp1 hld hs1 HT
      obtain ⟨pi, pb⟩ := p
      simp only at hp1
      have hpi := hp1.1
      have hpb := hp1.2
      clear hp1 hgk hk hD hF
      go_upto_if 20 with (first
        | ((with_reducible apply at_load (t := 83)); (focus rfl); (focus rfl); (focus rfl); (focus exact hld))
        | ((with_reducible apply at_alloc (t := 83)); (focus rfl); (focus rfl); (focus exact alloc_write _))
        | ((with_reducible apply at_store (t := 83)); (focus rfl); (focus rfl); (focus rfl); (focus rfl); (focus exact hs1 _)))
      have hkc : ((k : Int) < (n : Int)) = (k < picks.length) := by rw [HN.out]; simp
      go_cut [6] (fun t wx => t = .int .i64 (keeps picks k) ∧ wx = wr.alloc (.cells (wv (pi, pb)).toArray 83))
      case first =>
        by_cases hkp : k < picks.length
        · have hVW : Sl wr Q 1 A n (picks.map (Value.int .i64)) := HV.out.fr HFR.out (fun b h _ => hq b h)
          obtain ⟨ad, u, rfl, hqa, hab, hxu, hcu⟩ := hVW.at_ (k := k) (by rw [HN.out]; exact hkp)
          obtain rfl : u = .int .i64 picks[k] := by
            rw [List.getElem?_map, List.getElem?_eq_getElem hkp] at hxu
            simpa using hxu.symm
          have hck : (wr.alloc (.cells (wv (pi, pb)).toArray 83)).cell? (ad.add k) = some (.int .i64 picks[k]) := (World.cell?_alloc_lt _ _ _ (by rw [addr_block]; exact hab)).trans hcu
          clear hVW hxu hcu
          have hkn' : (k : Int) < (n : Int) := by rw [HN.out]; omega
          have hkeep : ((keeps picks k : Nat) : Int) = max 0 (min picks[k] 64) := by
            unfold keeps
            rw [if_pos hkp, List.getD_eq_getElem?_getD, List.getElem?_eq_getElem hkp]
            simp only [Option.getD_some]
            omega
          have HKE := hide hkeep
          clear hkeep
          go_wp2_with fail
          all_goals
            go_meet
            refine ⟨?_, rfl⟩
            have := HKE.out
            congr 1
            omega
        · have hkn' : ¬ (k : Int) < (n : Int) := by rw [HN.out]; omega
          have HKE : Hid (keeps picks k = 0) := by unfold keeps; rw [if_neg hkp]; exact hide rfl
          go_wp2_with fail
          all_goals
            go_meet
            refine ⟨?_, rfl⟩
            have := HKE.out
            congr 1
            omega
      case rest =>
        obtain ⟨rfl, rfl⟩ := hcut
        have hkl : keeps picks k ≤ 64 := keeps_le picks k
        generalize keeps picks k = kp at HT hkl
        go_wp2_with fail
        refine region_tail 11 (by kernel_rfl) (by kernel_rfl) (fun W hW => ?_)
        have hFW : Fr Non wr W := by rw [hW]; exact ((Fr.refl _ _).alloc _).drew
        have hDW := HD.out.fr hFW (fun _ _ x => x)
        have hblk : Blk W wr.heap.size 83 (wv (pi, pb)).toArray := by rw [hW]; exact (Blk.new _ _ _).drew
        clear hW
        have q1 : W.cell? ⟨g, 1, none⟩ = some (.slice (some ⟨b2, 0, none⟩) D.n c2) := (hDW.blk.cell 1).trans rfl
        have q2 : W.cell? ⟨wr.heap.size, 0, none⟩ = some (.int .i64 pi) := (hblk.cell 0).trans rfl
        have hnk : (0 : Int) ≤ (pi : Int) ∧ (pi : Int) < (D.n : Int) := by omega
        have hin : (pi + 1) * 64 ≤ D.n * 64 := Nat.mul_le_mul_right _ hpi
        have HDW := hide hDW
        have hcp : (Builtin.copy_ #[50, 50] 3 #[.slice (some ⟨b2, pi * 64, none⟩) 64 64, .slice (some ⟨wr.heap.size, 1, none⟩) kp 64]).run Try.prog W = .ok (goInt kp) (W.setCells b2 (pi * 64) (bv (pb.take kp))) := by
          refine copy_run 50 50 3 5 b2 (pi * 64) 64 64 (some ⟨wr.heap.size, 1, none⟩) kp 64 (bv (pb.take kp)) (fun _ => True) Try.underlying50 size_byte ?_ hkl ?_ (bv_one _)
          · refine ⟨by simp [hpb]; omega, fun _ => ⟨_, rfl, trivial, hblk.lt, fun j u hu => ?_⟩⟩
            rw [show (⟨wr.heap.size, 1, none⟩ : Addr).add j = ⟨wr.heap.size, 1 + j, none⟩ by unfold Addr.add; split <;> simp_all, hblk.cell]
            rw [show 1 + j = j + 1 by omega]
            simp only [wv, List.getElem?_toArray, List.getElem?_cons_succ]
            rw [show bv (pb.take kp) = (bv pb).take kp by simp [bv, List.map_take], List.getElem?_take] at hu
            split at hu
            · exact hu
            · cases hu
          · exact fun j hj => own_there hDW.sure (pi * 64) 64 (by show pi * 64 + 64 ≤ D.n * 64; omega) j (by omega)
        have hown := own_setCells (vs := bv (pb.take kp)) hDW.sure (pi * 64) (by show pi * 64 + (bv (pb.take kp)).length ≤ D.n * 64; simp; omega)
        have hfr : Fr (· = b2) W (W.setCells b2 (pi * 64) (bv (pb.take kp))) := fr_setCells b2 _ _ _ (Fr.refl _ _) (fun _ => rfl)
        clear hDW hblk
        have hkz : (kp : Int) ≤ 64 := by omega
        have hkz2 : kp ≤ 64 := hkl
        generalize W.setCells b2 (pi * 64) (bv (pb.take kp)) = W2 at hcp hown hfr
        simp only [List.take_succ_cons, List.take_zero, List.drop_succ_cons, List.drop_zero]
        repeat still_step
        try refine wpStill_nil ?_
        (with_reducible apply at_copy (tx := 50))
        focus rfl
        focus rfl
        focus rfl
        focus rfl
        focus exact hcp
        simp only [Act.put]
        clear hcp q1 q2
        go_wp2_with fail
        go_roundg (D.pend.length - (k + 1))
        case measure => have := HG.out; omega
        case rel =>
          have hDW := HDW.out
          refine ⟨k + 1, rfl, by omega, rfl, ?_, ?_⟩
          · exact (HFR.out.step hFW (fun _ x _ => x.elim)).step hfr (by rintro i rfl _; exact hDW.f2)
          · refine ⟨?_, ?_, ?_, ?_, hDW.ne, hDW.fg, hDW.f1, hDW.f2, hDW.f3, fun b hb => Nat.lt_of_lt_of_le (hDW.lt b hb) hfr.size⟩
            · exact hDW.blk.fr hfr hDW.ne2
            · exact own_fr1 hDW.seen hfr hDW.ne
            · rw [HT.out, bv_splice]; exact hown
            · exact own_fr hDW.pend hfr (fun b hb => (hDW.ne3 b hb).2.2)
    · obtain rfl : k = D.pend.length := by omega
      have HFR := hide hF
      rw [List.take_length] at hD
      have HTL := hide (tear_length picks D.pend D.sure 0 D.n HO.out.hu HO.out.hp)
      generalize hTT : tear picks D.sure 0 D.pend = T at *
      have HTT := hide hTT
      clear hTT
      have HD := hide hD
      have q2 : wr.cell? ⟨g, 2, none⟩ = some (.slice A3 D.pend.length c3) := (hD.blk.cell 2).trans rfl
      have q3 : wr.cell? ⟨g, 3, none⟩ = some (.int .i64 D.fuse) := (hD.blk.cell 3).trans rfl
      have q4 : wr.cell? ⟨g, 4, none⟩ = some (.bool D.down) := (hD.blk.cell 4).trans rfl
      have q1 : wr.cell? ⟨g, 1, none⟩ = some (.slice (some ⟨b2, 0, none⟩) D.n c2) := (hD.blk.cell 1).trans rfl
      have j0 := hD.blk.frozen 0
      have j2 := hD.blk.frozen 2
      have j3 := hD.blk.frozen 3
      have j4 := hD.blk.frozen 4
      clear hD hgk hk hF
      go_wp2_with fail
      have hfr : Fr (· = g) wr (((wr.setCell ⟨g, 2, none⟩ (.slice none 0 0)).setCell ⟨g, 3, none⟩ (.int .i64 (-1))).setCell ⟨g, 4, none⟩ (.bool false)) :=
        Fr.setCell (S := (· = g)) (p := ⟨g, 4, none⟩) (Fr.setCell (S := (· = g)) (p := ⟨g, 3, none⟩) (Fr.setCell (S := (· = g)) (p := ⟨g, 2, none⟩) (Fr.refl _ _) (fun _ => rfl) _) (fun _ => rfl) _) (fun _ => rfl) _
      have hblk := ((HD.out.blk.set_ 2 (.slice none 0 0)).set_ 3 (.int .i64 (-1))).set_ 4 (.bool false)
      generalize ((wr.setCell ⟨g, 2, none⟩ (.slice none 0 0)).setCell ⟨g, 3, none⟩ (.int .i64 (-1))).setCell ⟨g, 4, none⟩ (.bool false) = W3 at hfr hblk
      have hD := HD.out
      have hseen3 := own_fr1 hD.seen hfr (fun e => hD.ne1 e.symm)
      have hsure3 := own_fr1 hD.sure hfr (fun e => hD.ne2 e.symm)
      have hlt3 : ∀ b, F b → b < W3.heap.size := fun b hb => Nat.lt_of_lt_of_le (hD.lt b hb) hfr.size
      have n1 := HO.out.n1
      have n2 := HO.out.n2
      have HD2 := hide hD
      clear hD q1 q2 q3 q4 j0 j2 j3 j4
      refine (clone_sector ⟨b2, 0, none⟩ D.n c2 (bv T) W3 (by simpa using HTL.out) (hsure3.cells (g := b2) rfl) (bv_one _) (by omega)).mono ?_
      rintro e w5 ⟨v, g5, rfl, hown5, hob, hge, hlt5, hF5⟩
      obtain ⟨A5, c5, rfl⟩ : ∃ A5 c5, v = .slice A5 D.n c5 := by
        rcases hown5.2 with ⟨rfl, h0⟩ | ⟨b5, cap5, cur5, rfl, _⟩
        · omega
        · exact ⟨_, _, rfl⟩
      obtain ⟨g5', rfl⟩ := own_form hown5 (by omega)
      obtain rfl : g5' = g5 := by simpa [Value.ownBlock] using hob
      have hblk5 := hblk.fr hF5 (fun x => x)
      have q0 : w5.cell? ⟨g, 0, none⟩ = some (.slice (some ⟨b1, 0, none⟩) D.n c1) := (hblk5.cell 0).trans rfl
      have j0 := hblk5.frozen 0
      have HB5 := hide hblk5
      clear hblk5
      go_wp2_with fail
      go_end0
      have hTT := HTT.out
      subst hTT
      have hblk5 := HB5.out
      have hD := HD2.out
      have hf6 : Fr (· = g) w5 (w5.setCell ⟨g, 0, none⟩ (.slice (some ⟨g5', 0, none⟩) D.n c5)) := Fr.setCell (S := (· = g)) (p := ⟨g, 0, none⟩) (Fr.refl _ _) (fun _ => rfl) _
      have hs6 : (w5.setCell ⟨g, 0, none⟩ (.slice (some ⟨g5', 0, none⟩) D.n c5)).heap.size = w5.heap.size := by simp [World.setCell]
      have hsw := HFR.out.size
      have hsr := hfr.size
      have h5 := hF5.size
      have hgl := hlt3 _ hD.fg
      have hb2 := hlt3 _ hD.f2
      refine ⟨rfl, (((HFR.out.step hfr (by rintro i rfl _; exact hD.fg)).step hF5 (fun _ x _ => x.elim)).setCell (fun _ => hD.fg) _), g5', c5, b2, c2, none, 0, ?_⟩
      refine ⟨hblk5.set_ 0 _, own_fr1 hown5 hf6 (by omega), own_fr1 (own_fr1 hsure3 hF5 (fun x => x)) hf6 (fun e => hD.ne2 e.symm), World.ownsRow_nil _ _ _ _, by omega, .inl hD.fg, .inr ⟨by omega, by omega⟩, .inl hD.f2, fun b e => by simp [Value.ownBlock] at e, ?_⟩
      rintro b (h | h)
      · have := hlt3 b h; omega
      · exact h.2

end Go.Proofs.Ythddgnnbgldfmaa
