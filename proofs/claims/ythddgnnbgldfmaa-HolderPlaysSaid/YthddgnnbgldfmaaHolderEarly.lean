/- HolderEarly, the walk: the law's function answers true, whatever it is called with. -/
import Derived.Test.YthddgnnbgldfmaaHolderS
namespace Go.Proofs.Ythddgnnbgldfmaa
open Go.RowKit

set_option maxHeartbeats 1000000 in
theorem awake26 (w : World) : Calls Try.prog 11 #[] w fun e w' => e = .returned (.bool true) ∧ Fr Non w w' := by
  have hz := hs0_ok
  go_enter Try.func11, Try.ntmps11
  go_wp2_with fail
  have b0 : HolderAt (w.alloc (.cells (hcells hs0) 30)) w.heap.size hs0 := Blk.new _ _ _
  refine (took_spec w.heap.size 1 2 5 20 hs0 _ (by omega) b0).mono ?_
  rintro e w1 ⟨rfl, f1, b1⟩
  rw [show tookE hs0 1 2 5 = 0 from by decide]
  have z1 := hz.took 1 2 5 20 (by omega)
  go_wp2_with fail
  refine (believes_spec w.heap.size 1 1 16 _ _ (by omega) (by omega) z1 b1).mono ?_
  rintro e w2 ⟨rfl, f2⟩
  rw [show belB ((hs0.tookS 1 2 5 20).mA 1) ((hs0.tookS 1 2 5 20).uA 1) 1 16 = true from by decide]
  have b2 := b1.fr f2 (fun h => h)
  go_wp2_with fail
  refine (believes_spec w.heap.size 1 2 17 _ _ (by omega) (by omega) z1 b2).mono ?_
  rintro e w3 ⟨rfl, f3⟩
  rw [show belB ((hs0.tookS 1 2 5 20).mA 1) ((hs0.tookS 1 2 5 20).uA 1) 2 17 = false from by decide]
  have b3 := b2.fr f3 (fun h => h)
  go_wp2_with fail
  refine (renews_spec w.heap.size 1 13 _ _ (by omega) (by omega) z1 b3).mono ?_
  rintro e w4 ⟨rfl, f4⟩
  rw [show renB ((hs0.tookS 1 2 5 20).mA 1) ((hs0.tookS 1 2 5 20).uA 1) 13 = false from by decide]
  have b4 := b3.fr f4 (fun h => h)
  go_wp2_with fail
  refine (renews_spec w.heap.size 1 14 _ _ (by omega) (by omega) z1 b4).mono ?_
  rintro e w5 ⟨rfl, f5⟩
  rw [show renB ((hs0.tookS 1 2 5 20).mA 1) ((hs0.tookS 1 2 5 20).uA 1) 14 = true from by decide]
  have b5 := b4.fr f5 (fun h => h)
  go_wp2_with fail
  refine (gone_spec w.heap.size 1 _ _ b5).mono ?_
  rintro e w6 ⟨rfl, f6, b6⟩
  go_wp2_with fail
  refine (took_spec w.heap.size 1 2 4 30 _ _ (by omega) b6).mono ?_
  rintro e w7 ⟨rfl, f7, b7⟩
  rw [show tookE ((hs0.tookS 1 2 5 20).goneS 1) 1 2 4 = 92 from by decide]
  go_wp2_with fail
  go_ret
  refine ⟨rfl, ?_⟩
  have F0 : Fr Non w (w.alloc (.cells (hcells hs0) 30)) := (Fr.refl _ _).alloc _
  refine ((((((F0.step f1 ?_).step f2 ?_).step f3 ?_).step f4 ?_).step f5 ?_).step f6 ?_).step f7 ?_
  all_goals first | (rintro i rfl h; omega) | (rintro i h _; exact h)

theorem bef_mono {c m m' c' u : Int} (h : c' + m' ≤ c + m) (h1 : befB c m u = true) : befB c' m' u = true := by
  unfold befB at *; simp at *; omega

set_option maxHeartbeats 1000000 in
theorem early_any (mode t u c d : Int) (w : World) (ht : 0 ≤ t) (hc : 0 ≤ c) (hc' : c ≤ 18446744073709551615) (hd : 0 ≤ d) (hd' : d ≤ 18446744073709551615) :
    Calls Try.prog 3 #[.int .i64 mode, .int .u64 t, .int .u64 u, .int .u64 c, .int .u64 d] w fun e w' => e = .returned (.bool true) ∧ Fr Non w w' := by
  have hz := hs0_ok
  have z1 := hz.took 2 mode t u ht
  by_cases hm : mode ≠ 1 ∧ mode ≠ 2
  · have hE : tookE hs0 2 mode t = 91 := by simp [tookE, hm]
    have m1 := isN hm.1
    have m2 := isN hm.2
    have HE := hide hE
    clear hm hE
    go_enter Try.func3, Try.ntmps3
    go_wp2_with fail
    refine (awake26 _).mono ?_
    rintro e w1 ⟨rfl, f1⟩
    go_wp2_with fail
    have b0 : HolderAt (w1.alloc (.cells (hcells hs0) 30)) w1.heap.size hs0 := Blk.new _ _ _
    refine (took_spec w1.heap.size 2 mode t u hs0 _ ht b0).mono ?_
    rintro e w2 ⟨rfl, f2, b2⟩
    rw [HE.out]
    go_wp2_with fail
    all_goals go_ret
    all_goals exact ⟨rfl, (f1.alloc _).step f2 (by rintro i rfl h; have := f1.size; omega)⟩
  have hm' : mode = 1 ∨ mode = 2 := by omega
  by_cases ht0 : t = 0
  · have hE : tookE hs0 2 mode t = 92 := by simp [tookE, hm, ht0]
    have HE := hide hE
    subst ht0
    clear hm hE hm'
    go_enter Try.func3, Try.ntmps3
    go_wp2_with fail
    refine (awake26 _).mono ?_
    rintro e w1 ⟨rfl, f1⟩
    go_wp2_with fail
    have b0 : HolderAt (w1.alloc (.cells (hcells hs0) 30)) w1.heap.size hs0 := Blk.new _ _ _
    refine (took_spec w1.heap.size 2 mode 0 u hs0 _ ht b0).mono ?_
    rintro e w2 ⟨rfl, f2, b2⟩
    rw [HE.out]
    go_wp2_with fail
    all_goals go_ret
    all_goals exact ⟨rfl, (f1.alloc _).step f2 (by rintro i rfl h; have := f1.size; omega)⟩
  · have hE : tookE hs0 2 mode t = 0 := by
      have : ¬ (t < 0) := by omega
      simp [tookE, ht0, hs0, this]
      omega
    have hM : ((hs0.tookS 2 mode t u).mA 2) = mode := by simp [HS.tookS, hE, HS.mA, HS.took, setAt]
    have hU : ((hs0.tookS 2 mode t u).uA 2) = u := by simp [HS.tookS, hE, HS.uA, HS.took, setAt]
    have HE := hide hE
    have HM := hide hM
    have HU := hide hU
    have H0 := hide ht0
    clear hm hE hM hU ht0
    by_cases hl : d < c
    · clear hm'
      go_enter Try.func3, Try.ntmps3
      go_wp2_with fail
      refine (awake26 _).mono ?_
      rintro e w1 ⟨rfl, f1⟩
      go_wp2_with fail
      have b0 : HolderAt (w1.alloc (.cells (hcells hs0) 30)) w1.heap.size hs0 := Blk.new _ _ _
      refine (took_spec w1.heap.size 2 mode t u hs0 _ ht b0).mono ?_
      rintro e w2 ⟨rfl, f2, b2⟩
      rw [HE.out]
      go_wp2_with fail
      all_goals go_ret
      all_goals exact ⟨rfl, (f1.alloc _).step f2 (by rintro i rfl h; have := f1.size; omega)⟩
    · have hA : belB mode u mode c = befB c 3 u := by unfold belB; rcases hm' with rfl | rfl <;> simp
      have hB : belB mode u mode d = befB d 3 u := by unfold belB; rcases hm' with rfl | rfl <;> simp
      have hC : renB mode u c = !befB c 6 u := by unfold renB; rcases hm' with rfl | rfl <;> simp
      have hD : renB mode u d = !befB d 6 u := by unfold renB; rcases hm' with rfl | rfl <;> simp
      have k1 : befB c 6 u = true → befB c 3 u = true := bef_mono (by omega)
      have k2 : befB d 6 u = true → befB d 3 u = true := bef_mono (by omega)
      have k3 : befB d 3 u = true → befB c 3 u = true := bef_mono (by omega)
      have k4 : befB d 6 u = true → befB c 6 u = true := bef_mono (by omega)
      have HA := hide hA
      have HB := hide hB
      have HC := hide hC
      have HD := hide hD
      have K := hide (And.intro k1 (And.intro k2 (And.intro k3 k4)))
      clear hA hB hC hD k1 k2 k3 k4 hm'
      go_enter Try.func3, Try.ntmps3
      go_wp2_with fail
      refine (awake26 _).mono ?_
      rintro e w1 ⟨rfl, f1⟩
      go_wp2_with fail
      have b0 : HolderAt (w1.alloc (.cells (hcells hs0) 30)) w1.heap.size hs0 := Blk.new _ _ _
      refine (took_spec w1.heap.size 2 mode t u hs0 _ ht b0).mono ?_
      rintro e w2 ⟨rfl, f2, b2⟩
      rw [HE.out]
      go_wp2_with fail
      refine (believes_spec w1.heap.size 2 mode c _ _ hc hc' z1 b2).mono ?_
      rintro e w3 ⟨rfl, f3⟩
      rw [HM.out, HU.out, HA.out]
      have b3 := b2.fr f3 (fun h => h)
      go_wp2_with fail
      refine (believes_spec w1.heap.size 2 mode d _ _ hd hd' z1 b3).mono ?_
      rintro e w4 ⟨rfl, f4⟩
      rw [HM.out, HU.out, HB.out]
      have b4 := b3.fr f4 (fun h => h)
      go_wp2_with fail
      refine (renews_spec w1.heap.size 2 c _ _ hc hc' z1 b4).mono ?_
      rintro e w5 ⟨rfl, f5⟩
      rw [HM.out, HU.out, HC.out]
      have b5 := b4.fr f5 (fun h => h)
      go_wp2_with fail
      refine (renews_spec w1.heap.size 2 d _ _ hd hd' z1 b5).mono ?_
      rintro e w6 ⟨rfl, f6⟩
      rw [HM.out, HU.out, HD.out]
      have hF : Fr Non w w6 := ((((((f1.alloc _).step f2 (by rintro i rfl h; have := f1.size; omega)).step f3 (fun _ h _ => h)).step f4 (fun _ h _ => h)).step f5 (fun _ h _ => h)).step f6 (fun _ h _ => h))
      clear HA HB HC HD HE HM HU b2 b3 b4 b5 f1 f2 f3 f4 f5 f6 z1 hz b0
      generalize befB c 3 u = p at *
      generalize befB d 3 u = q at *
      generalize befB c 6 u = r at *
      generalize befB d 6 u = s at *
      cases p <;> cases q <;> cases r <;> cases s
      all_goals first
        | (exfalso; have := K.out; simp at this; done)
        | (clear K
           go_wp2_with fail
           go_ret
           exact ⟨rfl, hF⟩)
end Go.Proofs.Ythddgnnbgldfmaa
