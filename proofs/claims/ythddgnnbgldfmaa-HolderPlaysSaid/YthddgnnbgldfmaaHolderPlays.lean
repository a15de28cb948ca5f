/- HolderPlays, the walk: whatever a client hears, the law's function answers true. -/
import Derived.Test.YthddgnnbgldfmaaHolderEarly
import Derived.Test.YthddgnnbgldfmaaRef26
import Derived.Test.YthddgnnbgldfmaaRegions26
import Derived.Test.YthddgnnbgldfmaaEqNum
import Derived.Deep.LoopGhost
import Derived.Deep.DeepCutAuto
namespace Go.Proofs.Ythddgnnbgldfmaa
open Go.RowKit

/-- what is done to a holder -/
structure Op26 where
  d : Int
  r : Int
  m : Int
  n : Int
  u : Int
def Op26.fits (o : Op26) : Prop := 0 ≤ o.n ∧ o.u ≤ 18446744073709551615

/-- the cell that lies so many cells behind an address -/
abbrev past (a : Addr) (j : Nat) : Addr := ⟨a.block, a.off + j, none⟩

/-- the list of what is done, as it lies in memory -/
def Ops26 (w : World) (A : Option Addr) (n : Nat) (ops : Nat → Op26) : Prop :=
  ∀ i, i < n → ∃ ad, A = some ad ∧ (ad.add (i * 5)).block < w.heap.size ∧ (ops i).fits ∧ w.cell? (ad.add (i * 5)) = some (.int .i64 (ops i).d) ∧ w.cell? (past (ad.add (i * 5)) 1) = some (.int .i64 (ops i).r) ∧
    w.cell? (past (ad.add (i * 5)) 2) = some (.int .i64 (ops i).m) ∧ w.cell? (past (ad.add (i * 5)) 3) = some (.int .u64 (ops i).n) ∧ w.cell? (past (ad.add (i * 5)) 4) = some (.int .u64 (ops i).u)
theorem Ops26.non {w w' : World} {A : Option Addr} {n : Nat} {ops : Nat → Op26} (h : Ops26 w A n ops) (hf : Fr Non w w') : Ops26 w' A n ops := by
  intro i hi
  obtain ⟨ad, e, hb, hF, h0, h1, h2, h3, h4⟩ := h i hi
  have k : ∀ p : Addr, p.block = (ad.add (i * 5)).block → w'.cell? p = w.cell? p := fun p hp => hf.cell (p := p) (by rw [hp]; exact hb) (fun x => x)
  exact ⟨ad, e, Nat.lt_of_lt_of_le hb hf.size, hF, (k (ad.add (i * 5)) rfl).trans h0, (k (past (ad.add (i * 5)) 1) rfl).trans h1, (k (past (ad.add (i * 5)) 2) rfl).trans h2, (k (past (ad.add (i * 5)) 3) rfl).trans h3, (k (past (ad.add (i * 5)) 4) rfl).trans h4⟩

set_option maxRecDepth 100000 in
set_option maxHeartbeats 2000000 in
theorem plays_any (A : Option Addr) (n c : Nat) (ops : Nat → Op26) (k : Int) (w : World) (hk : 0 ≤ k) (hk' : k ≤ 18446744073709551615) (hn : n ≤ 9223372036854775807) (ho : Ops26 w A n ops) :
    Calls Try.prog 4 #[.slice A n c, .int .u64 k] w fun e w' => e = .returned (.bool true) ∧ Fr Non w w' := by
  have HO := hide ho
  clear ho
  go_enter Try.func4, Try.ntmps4
  go_wp2_with fail
  refine (awake26 _).mono ?_
  rintro e w1 ⟨rfl, f1⟩
  by_cases h60 : 60 < n
  · go_wp2_with fail
    go_ret
    exact ⟨rfl, (f1.alloc _).alloc _⟩
  go_wp2_with fail
  have b0 : HolderAt ((w1.alloc (.cells (hcells hs0) 30)).alloc (.cells (rcells hs0) 40)) w1.heap.size hs0 := (Blk.new _ _ _).alloc _
  have r0 : RefAt ((w1.alloc (.cells (hcells hs0) 30)).alloc (.cells (rcells hs0) 40)) (w1.heap.size + 1) hs0 := by
    have := Blk.new (w1.alloc (.cells (hcells hs0) 30)) 40 (rcells hs0)
    simpa [RefAt] using this
  have F0 : Fr Non w ((w1.alloc (.cells (hcells hs0) 30)).alloc (.cells (rcells hs0) 40)) := (f1.alloc _).alloc _
  have hg : w.heap.size ≤ w1.heap.size := f1.size
  clear f1
  have hz0 := hs0_ok
  have hz1 : hs0.fits := fun r _ => by show (0 : Int) ≤ _; omega
  obtain ⟨g, hgd⟩ : ∃ g, g = w1.heap.size := ⟨_, rfl⟩
  rw [← hgd] at b0 r0 hg ⊢
  have HGD := hide hgd
  clear hgd
  go_loopg [8] n (fun gh i wr => ∃ (j : Nat) (s : HS), gh = n - j ∧ j ≤ n ∧ i = .int .i64 j ∧ s.ok ∧ s.fits ∧ HolderAt wr g s ∧ RefAt wr (g + 1) s ∧ Fr Non w wr)
  case atStart => exact ⟨0, hs0, by omega, Nat.zero_le _, rfl, hz0, hz1, b0, r0, F0⟩
  case round =>
    clear b0 r0 F0 hz0 hz1
    obtain ⟨j, s, hgk, hj, rfl, hok, hfit, hH, hR, hF⟩ := hrel
    by_cases hjn : j < n
    · obtain ⟨ad, rfl, hadb, ⟨hn0, hu0⟩, c0, c1, c2, c3, c4⟩ := HO.out.non hF j hjn
      generalize ops j = o at *
      obtain ⟨od, orr, om, on, ou⟩ := o
      simp only at hn0 hu0 c0 c1 c2 c3 c4
      have HG := hide hgk
      clear hgk
      go_upto_if 40 with fail
      have hgs := hH.lt
      go_cut [9] (fun _ wx => ∃ s3 : HS, s3.ok ∧ s3.fits ∧ HolderAt wx g s3 ∧ RefAt wx (g + 1) s3 ∧ Fr Non w wx)
      case first =>
        by_cases hd : od = 1
        · subst hd
          go_wp2_with fail
          refine (took_spec g orr om on ou s _ hn0 (hH.alloc _)).mono ?_
          rintro e w2 ⟨rfl, F2, H2⟩
          have R2 : RefAt w2 (g + 1) s := Blk.fr (Blk.alloc hR _) F2 (by omega)
          have FF2 : Fr Non w w2 := (hF.alloc _).step F2 (by rintro i rfl h; omega)
          have q2 : ∀ a, w2.cell? ⟨wr.heap.size, a, none⟩ = (wr.alloc (.cells #[.int .i64 1, .int .i64 orr, .int .i64 om, .int .u64 on, .int .u64 ou] 42)).cell? ⟨wr.heap.size, a, none⟩ :=
            fun a => F2.cell (p := ⟨wr.heap.size, a, none⟩) (by simp) (by intro h; simp at h; omega)
          clear F2
          have G : (tookE s orr om on != tookE s orr om on) = false := by simp
          have K2 := hide (rtook_spec (g + 1) orr om on ou s)
          generalize tookE s orr om on = E at *
          go_wp2_with fail
          refine (K2.out _ hn0 R2).mono ?_
          rintro e w3 ⟨rfl, F3, R3⟩
          have H3 := Blk.fr H2 F3 (by omega)
          have FF3 : Fr Non w w3 := FF2.step F3 (by rintro i rfl h; omega)
          clear F3 K2 R2 FF2 H2
          have ok3 := hok.took orr om on ou hn0
          have fit3 := hfit.took orr om on ou hu0
          go_wp2_with fail
          go_meet
          exact ⟨_, ok3, fit3, H3, R3, FF3⟩
        · have hdf := isF hd
          go_wp2_with fail
          refine (gone_spec g orr s _ (hH.alloc _)).mono ?_
          rintro e w2 ⟨rfl, F2, H2⟩
          have R2 : RefAt w2 (g + 1) s := Blk.fr (Blk.alloc hR _) F2 (by omega)
          have FF2 : Fr Non w w2 := (hF.alloc _).step F2 (by rintro i rfl h; omega)
          have q2 : ∀ a, w2.cell? ⟨wr.heap.size, a, none⟩ = (wr.alloc (.cells #[.int .i64 od, .int .i64 orr, .int .i64 om, .int .u64 on, .int .u64 ou] 42)).cell? ⟨wr.heap.size, a, none⟩ :=
            fun a => F2.cell (p := ⟨wr.heap.size, a, none⟩) (by simp) (by intro h; simp at h; omega)
          clear F2
          go_wp2_with fail
          refine (rgone_spec (g + 1) orr s _ R2).mono ?_
          rintro e w3 ⟨rfl, F3, R3⟩
          have H3 := Blk.fr H2 F3 (by omega)
          have FF3 : Fr Non w w3 := FF2.step F3 (by rintro i rfl h; omega)
          clear F3 R2 FF2 H2
          have ok3 := hok.gone orr
          have fit3 := hfit.gone orr
          go_wp2_with fail
          go_meet
          exact ⟨_, ok3, fit3, H3, R3, FF3⟩
      case rest =>
        obtain ⟨s3, ok3, fit3, H3, R3, FF3⟩ := hcut
        clear hH hR hF c0 c1 c2 c3 c4 hadb hok hfit hn0 hu0 hgs
        obtain ⟨w3, hw3⟩ : ∃ w3 : World, w3 = wc := ⟨_, rfl⟩
        subst hw3
        have hg3 := R3.lt
        go_wp2_with fail
        go_loopg [11, 12] 6 (fun gh v i ws => ∃ κ : Int, gh = (5 - κ).toNat ∧ -1 ≤ κ ∧ κ ≤ 5 ∧ i = .int .i64 κ ∧ ws.ownsRow (g + 2) 3 1 v (s3.heldTo (min κ.toNat 4)).length ((s3.heldTo (min κ.toNat 4)).map (Value.int .i64)) ∧ HolderAt ws g s3 ∧ RefAt ws (g + 1) s3 ∧ Fr Non w ws)
        case atStart => exact ⟨-1, by omega, by omega, by omega, rfl, World.ownsRow_nil _ _ _ _, H3, R3, FF3⟩
        case round =>
          clear H3 R3 FF3
          obtain ⟨κ, hgk2, hκ, hκ', rfl, hown, hH, hR, hF⟩ := hrel
          have HG2 := hide hgk2
          clear hgk2
          by_cases h5 : κ = 5
          · subst h5
            have HW := hide hown
            have HF := hide hF
            clear hown hF
            go_wp2_with fail
            refine (regions_spec g s3 _ ok3 hH).mono ?_
            rintro e w4 ⟨v4, rfl, hN4, F4⟩
            have hN5 := Nums.of_own (own_non HW.out F4) (by have := s3.heldTo_length (min (5 : Int).toNat 4); simp at this ⊢; omega)
            have H4 : HolderAt w4 g s3 := Blk.fr hH F4 (fun x => x)
            have R4 : RefAt w4 (g + 1) s3 := Blk.fr hR F4 (fun x => x)
            go_wp2_with fail
            refine (numbers_any _ _ _ _ _ _ _ hN4 hN5).mono ?_
            rintro e w5 ⟨rfl, F5⟩
            rw [show (decide (s3.heldTo 4 = s3.heldTo (min (5 : Int).toNat 4))) = true from by simp]
            have H5 : HolderAt w5 g s3 := Blk.fr H4 F5 (fun x => x)
            have R5 : RefAt w5 (g + 1) s3 := Blk.fr R4 F5 (fun x => x)
            have FF5 : Fr Non w w5 := (HF.out.step F4 (fun _ h _ => h)).step F5 (fun _ h _ => h)
            clear hN4 hN5 H4 R4 F4 F5
            go_wp2_with fail
            go_roundg (n - (j + 1))
            case measure => have := HG.out; omega
            case rel => exact ⟨j + 1, s3, rfl, by omega, by go_num, ok3, fit3, H5, R5, FF5⟩
          · have HW := hide hown
            have HF := hide hF
            clear hown hF
            go_wp2_with fail
            refine (token_spec g κ s3 _ hH).mono ?_
            rintro e w4 ⟨rfl, F4⟩
            have H4 : HolderAt w4 g s3 := Blk.fr hH F4 (fun x => x)
            have R4 : RefAt w4 (g + 1) s3 := Blk.fr hR F4 (fun x => x)
            go_wp2_with fail
            refine (renews_spec g κ k s3 _ hk hk' ok3 H4).mono ?_
            rintro e w5 ⟨rfl, F5⟩
            have H5 : HolderAt w5 g s3 := Blk.fr H4 F5 (fun x => x)
            have R5 : RefAt w5 (g + 1) s3 := Blk.fr R4 F5 (fun x => x)
            have FF5 : Fr Non w w5 := (HF.out.step F4 (fun _ h _ => h)).step F5 (fun _ h _ => h)
            have HW5 := hide (own_non (own_non HW.out F4) F5)
            clear F4 F5 H4 R4 HW HF hH hR
            have KR := hide (rrenews_spec (g + 1) κ k s3)
            generalize hrq : renB (s3.mA κ) (s3.uA κ) k = rq at *
            clear hrq
            go_upto_region 23 with fail
            go_cut [87] (fun t wx => t = .bool (decide (0 ≤ κ ∧ κ ≤ 3)) ∧ wx = w5)
            case first =>
              by_cases h0 : 0 ≤ κ <;> by_cases h3 : κ ≤ 3
              all_goals
                go_wp2_with fail
                go_meet
                exact ⟨by simp [h0, h3], rfl⟩
            case rest =>
             obtain ⟨rfl, rfl⟩ := hcut
             go_upto_if 87 with fail
             go_cut [15] (fun t wx => t = .int .u64 (s3.tA κ) ∧ wx = wc)
             case first =>
              by_cases hin : 0 ≤ κ ∧ κ ≤ 3
              · rw [decide_eq_true hin]
                obtain ⟨r, rfl⟩ := Int.eq_ofNat_of_zero_le hin.1
                have hr4 : r < 4 := by omega
                have hc := (Blk.cell R5 (4 + r)).trans (rcells_t s3 hr4)
                have hT : s3.tA (r : Int) = s3.t r := by simp [HS.tA]; omega
                have HT := hide hT
                clear hT
                go_wp2_with fail
                go_meet
                exact ⟨by rw [HT.out], rfl⟩
              · have hT : s3.tA κ = 0 := by simp [HS.tA]; omega
                rw [decide_eq_false hin]
                have HT := hide hT
                clear hT hin
                go_wp2_with fail
                go_meet
                exact ⟨by rw [HT.out], rfl⟩
             case rest =>
              obtain ⟨rfl, hwc⟩ := hcut
              subst hwc
              have hokA := ok3.at_ κ
              go_upto_if 95 with fail
              have hsz5 := R5.lt
              have hlen := s3.heldTo_length (min κ.toNat 4)
              go_cut [11] (fun v wx => wx.ownsRow (g + 2) 3 1 v (s3.heldTo (min (κ + 1).toNat 4)).length ((s3.heldTo (min (κ + 1).toNat 4)).map (Value.int .i64)) ∧ HolderAt wx g s3 ∧ RefAt wx (g + 1) s3 ∧ Fr Non w wx)
              case first =>
                by_cases hm : s3.mA κ = 0
                · have hT : s3.tA κ ≤ 0 := by unfold okHold at hokA; omega
                  have hE : s3.heldTo (min (κ + 1).toNat 4) = s3.heldTo (min κ.toNat 4) := by
                    by_cases hin : 0 ≤ κ ∧ κ ≤ 3
                    · obtain ⟨r, rfl⟩ := Int.eq_ofNat_of_zero_le hin.1
                      have h4 : r < 4 := by omega
                      rw [show min ((r : Int) + 1).toNat 4 = r + 1 by omega, show min (r : Int).toNat 4 = r by omega]
                      exact HS.heldTo_zero (by have h4' : (r : Int) < 4 := by omega
                                               simpa [HS.mA, h4'] using hm)
                    · rw [show min (κ + 1).toNat 4 = min κ.toNat 4 by omega]
                  have HE := hide hE
                  clear hE hm hokA
                  go_wp2_with fail
                  go_meet
                  exact ⟨by rw [HE.out]; exact HW5.out, H5, R5, FF5⟩
                · have hin : 0 ≤ κ ∧ κ ≤ 3 := by
                    by_cases hin : 0 ≤ κ ∧ κ < 4
                    · omega
                    · exact absurd (by simp [HS.mA, hin]) hm
                  obtain ⟨r, rfl⟩ := Int.eq_ofNat_of_zero_le hin.1
                  have h4 : r < 4 := by omega
                  have hE : s3.heldTo (min ((r : Int) + 1).toNat 4) = s3.heldTo (min (r : Int).toNat 4) ++ [(r : Int)] := by
                    rw [show min ((r : Int) + 1).toNat 4 = r + 1 by omega, show min (r : Int).toNat 4 = r by omega]
                    exact HS.heldTo_pos (by have h4' : (r : Int) < 4 := by omega
                                            simpa [HS.mA, h4'] using hm)
                  have HE := hide hE
                  have hT : 0 < s3.tA (r : Int) := by unfold okHold at hokA; omega
                  clear hE hm hokA
                  go_wp2_with (at_builtin; refine append1 rfl _ _ 44 rfl (g + 2) 3 (.int .i64 0) 8 Try.underlying44 info_int rfl _ _ _ rfl (HW5.out.alloc _) wc.heap.size (.int .i64 r) rfl (cell_new _ _ _ rfl) rfl (by omega) (by omega) (by simp; omega) ?_; intro v1 w6 hown6 hf6)
                  go_meet
                  exact ⟨own_congr hown6 (by rw [HE.out]; simp) (by rw [HE.out]; simp), Blk.fr (H5.alloc _) hf6 (by omega), Blk.fr (Blk.alloc R5 _) hf6 (by omega), (FF5.alloc _).step hf6 (fun i h1 h2 => by omega)⟩
              case rest =>
                obtain ⟨hown6, H6, R6, FF6⟩ := hcut
                have HW6 := hide hown6
                clear hown6 H5 R5 FF5 HW5 hokA
                obtain ⟨w6, hw6⟩ : ∃ w6 : World, w6 = wc := ⟨_, rfl⟩
                subst hw6
                have G : (s3.tA κ != s3.tA κ) = false := by simp
                go_wp2_with fail
                refine (KR.out _ hk fit3 R6).mono ?_
                rintro e w7 ⟨rfl, rfl⟩
                clear KR
                go_wp2_with fail
                go_loopg [16] 4 (fun gh i wt => ∃ μ : Int, gh = (4 - μ).toNat ∧ 0 ≤ μ ∧ μ ≤ 4 ∧ i = .int .i64 μ ∧ HolderAt wt g s3 ∧ RefAt wt (g + 1) s3 ∧ Fr Non w wt ∧ Fr Non w6 wt)
                case atStart => exact ⟨0, by omega, by omega, by omega, rfl, H6, R6, FF6, Fr.refl _ _⟩
                case round =>
                  clear H6 R6 FF6
                  obtain ⟨μ, hgk3, hμ, hμ', rfl, H8, R8, FF8, F8⟩ := hrel
                  have HG3 := hide hgk3
                  clear hgk3
                  by_cases h4 : μ = 4
                  · have HW8 := hide (own_non HW6.out F8)
                    clear HW6 F8
                    subst h4
                    go_wp2_with fail
                    go_roundg (5 - (κ + 1)).toNat
                    case measure => have := HG2.out; omega
                    case rel => exact ⟨κ + 1, rfl, by omega, by omega, by go_num, HW8.out, H8, R8, FF8⟩
                  · go_wp2_with fail
                    refine (believes_spec g κ μ k s3 _ hk hk' ok3 H8).mono ?_
                    rintro e w9 ⟨rfl, F9⟩
                    have H9 : HolderAt w9 g s3 := Blk.fr H8 F9 (fun x => x)
                    have R9 : RefAt w9 (g + 1) s3 := Blk.fr R8 F9 (fun x => x)
                    have FF9 : Fr Non w w9 := FF8.step F9 (fun _ h _ => h)
                    have F69 : Fr Non w6 w9 := F8.step F9 (fun _ h _ => h)
                    clear F9 F8 FF8 H8 R8
                    have KB := hide (rbelieves_spec (g + 1) κ μ k s3 w9 hk ok3 fit3 R9)
                    generalize belB (s3.mA κ) (s3.uA κ) μ k = b at *
                    go_wp2_with fail
                    refine KB.out.mono ?_
                    rintro e w10 ⟨rfl, rfl⟩
                    clear KB
                    go_wp2_with fail
                    go_roundg (4 - (μ + 1)).toNat
                    case measure => have := HG3.out; omega
                    case rel => exact ⟨μ + 1, rfl, by omega, by omega, by go_num, H9, R9, FF9, F69⟩
    · go_wp2_with fail
      go_ret
      exact ⟨rfl, hF⟩

end Go.Proofs.Ythddgnnbgldfmaa
