/- DiskCopy, the walk. -/
import Derived.Test.YthddgnnbgldfmaaDiskTwo
namespace Go.Proofs.Ythddgnnbgldfmaa
open Go.RowKit

set_option maxRecDepth 100000 in
set_option maxHeartbeats 4000000 in
theorem copy_law (A : Option Addr) (n c : Nat) (ops : Nat → Op4) (B : Option Addr) (m bc : Nat) (more : Nat → Op4) (w : World) (hn : n ≤ 9223372036854775807) (hm : m ≤ 9223372036854775807) (ho : Ops4 w (Old w) A n ops) (ho2 : Ops4 w (Old w) B m more) :
    Calls Try.prog 9 #[.slice A n c, .slice B m bc] w fun e w' => e = .returned (.bool true) ∧ Fr Non w w' := by
  have HO := hide (And.intro ho ho2)
  clear ho ho2
  have HM := hide (And.intro (made4_ok ops n) (And.intro (made4_n ops n) (made4_pend ops n)))
  go_enter Try.func9, Try.ntmps9
  go_wp2_with fail
  refine (awake_any _).mono ?_
  rintro e w1 ⟨rfl, f1⟩
  go_wp2_with fail
  obtain ⟨ho, ho2⟩ := HO.out
  have hq : ∀ b, Old w b → b < w.heap.size → Old w1 b := fun b _ h => Nat.lt_of_lt_of_le h f1.size
  refine (made_old A n c ops hn ho f1).mono ?_
  rintro e w2 ⟨g, rfl, hg, hd, f2⟩
  have s1 : Ops4 w2 (Old w1) B m more := ((ho2.mono hq).non f1).non f2
  have F2 := f1.trans f2
  have hz := f1.size
  clear ho ho2 HO f1 f2 hq
  obtain ⟨hok, hn8, hpe⟩ := HM.out
  generalize made4 ops n = D at *
  have hO : ∀ b, b < w.heap.size → Old w1 b := fun b h => Nat.lt_of_lt_of_le h hz
  generalize Old w1 = O at *
  have HI := hide (And.intro hO (And.intro hok (And.intro hn8 hpe)))
  have HS := hide s1
  clear hO hok hn8 hpe hz HM s1
  go_wp2_with fail
  refine (all_has HI.out.2.1 HI.out.2.2.1 hd).mono ?_
  rintro e w3 ⟨va, rfl, ha, hla, f3⟩
  have hd3 := hd.more f3
  have F3 := F2.trans f3
  have ha3 : Nums w3 (Plus O w2 w3) .u8 va D.seen := by
    obtain ⟨A, c, e, hl, hs⟩ := ha
    exact ⟨A, c, e, hl, hs.mono (fun b h1 h2 => .inr ⟨h1, h2⟩)⟩
  have s3 : Ops4 w3 (Plus O w2 w3) B m more := (HS.out.non f3).mono (fun b h _ => .inl h)
  have hO3 : ∀ b, b < w.heap.size → Plus O w2 w3 b := fun b h => .inl (HI.out.1 b h)
  generalize Plus O w2 w3 = O3 at *
  have HO3 := hide hO3
  have HS3 := hide s3
  clear hd F2 ha f3 HS hO3 hla s3
  go_wp2_with fail
  refine (pending_has hd3).mono ?_
  rintro e w4 ⟨rfl, rfl⟩
  go_wp2_with fail
  refine (copy_two HI.out.2.1 (by have := HI.out.2.2.2; omega) hd3).mono ?_
  rintro e w4 ⟨gx, rfl, ht, f4⟩
  have F4 := F3.trans f4
  have ha4 := ha3.non f4
  have HS4 := hide (HS3.out.non f4)
  clear hd3 F3 ha3 HS3 f4
  have ht0 := ht.symm
  clear ht
  go_wp2_with fail
  go_loopg [10] (min m 40) (fun gh i wr => ∃ k : Nat, gh = min m 40 - k ∧ k ≤ m ∧ k ≤ 40 ∧ i = .int .i64 k ∧ Two O3 wr gx (D.run4 more k) g D ∧ Fr (Out O3) w4 wr)
  case atStart => exact ⟨0, rfl, Nat.zero_le _, by omega, rfl, ht0, Fr.refl _ _⟩
  case round =>
    clear ht0
    obtain ⟨k, hgk, hkn, hk40, rfl, hd, hF⟩ := hrel
    have HG := hide hgk
    have HF := hide hF
    clear hgk
    by_cases hk : k < m
    · by_cases hk4 : k < 40
      · obtain ⟨ad, B1, C1, bc1, pc1, h4⟩ := (HS4.out.fr hF (fun b hb _ x => x hb)) k hk
        have hok := HI.out.2.1.run4 more k
        have hpe := DS.run4_pend D more k
        have hpe : (D.run4 more k).pend.length < 1000000 := by have := HI.out.2.2.2; omega
        have HS := hide (show D.run4 more (k + 1) = (D.run4 more k).step4 (more k) from rfl)
        generalize D.run4 more k = Dk at *
        obtain ⟨rfl, hq, hb, c0, c1, c2, c3, sb, sp⟩ := h4
        generalize more k = o at *
        obtain ⟨od, oi, ob, op⟩ := o
        simp only at c0 c1 c2 c3 sb sp
        by_cases h1 : od = 1
        · subst h1
          have h11 : DS.step4 Dk ⟨1, oi, ob, op⟩ = Dk.write oi ob := rfl
          rw [h11] at HS
          have HX := hide (And.intro sb (And.intro hok (And.intro hpe hd)))
          clear sb sp hd hok hpe hb hF h11
          go_wp2_with fail
          refine region_tail 11 (by kernel_rfl) (by kernel_rfl) (fun W hW => ?_)
          have hFW : Fr Non wr W := by rw [hW]; exact (Fr.refl _ _).drew
          have k0 : W.cell? (ad.add (k * 4)) = some (.int .i64 1) := by rw [hW]; exact c0
          have k1 : W.cell? (past4 (ad.add (k * 4)) 1) = some (.int .i64 oi) := by rw [hW]; exact c1
          have k2 : W.cell? (past4 (ad.add (k * 4)) 2) = some (.slice B1 ob.length bc1) := by rw [hW]; exact c2
          clear hW c0 c1 c2 c3
          simp only [List.take_succ_cons, List.take_zero, List.drop_succ_cons, List.drop_zero]
          repeat still_step
          try refine wpStill_nil ?_
          obtain ⟨sb, hok, hpe, hd⟩ := HX.out
          obtain ⟨O', hsub, hh, hstep⟩ := (hd.non hFW).step
          have WH := hide (write_has (O := O') oi B1 ob.length bc1 ob hok rfl hpe ((sb.non hFW).mono (fun b h _ => hsub b h)) hh)
          have HST := hide hstep
          clear sb hok hpe hd hh hsub hstep
          go_wp2_with fail
          refine WH.out.mono ?_
          rintro e w2 ⟨rfl, hf2, hd2⟩
          obtain ⟨hd3, hf3⟩ := HST.out _ _ hf2 hd2
          have HF2 := (HF.out.step hFW (fun _ x _ => x.elim)).trans hf3
          clear hf2 WH HST hd2 hf3
          go_wp2_with fail
          go_roundg (min m 40 - (k + 1))
          case measure => have := HG.out; omega
          case rel => exact ⟨k + 1, rfl, by omega, by omega, rfl, HS.out ▸ hd3, HF2⟩
        · by_cases h2 : od = 2
          · subst h2
            have h11 : DS.step4 Dk ⟨2, oi, ob, op⟩ = Dk.sync := rfl
            rw [h11] at HS
            have HX := hide (And.intro sb (And.intro hok (And.intro hpe hd)))
            clear sb sp hd hok hpe hb hF h11
            go_wp2_with fail
            obtain ⟨sb, hok, hpe, hd⟩ := HX.out
            obtain ⟨O', hsub, hh, hstep⟩ := hd.step
            refine (sync_has (O := O') hok hpe hh).mono ?_
            rintro e w2 ⟨rfl, hf2, hd2⟩
            obtain ⟨hd3, hf3⟩ := hstep _ _ hf2 hd2
            have HF2 := HF.out.trans hf3
            clear hf2 c0 c1 c2 c3 sb hok hpe hd hd2 hf3 hh hsub hstep
            go_wp2_with fail
            go_roundg (min m 40 - (k + 1))
            case measure => have := HG.out; omega
            case rel => exact ⟨k + 1, rfl, by omega, by omega, rfl, HS.out ▸ hd3, HF2⟩
          · by_cases h3 : od = 3
            · subst h3
              have h11 : DS.step4 Dk ⟨3, oi, ob, op⟩ = Dk.crash op := rfl
              rw [h11] at HS
              have HX := hide (And.intro sp (And.intro hok (And.intro hpe hd)))
              clear sb sp hd hok hpe hb hF h11
              go_wp2_with fail
              obtain ⟨sp, hok, hpe, hd⟩ := HX.out
              obtain ⟨O', hsub, hh, hstep⟩ := hd.step
              refine (crash_has (O := O') C1 op.length pc1 op hok rfl hpe (sp.mono (fun b h _ => hsub b h)) hh).mono ?_
              rintro e w2 ⟨rfl, hf2, hd2⟩
              obtain ⟨hd3, hf3⟩ := hstep _ _ hf2 hd2
              have HF2 := HF.out.trans hf3
              clear hf2 c0 c1 c2 c3 sp hok hpe hd hd2 hf3 hh hsub hstep
              go_wp2_with fail
              go_roundg (min m 40 - (k + 1))
              case measure => have := HG.out; omega
              case rel => exact ⟨k + 1, rfl, by omega, by omega, rfl, HS.out ▸ hd3, HF2⟩
            · have h11 : DS.step4 Dk ⟨od, oi, ob, op⟩ = Dk := by unfold DS.step4; rw [if_neg h1, if_neg h2, if_neg h3]
              rw [h11] at HS
              have HX := hide hd
              clear sb sp hd hok hpe hb hF h11
              go_wp2_with fail
              go_roundg (min m 40 - (k + 1))
              case measure => have := HG.out; omega
              case rel => exact ⟨k + 1, rfl, by omega, by omega, rfl, HS.out ▸ HX.out, HF.out⟩
      · obtain rfl : k = 40 := by omega
        have HX := hide hd
        clear hd hF
        go_wp2_with fail
        have hA5 := ha4.out HF.out (fun b h _ => h)
        have F5 := HF.out.out_old HO3.out F4
        refine (all_has HI.out.2.1 HI.out.2.2.1 HX.out.snd).mono ?_
        rintro e w5 ⟨vb, rfl, hb, hlb, f5⟩
        have hd5 := HX.out.snd.non f5
        have F6 := F5.trans f5
        have ha6 := hA5.non f5
        clear HX hA5 F5 f5 hlb HF ha4
        go_wp2_with fail
        refine (pending_has hd5).mono ?_
        rintro e w6 ⟨rfl, rfl⟩
        go_wp2_with fail
        refine (same_any va vb _ _ _ _ _ ha6 hb).mono ?_
        rintro e w6 ⟨rfl, f7⟩
        rw [decide_eq_true rfl]
        have F7 := F6.trans f7
        clear F6 f7 ha6 hb hd5
        go_wp2_with fail
        go_ret
        exact ⟨rfl, F7⟩
    · obtain rfl : k = m := by omega
      have HX := hide hd
      clear hd hF
      go_wp2_with fail
      have hA5 := ha4.out HF.out (fun b h _ => h)
      have F5 := HF.out.out_old HO3.out F4
      refine (all_has HI.out.2.1 HI.out.2.2.1 HX.out.snd).mono ?_
      rintro e w5 ⟨vb, rfl, hb, hlb, f5⟩
      have hd5 := HX.out.snd.non f5
      have F6 := F5.trans f5
      have ha6 := hA5.non f5
      clear HX hA5 F5 f5 hlb HF ha4
      go_wp2_with fail
      refine (pending_has hd5).mono ?_
      rintro e w6 ⟨rfl, rfl⟩
      go_wp2_with fail
      refine (same_any va vb _ _ _ _ _ ha6 hb).mono ?_
      rintro e w6 ⟨rfl, f7⟩
      rw [decide_eq_true rfl]
      have F7 := F6.trans f7
      clear F6 f7 ha6 hb hd5
      go_wp2_with fail
      go_ret
      exact ⟨rfl, F7⟩

end Go.Proofs.Ythddgnnbgldfmaa
