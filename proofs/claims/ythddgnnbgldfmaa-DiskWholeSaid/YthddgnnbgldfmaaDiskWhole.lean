/- DiskWhole, the walk. -/
import Derived.Test.YthddgnnbgldfmaaDiskFold
namespace Go.Proofs.Ythddgnnbgldfmaa
open Go.RowKit

set_option maxRecDepth 100000 in
set_option maxHeartbeats 4000000 in
theorem whole_any (A : Option Addr) (n c : Nat) (ops : Nat → Op4) (B : Option Addr) (m bc : Nat) (ws : Nat → Op4) (w : World) (hn : n ≤ 9223372036854775807) (hm : m ≤ 9223372036854775807) (ho : Ops4 w (Old w) A n ops) (ho2 : Ops4 w (Old w) B m ws) :
    Calls Try.prog 7 #[.slice A n c, .slice B m bc] w fun e w' => e = .returned (.bool true) ∧ Fr Non w w' := by
  have HO := hide (And.intro ho ho2)
  clear ho ho2
  have HM := hide (And.intro (made4_ok ops n) (And.intro (made4_n ops n) (And.intro (made4_pend ops n) (made4_fits ops n))))
  go_enter Try.func7, Try.ntmps7
  go_wp2_with fail
  refine (awake_any _).mono ?_
  rintro e w1 ⟨rfl, f1⟩
  go_wp2_with fail
  obtain ⟨ho, ho2⟩ := HO.out
  have hq : ∀ b, Old w b → b < w.heap.size → Old w1 b := fun b _ h => Nat.lt_of_lt_of_le h f1.size
  refine (made_old A n c ops hn ho f1).mono ?_
  rintro e w2 ⟨g, rfl, hg, hd, f2⟩
  have s1 : Ops4 w2 (Old w1) B m ws := ((ho2.mono hq).non f1).non f2
  have F2 := f1.trans f2
  have hz := f1.size
  clear ho ho2 HO f1 f2 hq
  obtain ⟨hok, hn8, hpe, hfit⟩ := HM.out
  generalize made4 ops n = D at *
  have hO : ∀ b, b < w.heap.size → Old w1 b := fun b h => Nat.lt_of_lt_of_le h hz
  generalize Old w1 = O at *
  have HI := hide (And.intro hO (And.intro hok (And.intro hn8 (And.intro hpe hfit))))
  have HS := hide s1
  clear hO hok hn8 hpe hfit hz HM s1
  by_cases h10 : 10 < m
  · go_wp2_with fail
    go_ret
    exact ⟨rfl, F2⟩
  go_wp2_with fail
  refine (sync_has HI.out.2.1 (by have := HI.out.2.2.2.1; omega) hd).mono ?_
  rintro e w3 ⟨rfl, hf3, hd3⟩
  obtain ⟨hO, hok, hn8, hpe, hfit⟩ := HI.out
  have hs := hfit.sync
  have hok3 := hok.sync
  have hn3 : D.sync.n = 8 := (DS.sync_n D).trans hn8
  have F3 := hf3.out_old hO F2
  have HS3 := hide (HS.out.fr hf3 (fun b h _ x => x h))
  clear HI hd HS hok hn8 hpe F2 hf3 hfit
  obtain ⟨hfit3, hseen, hsure, hpend⟩ := hs
  have hss : D.sync.sure = D.sync.seen := hsure.trans hseen.symm
  clear hsure hseen
  generalize D.sync = D3 at *
  have HI := hide (And.intro hO (And.intro hok3 (And.intro hn3 (And.intro hpend (And.intro hss hfit3)))))
  clear hO hok3 hn3 hpend hss hfit3
  go_wp2_with fail
  refine (all_has HI.out.2.1 HI.out.2.2.1 hd3).mono ?_
  rintro e w4 ⟨va, rfl, ha, hla, f4⟩
  have hd4 := hd3.more f4
  have F4 := F3.trans f4
  have ha4 : Nums w4 (Plus O w3 w4) .u8 va D3.seen := by
    obtain ⟨A, c, e, hl, hs⟩ := ha
    exact ⟨A, c, e, hl, hs.mono (fun b h1 h2 => .inr ⟨h1, h2⟩)⟩
  have s4 : Ops4 w4 (Plus O w3 w4) B m ws := (HS3.out.non f4).mono (fun b h _ => .inl h)
  have hO4 : ∀ b, b < w.heap.size → Plus O w3 w4 b := fun b h => .inl (HI.out.1 b h)
  generalize Plus O w3 w4 = O4 at *
  have hOl : ∀ b, O4 b → b < w4.heap.size := by
    obtain ⟨F, h1, h2, h3⟩ := hd4
    exact h3
  have HO4 := hide (And.intro hO4 hOl)
  have HS4 := hide s4
  clear hd3 F3 ha f4 HS3 hO4 hla s4 hOl
  go_wp2_with fail
  go_loopg [8, 9] m (fun gh v i wr => ∃ (k : Nat) (O5 : Nat → Prop), gh = m - k ∧ k ≤ m ∧ i = .int .i64 k ∧ (∀ b, O4 b → O5 b) ∧ Has O5 wr g (D3.wr4 ws k) ∧ wr.ownsRow w4.heap.size 3 1 v (D3.wr4 ws k).pend.length ((sixty (D3.wr4 ws k).pend.length).map (Value.int .i64)) ∧ (∀ b, v.ownBlock = some b → O5 b) ∧ Fr (Out O4) w4 wr)
  case atStart =>
    refine ⟨0, O4, rfl, Nat.zero_le _, rfl, fun b h => h, hd4, ?_, fun b h => by simp [Value.ownBlock] at h, Fr.refl _ _⟩
    rw [show (D3.wr4 ws 0).pend.length = 0 by show D3.pend.length = 0; rw [HI.out.2.2.2.1]; rfl]
    exact World.ownsRow_nil _ _ _ _
  case round =>
    clear hd4
    obtain ⟨k, O5, hgk, hkm, rfl, hsub, hd, hown, hob, hF⟩ := hrel
    have HG := hide hgk
    have hpl := DS.wr4_pend D3 ws k
    have hpl2 : (D3.wr4 ws k).pend.length ≤ 10 := by rw [HI.out.2.2.2.1] at hpl; simp at hpl; omega
    have HK := hide (And.intro hsub (And.intro hd (And.intro hown (And.intro hob (And.intro hF ((HI.out.2.1).wr4 ws k))))))
    clear hgk hsub hd hown hob hF hpl
    by_cases hk : k < m
    · obtain ⟨ad, B1, C1, bc1, pc1, h4⟩ := (HS4.out.fr HK.out.2.2.2.2.1 (fun b hb _ x => x hb)) k hk
      have HE := hide (And.intro (show D3.wr4 ws (k + 1) = (D3.wr4 ws k).write (ws k).i (ws k).b from rfl) (And.intro (fun h => DS.write_more (D := D3.wr4 ws k) (i := (ws k).i) (b := (ws k).b) h) (fun h => DS.write_same (D := D3.wr4 ws k) (i := (ws k).i) (b := (ws k).b) h)))
      generalize D3.wr4 ws k = Dk at *
      obtain ⟨rfl, hq, hb, c0, c1, c2, c3, sb, sp⟩ := h4
      generalize ws k = o at *
      obtain ⟨od, oi, ob, op⟩ := o
      simp only at c0 c1 c2 c3 sb sp
      have HX := hide sb
      clear sb sp hb
      go_wp2_with fail
      refine region_tail 11 (by kernel_rfl) (by kernel_rfl) (fun W hW => ?_)
      have hFW : Fr Non wr W := by rw [hW]; exact (Fr.refl _ _).drew
      have k1 : W.cell? (past4 (ad.add (k * 4)) 1) = some (.int .i64 oi) := by rw [hW]; exact c1
      have k2 : W.cell? (past4 (ad.add (k * 4)) 2) = some (.slice B1 ob.length bc1) := by rw [hW]; exact c2
      clear hW c0 c1 c2 c3
      simp only [List.take_succ_cons, List.take_zero, List.drop_succ_cons, List.drop_zero]
      repeat still_step
      try refine wpStill_nil ?_
      obtain ⟨hsub, hd, hown, hob, hF, hok⟩ := HK.out
      have WH := hide (write_has (O := O5) oi B1 ob.length bc1 ob hok rfl (by omega) ((HX.out.non hFW).mono (fun b h _ => hsub b h)) (hd.non hFW))
      clear hsub hd hown hob hF hok
      go_wp2_with fail
      refine WH.out.mono ?_
      rintro e w5 ⟨rfl, hf5, hd5⟩
      clear WH k1 k2
      by_cases he : Dk.writeE oi ob = 0
      · rw [he]
        have hmore := HE.out.2.1 he
        have HMO := hide hmore
        have HD5 := hide hd5
        have HF5 := hide hf5
        have hown5 := own_fr (own_non HK.out.2.2.1 hFW) hf5 (fun b hb x => x (HK.out.2.2.2.1 b hb))
        have HW5 := hide hown5
        have hsz5 : w4.heap.size ≤ w5.heap.size := Nat.le_trans HK.out.2.2.2.2.1.size (Nat.le_trans hFW.size hf5.size)
        have HZ := hide hsz5
        clear he hmore hd5 hf5 hown5 hsz5
        go_wp2_with (at_builtin; refine append_at rfl _ _ 44 rfl w4.heap.size 3 (.int .i64 0) 1 8 Try.underlying44 info_i64 (by kernel_rfl) (by omega) _ Dk.pend.length _ rfl (HW5.out.alloc _) ⟨w5.heap.size, 0, none⟩ 1 1 rfl [.int .i64 64] rfl (by intro j u hu; match j, hu with | 0, hu => (obtain rfl : Value.int .i64 64 = u := by simpa using hu); exact (Blk.new _ _ _).cell 0 | j + 1, hu => simp at hu) (by intro u hu; simp at hu; subst hu; rfl) (by omega) (by omega) (by have := HZ.out; rw [World.size_alloc]; omega) ?_; intro v' w6 hown6 hf6 hb6)
        go_roundg (m - (k + 1))
        case measure => have := HG.out; omega
        case rel =>
          obtain ⟨hsub, hd, hown, hob, hF, hok⟩ := HK.out
          have hfr : Fr (fun b => u8.ownBlock = some b) w5 w6 := ((Fr.refl _ _).alloc _).step hf6 (fun i h _ => h)
          have hlen := HMO.out
          have hE := HE.out.1
          refine ⟨k + 1, Plus O5 w5 w6, rfl, by omega, rfl, fun b h => .inl (hsub b h), by rw [hE]; exact HD5.out.keep hfr hob, ?_, ?_, ?_⟩
          · rw [hE, hlen, sixty_succ, List.map_append]
            exact hown6
          · intro b hb
            rcases hb6 with h | h
            · exact .inl (hob b (h ▸ hb))
            · refine .inr ⟨?_, (hown6.lt b hb).2⟩
              rw [h, World.size_alloc] at hb
              injection hb with hb
              omega
          · refine (((hF.step hFW (fun _ x _ => x.elim)).step HF5.out (fun i h _ h4 => h (hsub i h4))).step hfr (fun i h hl => ?_))
            have := (hown.lt i h).1
            omega
      · skip
        have hsame := HE.out.2.2 he
        have HMO := hide hsame
        have HD5 := hide hd5
        have HF5 := hide hf5
        have hown5 := own_fr (own_non HK.out.2.2.1 hFW) hf5 (fun b hb x => x (HK.out.2.2.2.1 b hb))
        have HW5 := hide hown5
        have heF := isF he
        have HEE := hide HE.out.1
        clear he hsame hd5 hf5 hown5 HE
        generalize Dk.writeE oi ob = E at *
        go_wp2_with fail
        go_roundg (m - (k + 1))
        case measure => have := HG.out; omega
        case rel =>
          obtain ⟨hsub, hd, hown, hob, hF, hok⟩ := HK.out
          have hE := HEE.out
          have hlen := HMO.out
          refine ⟨k + 1, O5, rfl, by omega, rfl, hsub, by rw [hE]; exact HD5.out, ?_, hob, ?_⟩
          · rw [hE, hlen]
            exact HW5.out
          · exact (hF.step hFW (fun _ x _ => x.elim)).step HF5.out (fun i h _ h4 => h (hsub i h4))
    · obtain rfl : k = m := by omega
      go_wp2_with fail
      obtain ⟨hsub, hd, hown, hob, hF, hok⟩ := HK.out
      have hfitk := HI.out.2.2.2.2.2.wr4 ws k
      have hsurek := DS.wr4_sure D3 ws k
      have hnk : (D3.wr4 ws k).n = 8 := (DS.wr4_n _ _ _).trans HI.out.2.2.1
      have ha5 := ha4.out hF (fun b h _ => h)
      have F5 := hF.out_old HO4.out.1 F4
      have HV := hide (And.intro hsub (And.intro hown (And.intro hob (And.intro hok (And.intro hfitk (And.intro hsurek hnk))))))
      have HA5 := hide ha5
      clear hsub hown hob hok hfitk hsurek hnk HK hF ha4 F4 HG ha5
      generalize D3.wr4 ws k = Dk at *
      refine (copy_two HV.out.2.2.2.1 (by omega) hd).mono ?_
      rintro e w5 ⟨gx, rfl, ht, f5⟩
      have ha5 := HA5.out.non f5
      have F6 := F5.trans f5
      have HW := hide (own_non HV.out.2.1 f5)
      clear hd F5 HA5 f5
      go_wp2_with fail
      refine (all_has HV.out.2.2.2.1 HV.out.2.2.2.2.2.2 ht.fst).mono ?_
      rintro e w6 ⟨vb, rfl, hb, hlb, f6⟩
      have ht6 := ht.more f6
      have HW6 := hide (own_non HW.out f6)
      have ha6 : Nums w6 (Plus O5 w5 w6) .u8 va D3.seen := by
        obtain ⟨A, c, e, hl, hs⟩ := ha5.non f6
        exact ⟨A, c, e, hl, hs.mono (fun b h1 h2 => .inl (HV.out.1 b h1))⟩
      have hb6 : Nums w6 (Plus O5 w5 w6) .u8 vb Dk.seen := by
        obtain ⟨A, c, e, hl, hs⟩ := hb
        exact ⟨A, c, e, hl, hs.mono (fun b h1 h2 => .inr ⟨h1, h2⟩)⟩
      have F7 := F6.trans f6
      have hO6 : ∀ b, b < w.heap.size → Plus O5 w5 w6 b := fun b h => .inl (HV.out.1 b (HO4.out.1 b h))
      have hob6 : ∀ b, u8.ownBlock = some b → Plus O5 w5 w6 b := fun b h => .inl (HV.out.2.2.1 b h)
      generalize Plus O5 w5 w6 = O6 at *
      obtain ⟨A8, c8, rfl⟩ := own_slice HW6.out
      have hsl := own_sl HW6.out hob6
      obtain ⟨O', hsub', hh, hstep⟩ := ht6.step
      have HC := hide (crash_has (O := O') A8 Dk.pend.length c8 (sixty Dk.pend.length) HV.out.2.2.2.1 (by simp [sixty]) (by omega) (hsl.mono (fun b h _ => hsub' b h)) hh)
      have HST := hide hstep
      clear hh hstep hsub' hsl ht6 hob6 HW6 HW ht f6 F6 hlb hb ha5
      go_wp2_with fail
      refine HC.out.mono ?_
      rintro e w7 ⟨rfl, hf7, hd7⟩
      obtain ⟨ht7, hg7⟩ := HST.out _ _ hf7 hd7
      have ha7 := ha6.out hg7 (fun b h _ => h)
      have hb7 := hb6.out hg7 (fun b h _ => h)
      have F8 := hg7.out_old hO6 F7
      obtain ⟨O', hsub', hh, hstep⟩ := ht7.symm.step
      have HC := hide (crash_has (O := O') none 0 0 [] HV.out.2.2.2.1 rfl (by omega) (Sl.nil_ _ _ _ _) hh)
      have HST := hide hstep
      clear hh hstep hsub' hf7 hd7 ht7 hg7 ha6 hb6 F7
      go_wp2_with fail
      refine HC.out.mono ?_
      rintro e w8 ⟨rfl, hf8, hd8⟩
      obtain ⟨ht8, hg8⟩ := HST.out _ _ hf8 hd8
      have ha8 := ha7.out hg8 (fun b h _ => h)
      have hb8 := hb7.out hg8 (fun b h _ => h)
      have F9 := hg8.out_old hO6 F8
      have e1 : Dk.seen = (Dk.crash (sixty Dk.pend.length)).seen := (DS.crash_all HV.out.2.2.2.1 HV.out.2.2.2.2.1.1).symm
      have e2 : D3.seen = (Dk.crash []).seen := by rw [DS.crash_nil, HV.out.2.2.2.2.2.1, HI.out.2.2.2.2.1]
      have o1 := HV.out.2.2.2.1.crash (sixty Dk.pend.length)
      have o2 := HV.out.2.2.2.1.crash []
      have n1 : (Dk.crash (sixty Dk.pend.length)).n = 8 := HV.out.2.2.2.2.2.2
      have n2 : (Dk.crash []).n = 8 := HV.out.2.2.2.2.2.2
      generalize Dk.crash (sixty Dk.pend.length) = Da at *
      generalize Dk.crash [] = Db at *
      have HE := hide (And.intro e1 (And.intro e2 (And.intro o1 (And.intro o2 (And.intro n1 n2)))))
      clear hf8 hd8 hg8 ha7 hb7 F8 e1 e2 o1 o2 n1 n2
      go_wp2_with fail
      refine (all_has HE.out.2.2.1 HE.out.2.2.2.2.1 ht8.snd).mono ?_
      rintro e w9 ⟨vc, rfl, hc, hlc, f9⟩
      have ht9 := ht8.non f9
      have ha9 := ha8.non f9
      have hb9 := hb8.non f9
      have F10 := F9.trans f9
      clear ht8 f9 ha8 hb8 F9 hlc
      go_wp2_with fail
      refine (all_has HE.out.2.2.2.1 HE.out.2.2.2.2.2 ht9.fst).mono ?_
      rintro e w10 ⟨vd, rfl, hdd, hld, f10⟩
      have ha10 := ha9.non f10
      have hb10 := hb9.non f10
      have hc10 := hc.non f10
      have F11 := F10.trans f10
      clear ht9 f10 ha9 hb9 hc F10 hld
      go_wp2_with fail
      refine (same_any vb vc _ _ _ _ _ hb10 hc10).mono ?_
      rintro e w11 ⟨rfl, f11⟩
      rw [decide_eq_true HE.out.1]
      have ha11 := ha10.non f11
      have hd11 := hdd.non f11
      have F12 := F11.trans f11
      clear ha10 hb10 hc10 hdd f11 F11
      go_wp2_with fail
      refine (same_any va vd _ _ _ _ _ ha11 hd11).mono ?_
      rintro e w12 ⟨rfl, f12⟩
      rw [decide_eq_true HE.out.2.1]
      have F13 := F12.trans f12
      clear ha11 hd11 f12 F12
      go_wp2_with fail
      go_ret
      exact ⟨rfl, F13⟩

end Go.Proofs.Ythddgnnbgldfmaa
