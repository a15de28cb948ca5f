/- DiskOld, the walk. -/
import Derived.Test.YthddgnnbgldfmaaDiskFit
import Derived.Deep.DeepCutAuto
namespace Go.Proofs.Ythddgnnbgldfmaa
open Go.RowKit

theorem splice_get {α : Type} (xs vs : List α) (o k : Nat) (h : o + vs.length ≤ xs.length) : (splice xs o vs)[k]? = if o ≤ k ∧ k < o + vs.length then vs[k - o]? else xs[k]? := by
  unfold splice
  by_cases h1 : k < o
  · rw [if_neg (by omega), List.append_assoc, List.getElem?_append_left (by rw [List.length_take]; omega), List.getElem?_take, if_pos h1]
  · rw [List.append_assoc, List.getElem?_append_right (by rw [List.length_take]; omega), List.length_take, Nat.min_eq_left (by omega)]
    by_cases h2 : k < o + vs.length
    · rw [if_pos (by omega), List.getElem?_append_left (by omega)]
    · rw [if_neg (by omega), List.getElem?_append_right (by omega), List.getElem?_drop]
      congr 1
      omega
theorem full_get (b : List Int) (j : Nat) (h : j < 64) (hb : b.length ≤ 64) : (full b)[j]? = some (if j < b.length then b.getD j 0 else 0) := by
  unfold full zeros
  by_cases h1 : j < b.length
  · rw [List.getElem?_append_left h1, if_pos h1, List.getD_eq_getElem?_getD, List.getElem?_eq_getElem h1]
    rfl
  · rw [List.getElem?_append_right (by omega), if_neg h1, List.getElem?_replicate, if_pos (by omega)]

/-- the one write, torn -/
theorem old_seen {D : DS} (h : D.fits) (hp : D.pend = []) (i : Nat) (hi : i < D.n) (b p : List Int) (hb : b.length ≤ 64) : ((D.write i b).crash p).seen = splice D.sure (i * 64) ((full b).take (keeps p 0)) := by
  unfold DS.write
  rw [if_neg (by omega), if_neg (by omega), h.goes.1, h.goes.2, if_pos rfl]
  unfold DS.put DS.crash
  rw [hp]
  rfl

theorem old_at (S b : List Int) (k kp j : Nat) (hS : S.length = 512) (hk : k < 8) (hkp : kp ≤ 64) (hb : b.length ≤ 64) :
    (splice S (k * 64) ((full b).take kp))[j]? = if k * 64 ≤ j ∧ j < k * 64 + kp then some (if j - k * 64 < b.length then b.getD (j - k * 64) 0 else 0) else S[j]? := by
  have hl : ((full b).take kp).length = kp := by rw [List.length_take, full_length hb]; omega
  rw [splice_get _ _ _ _ (by rw [hl]; omega), hl]
  by_cases h : k * 64 ≤ j ∧ j < k * 64 + kp
  · rw [if_pos h, if_pos h, List.getElem?_take, if_pos (by omega), full_get b _ (by omega) hb]
  · rw [if_neg h, if_neg h]

set_option maxRecDepth 100000 in
set_option maxHeartbeats 4000000 in
theorem old_any (A : Option Addr) (n c : Nat) (ops : Nat → Op4) (i : Int) (B : Option Addr) (bc : Nat) (b : List Int) (C : Option Addr) (pc : Nat) (p : List Int) (w : World) (hn : n ≤ 9223372036854775807) (hbl : b.length ≤ 9223372036854775807) (hpl : p.length ≤ 9223372036854775807) (ho : Ops4 w (Old w) A n ops)
    (h1 : Sl w (Old w) 1 B b.length (bv b)) (h2 : Sl w (Old w) 1 C p.length (p.map (Value.int .i64))) :
    Calls Try.prog 5 #[.slice A n c, .int .i64 i, .slice B b.length bc, .slice C p.length pc] w fun e w' => e = .returned (.bool true) ∧ Fr Non w w' := by
  have HO := hide (And.intro ho (And.intro h1 h2))
  clear ho h1 h2
  have HM := hide (And.intro (made4_ok ops n) (And.intro (made4_n ops n) (And.intro (made4_pend ops n) (made4_fits ops n))))
  go_enter Try.func5, Try.ntmps5
  go_wp2_with fail
  refine (awake_any _).mono ?_
  rintro e w1 ⟨rfl, f1⟩
  go_wp2_with fail
  obtain ⟨ho, h1, h2⟩ := HO.out
  have hq : ∀ b, Old w b → b < w.heap.size → Old w1 b := fun b _ h => Nat.lt_of_lt_of_le h f1.size
  refine (made_old A n c ops hn ho f1).mono ?_
  rintro e w2 ⟨g, rfl, hg, hd, f2⟩
  have s1 : Sl w2 (Old w1) 1 B b.length (bv b) := ((h1.mono hq).non f1).non f2
  have s2 : Sl w2 (Old w1) 1 C p.length (p.map (Value.int .i64)) := ((h2.mono hq).non f1).non f2
  have F2 := f1.trans f2
  have hz := f1.size
  clear ho h1 h2 HO f1 f2 hq
  obtain ⟨hok, hn8, hpe, hfit⟩ := HM.out
  generalize made4 ops n = D at *
  have hO : ∀ b, b < w.heap.size → Old w1 b := fun b h => Nat.lt_of_lt_of_le h hz
  generalize Old w1 = O at *
  have HI := hide (And.intro s1 (And.intro s2 (And.intro hO (And.intro hok (And.intro hn8 (And.intro hpe hfit))))))
  clear s1 s2 hO hok hn8 hpe hfit hz HM
  go_wp2_with fail
  refine (sync_has HI.out.2.2.2.1 (by have := HI.out.2.2.2.2.2.1; omega) hd).mono ?_
  rintro e w3 ⟨rfl, hf3, hd3⟩
  obtain ⟨s1, s2, hO, hok, hn8, hpe, hfit⟩ := HI.out
  have hs := hfit.sync
  have hok3 := hok.sync
  have hn3 : D.sync.n = 8 := (DS.sync_n D).trans hn8
  have F3 := hf3.out_old hO F2
  have s13 := s1.out hf3 (fun b h _ => h)
  have s23 := s2.out hf3 (fun b h _ => h)
  clear HI hd s1 s2 hok hn8 hpe F2 hf3
  obtain ⟨hfit3, hseen, hsure, hpend⟩ := hs
  have hss : D.sync.sure = D.sync.seen := hsure.trans hseen.symm
  clear hsure hseen
  generalize D.sync = D3 at *
  have hp3 : D3.pend.length < 1000000 := by rw [hpend]; simp
  have HI := hide (And.intro hO (And.intro hok3 (And.intro hn3 (And.intro hpend (And.intro hss hfit3)))))
  clear hO hok3 hn3 hpend hss hfit3
  go_wp2_with fail
  refine (all_has HI.out.2.1 HI.out.2.2.1 hd3).mono ?_
  rintro e w4 ⟨va, rfl, ha, hla, f4⟩
  have hd4 := hd3.more f4
  have F4 := F3.trans f4
  have ha4 : Nums w4 (Plus O w3 w4) .u8 va D3.seen := by
    obtain ⟨A, c, e, hl, hs⟩ := ha
    exact ⟨A, c, e, hl, hs.mono (fun b h1 h2 => .inr ⟨h1, h2⟩)⟩
  have s14 : Sl w4 (Plus O w3 w4) 1 B b.length (bv b) := (s13.non f4).mono (fun b h _ => .inl h)
  have s24 : Sl w4 (Plus O w3 w4) 1 C p.length (p.map (Value.int .i64)) := (s23.non f4).mono (fun b h _ => .inl h)
  have hO4 : ∀ b, b < w.heap.size → Plus O w3 w4 b := fun b h => .inl (HI.out.1 b h)
  generalize Plus O w3 w4 = O4 at *
  have HO4 := hide hO4
  have HL := hide hla
  clear hd3 F3 ha f4 s13 s23 hO4 hla
  go_wp2_with fail
  refine (write_has i B b.length bc b HI.out.2.1 rfl hp3 s14 hd4).mono ?_
  rintro e w5 ⟨rfl, hf5, hd5⟩
  have F5 := hf5.out_old HO4.out F4
  have ha5 := ha4.out hf5 (fun b h _ => h)
  have s15 := s14.out hf5 (fun b h _ => h)
  have s25 := s24.out hf5 (fun b h _ => h)
  clear hd4 F4 ha4 s14 s24 hf5 hp3
  by_cases hi : i < 0 ∨ (D3.n : Int) ≤ i
  · rw [show D3.writeE i b = 40 by unfold DS.writeE; rw [if_pos hi]]
    clear hi
    go_wp2_with fail
    go_ret
    exact ⟨rfl, F5⟩
  by_cases hl : 64 < b.length
  · rw [show D3.writeE i b = 2 by unfold DS.writeE; rw [if_neg hi, if_pos hl]]
    clear hi hl
    go_wp2_with fail
    go_ret
    exact ⟨rfl, F5⟩
  rw [show D3.writeE i b = 0 by unfold DS.writeE; rw [if_neg hi, if_neg hl, HI.out.2.2.2.2.2.goes.1, if_pos rfl]]
  have hok5 := HI.out.2.1.write i b
  have hn5 : (D3.write i b).n = 8 := (DS.write_n _ _ _).trans HI.out.2.2.1
  have hp5 : (D3.write i b).pend.length < 1000000 := by
    have := DS.write_pend D3 i b
    rw [HI.out.2.2.2.1] at this
    simp at this
    omega
  obtain ⟨k, rfl⟩ := Int.eq_ofNat_of_zero_le (show 0 ≤ i by omega)
  have hk8 : k < 8 := by have := HI.out.2.2.1; omega
  have HT := hide (old_seen HI.out.2.2.2.2.2 HI.out.2.2.2.1 k (by rw [HI.out.2.2.1]; exact hk8) b p (by omega))
  clear hi
  generalize D3.write k b = D5 at *
  obtain ⟨A9, c9, rfl, hl9, hs9⟩ := ha5
  have HN5 := hide hn5
  clear hn5
  have HS9 := hide hs9
  have HIL := hide HL.out
  rw [HL.out]
  clear hs9 hl9
  go_wp2_with fail
  refine (crash_has C p.length pc p hok5 rfl hp5 s25 hd5).mono ?_
  rintro e w6 ⟨rfl, hf6, hd6⟩
  have F6 := hf6.out_old HO4.out F5
  have hS6 := HS9.out.out hf6 (fun b h _ => h)
  have s16 := s15.out hf6 (fun b h _ => h)
  have s26 := s25.out hf6 (fun b h _ => h)
  have hok6 := hok5.crash p
  have HN6 : Hid ((D5.crash p).n = 8) := HN5.out
  clear hd5 F5 s15 s25 hf6 hp5 hok5 HN5 HS9
  generalize D5.crash p = D6 at *
  go_wp2_with fail
  refine (all_has hok6 HN6.out hd6).mono ?_
  rintro e w7 ⟨vb, rfl, hb, hlb, f7⟩
  have F7 := F6.trans f7
  have hS7 := hS6.non f7
  have s17 := s16.non f7
  have s27 := s26.non f7
  obtain ⟨A7, c7, rfl, hl7, hs7⟩ := hb
  rw [HT.out] at hlb hs7
  rw [HT.out, hlb]
  have HX := hide (And.intro hS7 (And.intro s17 (And.intro s27 (And.intro hs7 F7))))
  clear hd6 F6 hS6 s16 s26 f7 hl7 hS7 s17 s27 hs7 F7 hok6 HN6
  have hll : p.length ≤ 9223372036854775807 := hpl
  go_upto_if 60 with fail
  go_cut [14] (fun t wx => t = .int .i64 (keeps p 0) ∧ wx = w7)
  case first =>
    by_cases hp0 : 0 < p.length
    · obtain ⟨ad, u, rfl, hqa, hab, hxu, hcu⟩ := HX.out.2.2.1.at_ (k := 0) hp0
      obtain rfl : u = .int .i64 p[0] := by
        rw [List.getElem?_map, List.getElem?_eq_getElem hp0] at hxu
        simpa using hxu.symm
      have hcu' : w7.cell? ad = some (.int .i64 p[0]) := by simpa [Addr.add] using hcu
      clear hxu hcu hqa hab
      have hkeep : ((keeps p 0 : Nat) : Int) = (max 0 (min p[0] 64) : Int) := by
        unfold keeps
        rw [if_pos hp0, List.getD_eq_getElem?_getD, List.getElem?_eq_getElem hp0]
        simp only [Option.getD_some]
        omega
      have HKE := hide hkeep
      clear hkeep
      go_wp2_with fail
      all_goals
        go_meet
        refine ⟨?_, rfl⟩
        have := HKE.out
        congr 1
        omega
    · have HKE : Hid (keeps p 0 = 0) := by unfold keeps; rw [if_neg hp0]; exact hide rfl
      go_wp2_with fail
      go_meet
      refine ⟨?_, rfl⟩
      rw [HKE.out]
      rfl
  case rest =>
    obtain ⟨rfl, rfl⟩ := hcut
    have hkp := keeps_le p 0
    generalize keeps p 0 = kp at *
    go_wp2_with fail
    have hsp := fun j => old_at D3.seen b k kp j HIL.out hk8 hkp (by omega)
    rw [← HI.out.2.2.2.2.1] at hsp
    have HSP := hide hsp
    have HLB := hide hlb
    clear hsp hlb HT
    go_loopg [15] 512 (fun gh j' wr => ∃ j : Nat, gh = 512 - j ∧ j ≤ 512 ∧ j' = .int .i64 j ∧ wr = wc)
    case atStart => exact ⟨0, rfl, by omega, rfl, rfl⟩
    case round =>
      obtain ⟨j, hgj, hj, rfl, rfl⟩ := hrel
      have HG := hide hgj
      clear hgj
      by_cases hj5 : j < 512
      · obtain ⟨ad9, u9, rfl, _, _, hx9, hc9⟩ := HX.out.1.at_ (k := j) (by rw [HIL.out]; exact hj5)
        obtain ⟨ad7, u7, rfl, _, _, hx7, hc7⟩ := HX.out.2.2.2.1.at_ (k := j) (by rw [HLB.out]; exact hj5)
        rw [List.getElem?_map] at hx9 hx7
        rw [HSP.out j] at hx7
        have hjl : j < D3.seen.length := by rw [HIL.out]; exact hj5
        rw [List.getElem?_eq_getElem hjl] at hx9
        obtain rfl : u9 = .int .u8 D3.seen[j] := by simpa using hx9.symm
        have hc9 := hc9
        by_cases h1 : j < k * 64
        · rw [if_neg (by omega), HI.out.2.2.2.2.1, List.getElem?_eq_getElem hjl] at hx7
          obtain rfl : u7 = .int .u8 D3.seen[j] := by simpa using hx7.symm
          generalize D3.seen[j] = x at *
          have hb0 : ¬ (64 * (k : Int) ≤ (j : Int)) := by omega
          clear hx9 hx7
          go_wp2_with fail
          go_roundg (512 - (j + 1))
          case measure => have := HG.out; omega
          case rel => exact ⟨j + 1, rfl, by omega, rfl, rfl⟩
        · by_cases h2 : k * 64 + kp ≤ j
          · rw [if_neg (by omega), HI.out.2.2.2.2.1, List.getElem?_eq_getElem hjl] at hx7
            obtain rfl : u7 = .int .u8 D3.seen[j] := by simpa using hx7.symm
            generalize D3.seen[j] = x at *
            have hb0 : (64 * (k : Int) ≤ (j : Int)) := by omega
            have hb1 : ¬ ((j : Int) < 64 * (k : Int) + (kp : Int)) := by omega
            clear hx9 hx7
            go_wp2_with fail
            go_roundg (512 - (j + 1))
            case measure => have := HG.out; omega
            case rel => exact ⟨j + 1, rfl, by omega, rfl, rfl⟩
          · rw [if_pos (by omega)] at hx7
            obtain ⟨m, rfl⟩ : ∃ m, j = k * 64 + m := ⟨j - k * 64, by omega⟩
            rw [show k * 64 + m - k * 64 = m by omega] at hx7
            have hb0 : (64 * (k : Int) ≤ ((k * 64 + m : Nat) : Int)) := by omega
            have hb1 : (((k * 64 + m : Nat) : Int) < 64 * (k : Int) + (kp : Int)) := by omega
            have hb2 : ((k * 64 + m : Nat) : Int) - 64 * (k : Int) = (m : Int) := by omega
            generalize D3.seen[k * 64 + m] = x at *
            by_cases hm : m < b.length
            · rw [if_pos hm] at hx7
              obtain rfl : u7 = .int .u8 (b.getD m 0) := by simpa using hx7.symm
              obtain ⟨adb, ub, rfl, _, _, hxb, hcb⟩ := HX.out.2.1.at_ (k := m) hm
              obtain rfl : ub = .int .u8 (b.getD m 0) := by
                simp only [bv, List.getElem?_map, List.getElem?_eq_getElem hm, Option.map_some, Option.some.injEq] at hxb
                rw [← hxb, List.getD_eq_getElem?_getD, List.getElem?_eq_getElem hm]
                rfl
              generalize b.getD m 0 = y at *
              clear hx9 hx7 hxb
              generalize hJ : k * 64 + m = J at *
              clear hJ
              go_wp2_with fail
              go_roundg (512 - (J + 1))
              case measure => have := HG.out; omega
              case rel => exact ⟨J + 1, rfl, by omega, rfl, rfl⟩
            · rw [if_neg hm] at hx7
              obtain rfl : u7 = .int .u8 0 := by simpa using hx7.symm
              clear hx9 hx7
              generalize hJ : k * 64 + m = J at *
              clear hJ
              go_wp2_with fail
              go_roundg (512 - (J + 1))
              case measure => have := HG.out; omega
              case rel => exact ⟨J + 1, rfl, by omega, rfl, rfl⟩
      · obtain rfl : j = 512 := by omega
        go_wp2_with fail
        go_ret
        exact ⟨rfl, HX.out.2.2.2.2⟩

end Go.Proofs.Ythddgnnbgldfmaa
