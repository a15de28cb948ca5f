/- DiskSure, the walk. -/
import Derived.Test.YthddgnnbgldfmaaDiskFit
namespace Go.Proofs.Ythddgnnbgldfmaa
open Go.RowKit

set_option maxRecDepth 100000 in
set_option maxHeartbeats 2000000 in
theorem sure_any (A : Option Addr) (n c : Nat) (ops : Nat → Op4) (B : Option Addr) (bc : Nat) (one : List Int) (C : Option Addr) (cc : Nat) (two : List Int) (w : World) (hn : n ≤ 9223372036854775807) (ho : Ops4 w (Old w) A n ops)
    (h1 : Sl w (Old w) 1 B one.length (one.map (Value.int .i64))) (h2 : Sl w (Old w) 1 C two.length (two.map (Value.int .i64))) :
    Calls Try.prog 6 #[.slice A n c, .slice B one.length bc, .slice C two.length cc] w fun e w' => e = .returned (.bool true) ∧ Fr Non w w' := by
  have HO := hide (And.intro ho (And.intro h1 h2))
  clear ho h1 h2
  have HM := hide (And.intro (made4_ok ops n) (And.intro (made4_n ops n) (And.intro (made4_pend ops n) (made4_fits ops n))))
  go_enter Try.func6, Try.ntmps6
  go_wp2_with fail
  refine (awake_any _).mono ?_
  rintro e w1 ⟨rfl, f1⟩
  go_wp2_with fail
  obtain ⟨ho, h1, h2⟩ := HO.out
  have hq : ∀ b, Old w b → b < w.heap.size → Old w1 b := fun b _ h => Nat.lt_of_lt_of_le h f1.size
  refine (made_old A n c ops hn ho f1).mono ?_
  rintro e w2 ⟨g, rfl, hg, hd, f2⟩
  have s1 : Sl w2 (Old w1) 1 B one.length (one.map (Value.int .i64)) := ((h1.mono hq).non f1).non f2
  have s2 : Sl w2 (Old w1) 1 C two.length (two.map (Value.int .i64)) := ((h2.mono hq).non f1).non f2
  have F2 := f1.trans f2
  have hz := f1.size
  clear ho h1 h2 HO f1 f2 hq
  obtain ⟨hok, hn8, hpe, hfit⟩ := HM.out
  generalize made4 ops n = D at *
  have hO : ∀ b, b < w.heap.size → Old w1 b := fun b h => Nat.lt_of_lt_of_le h hz
  generalize Old w1 = O at *
  have HI := hide (And.intro s1 (And.intro s2 (And.intro hO (And.intro hok (And.intro hn8 (And.intro hpe hfit))))))
  clear s1 s2 hO hok hn8 hpe hfit hz HM
  go_wp2_with fail
  refine (sync_has HI.out.2.2.2.1 (by have := HI.out.2.2.2.2.2.1; omega) hd).mono ?_
  rintro e w3 ⟨rfl, hf3, hd3⟩
  obtain ⟨s1, s2, hO, hok, hn8, hpe, hfit⟩ := HI.out
  have hs := hfit.sync
  have hok3 := hok.sync
  have hn3 : D.sync.n = 8 := by unfold DS.sync; split <;> exact hn8
  have F3 := hf3.out_old hO F2
  have s13 := s1.out hf3 (fun b h _ => h)
  have s23 := s2.out hf3 (fun b h _ => h)
  clear HI hd s1 s2 hok hn8 hpe F2 hf3
  obtain ⟨hfit3, hseen, hsure, hpend⟩ := hs
  generalize D.sync = D3 at *
  have hp3 : D3.pend.length < 1000000 := by rw [hpend]; simp
  have HI := hide (And.intro hO (And.intro hok3 (And.intro hn3 (And.intro hpend (And.intro hseen hsure)))))
  clear hO hok3 hn3 hpend hseen hsure hfit3
  go_wp2_with fail
  refine (all_has HI.out.2.1 HI.out.2.2.1 hd3).mono ?_
  rintro e w4 ⟨va, rfl, ha, hla, f4⟩
  have hd4 := hd3.more f4
  have F4 := F3.trans f4
  have ha4 : Nums w4 (Plus O w3 w4) .u8 va D3.seen := by
    obtain ⟨A, c, e, hl, hs⟩ := ha
    exact ⟨A, c, e, hl, hs.mono (fun b h1 h2 => .inr ⟨h1, h2⟩)⟩
  have s14 : Sl w4 (Plus O w3 w4) 1 B one.length (one.map (Value.int .i64)) := (s13.non f4).mono (fun b h _ => .inl h)
  have s24 : Sl w4 (Plus O w3 w4) 1 C two.length (two.map (Value.int .i64)) := (s23.non f4).mono (fun b h _ => .inl h)
  have hO4 : ∀ b, b < w.heap.size → Plus O w3 w4 b := fun b h => .inl (HI.out.1 b h)
  generalize Plus O w3 w4 = O4 at *
  have HO4 := hide hO4
  have HL := hide hla
  clear hd3 F3 ha f4 s13 s23 hO4 hla
  go_wp2_with fail
  refine (crash_has B one.length bc one HI.out.2.1 rfl hp3 s14 hd4).mono ?_
  rintro e w5 ⟨rfl, hf5, hd5⟩
  have F5 := hf5.out_old HO4.out F4
  have ha5 := ha4.out hf5 (fun b h _ => h)
  have s25 := s24.out hf5 (fun b h _ => h)
  have hc5 := DS.crash_none HI.out.2.2.2.1 one
  have hok5 := HI.out.2.1.crash one
  have hn5 : (D3.crash one).n = 8 := HI.out.2.2.1
  clear hd4 F4 ha4 s14 s24 hf5 hp3
  generalize D3.crash one = D5 at *
  have hp5 : D5.pend.length < 1000000 := by rw [hc5.2.2]; simp
  have HC5 := hide hc5
  have HN5 := hide hn5
  clear hc5 hn5
  go_wp2_with fail
  refine (all_has hok5 HN5.out hd5).mono ?_
  rintro e w6 ⟨vb, rfl, hb, hlb, f6⟩
  have hd6 := hd5.more f6
  have F6 := F5.trans f6
  have ha6 : Nums w6 (Plus O4 w5 w6) .u8 va D3.seen := by
    obtain ⟨A, c, e, hl, hs⟩ := ha5.non f6
    exact ⟨A, c, e, hl, hs.mono (fun b h1 h2 => .inl h1)⟩
  have hb6 : Nums w6 (Plus O4 w5 w6) .u8 vb D5.seen := by
    obtain ⟨A, c, e, hl, hs⟩ := hb
    exact ⟨A, c, e, hl, hs.mono (fun b h1 h2 => .inr ⟨h1, h2⟩)⟩
  have s26 : Sl w6 (Plus O4 w5 w6) 1 C two.length (two.map (Value.int .i64)) := (s25.non f6).mono (fun b h _ => .inl h)
  have hO6 : ∀ b, b < w.heap.size → Plus O4 w5 w6 b := fun b h => .inl (HO4.out b h)
  generalize Plus O4 w5 w6 = O6 at *
  have HO6 := hide hO6
  clear hd5 F5 ha5 hb f6 s25 hO6 hlb
  go_wp2_with fail
  refine (crash_has C two.length cc two hok5 rfl hp5 s26 hd6).mono ?_
  rintro e w7 ⟨rfl, hf7, hd7⟩
  have F7 := hf7.out_old HO6.out F6
  have ha7 := ha6.out hf7 (fun b h _ => h)
  have hb7 := hb6.out hf7 (fun b h _ => h)
  have hc7 := DS.crash_none HC5.out.2.2 two
  have hok7 := hok5.crash two
  have hn7 : (D5.crash two).n = 8 := HN5.out
  clear hd6 F6 ha6 hb6 s26 hf7 hp5
  generalize D5.crash two = D7 at *
  have HC7 := hide hc7
  have HN7 := hide hn7
  clear hc7 hn7
  go_wp2_with fail
  refine (all_has hok7 HN7.out hd7).mono ?_
  rintro e w8 ⟨vc, rfl, hc, hlc, f8⟩
  have hd8 := hd7.non f8
  have F8 := F7.trans f8
  have ha8 := ha7.non f8
  have hb8 := hb7.non f8
  clear hd7 F7 ha7 hb7 f8 hlc
  go_wp2_with fail
  refine (pending_has hd8).mono ?_
  rintro e w9 ⟨rfl, rfl⟩
  rw [HC7.out.2.2]
  have e1 : D3.seen = D5.seen := by rw [HC5.out.1, HI.out.2.2.2.2.1, HI.out.2.2.2.2.2]
  have e2 : D5.seen = D7.seen := by rw [HC5.out.1, HC7.out.1, HC5.out.2.1]
  have E1 := hide e1
  have E2 := hide e2
  clear e1 e2 hd8
  go_wp2_with fail
  refine (same_any va vb _ _ _ _ _ ha8 hb8).mono ?_
  rintro e w10 ⟨rfl, f10⟩
  rw [decide_eq_true E1.out]
  have F10 := F8.trans f10
  have hb10 := hb8.non f10
  have hc10 := hc.non f10
  have ha10 := ha8.non f10
  clear F8 ha8 hb8 hc f10
  go_wp2_with fail
  refine (same_any vb vc _ _ _ _ _ hb10 hc10).mono ?_
  rintro e w11 ⟨rfl, f11⟩
  rw [decide_eq_true E2.out]
  have F11 := F10.trans f11
  obtain ⟨A9, c9, rfl, hl9, _⟩ := ha10
  rw [HL.out]
  clear F10 hb10 hc10 f11 hl9
  go_wp2_with fail
  go_ret
  exact ⟨rfl, F11⟩

end Go.Proofs.Ythddgnnbgldfmaa
