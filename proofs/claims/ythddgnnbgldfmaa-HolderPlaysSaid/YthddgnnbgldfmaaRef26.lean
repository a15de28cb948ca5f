/- The contracts of the document's Holder (pursuivantref26). -/
import Derived.Test.YthddgnnbgldfmaaHolderS
namespace Go.Proofs.Ythddgnnbgldfmaa
open Go.RowKit

def rcells (s : HS) : Array Value :=
  #[.int .i64 (s.m 0), .int .i64 (s.m 1), .int .i64 (s.m 2), .int .i64 (s.m 3), .int .u64 (s.t 0), .int .u64 (s.t 1), .int .u64 (s.t 2), .int .u64 (s.t 3),
    .int .u64 (s.u 0), .int .u64 (s.u 1), .int .u64 (s.u 2), .int .u64 (s.u 3), .int .u64 (s.l 0), .int .u64 (s.l 1), .int .u64 (s.l 2), .int .u64 (s.l 3)]
def RefAt (w : World) (g : Nat) (s : HS) : Prop := Blk w g 40 (rcells s)

theorem rcells_m (s : HS) {r : Nat} (h : r < 4) : (rcells s)[r]? = some (.int .i64 (s.m r)) := by rcases lt4 h with rfl | rfl | rfl | rfl <;> rfl
theorem rcells_t (s : HS) {r : Nat} (h : r < 4) : (rcells s)[4 + r]? = some (.int .u64 (s.t r)) := by rcases lt4 h with rfl | rfl | rfl | rfl <;> rfl
theorem rcells_u (s : HS) {r : Nat} (h : r < 4) : (rcells s)[8 + r]? = some (.int .u64 (s.u r)) := by rcases lt4 h with rfl | rfl | rfl | rfl <;> rfl
theorem rcells_l (s : HS) {r : Nat} (h : r < 4) : (rcells s)[12 + r]? = some (.int .u64 (s.l r)) := by rcases lt4 h with rfl | rfl | rfl | rfl <;> rfl
theorem rcells_took (s : HS) {r : Nat} (h : r < 4) (m t u : Int) :
    ((((rcells s).setIfInBounds r (.int .i64 m)).setIfInBounds (4 + r) (.int .u64 t)).setIfInBounds (8 + r) (.int .u64 u)).setIfInBounds (12 + r) (.int .u64 t) = rcells (s.took r m t u) := by
  rcases lt4 h with rfl | rfl | rfl | rfl <;> rfl
theorem rcells_gone (s : HS) {r : Nat} (h : r < 4) :
    (((rcells s).setIfInBounds r (.int .i64 0)).setIfInBounds (4 + r) (.int .u64 0)).setIfInBounds (8 + r) (.int .u64 0) = rcells (s.gone r) := by
  rcases lt4 h with rfl | rfl | rfl | rfl <;> rfl

set_option maxHeartbeats 400000 in
theorem rtook_region {a : Value} (r m t u : Int) (w : World) (hr : r < 0 ∨ 4 ≤ r) :
    Calls Try.prog 15 #[a, .int .i64 r, .int .i64 m, .int .u64 t, .int .u64 u] w fun e w' => e = .returned (.int .i64 93) ∧ w = w' := by
  rcases hr with hr | hr
  all_goals
    go_enter Try.func15, Try.ntmps15
    go_wp2
    go_ret
    exact ⟨rfl, rfl⟩

set_option maxHeartbeats 400000 in
theorem rtook_mode {a : Value} (r m t u : Int) (w : World) (hr : 0 ≤ r) (hr' : r < 4) (h1' : m ≠ 1) (h2' : m ≠ 2) :
    Calls Try.prog 15 #[a, .int .i64 r, .int .i64 m, .int .u64 t, .int .u64 u] w fun e w' => e = .returned (.int .i64 91) ∧ w = w' := by
  have h1 := isN h1'
  have h2 := isN h2'
  clear h1' h2'
  go_enter Try.func15, Try.ntmps15
  go_wp2
  go_ret
  exact ⟨rfl, rfl⟩

set_option maxHeartbeats 400000 in
theorem rtook_token (g r : Nat) (m t u : Int) (s : HS) (w : World) (hr' : r < 4) (hm : m = 1 ∨ m = 2) (ht : t = 0 ∨ t < s.l r) (hb : RefAt w g s) :
    Calls Try.prog 15 #[.pointer (some ⟨g, 0, none⟩), .int .i64 r, .int .i64 m, .int .u64 t, .int .u64 u] w fun e w' => e = .returned (.int .i64 92) ∧ w = w' := by
  have h0 := (hb.cell (12 + r)).trans (rcells_l s hr')
  clear hb
  generalize s.l r = L at *
  by_cases htz : t = 0
  · subst htz
    clear ht
    rcases hm with rfl | rfl
    all_goals
      go_enter Try.func15, Try.ntmps15
      go_wp2
      go_ret
      exact ⟨rfl, rfl⟩
  · have htl : t < L := by omega
    have hf := isF htz
    clear ht htz
    rcases hm with rfl | rfl
    all_goals
      go_enter Try.func15, Try.ntmps15
      go_wp2
      go_ret
      exact ⟨rfl, rfl⟩

set_option maxHeartbeats 400000 in
theorem rtook_ok (g r : Nat) (m t u : Int) (s : HS) (w : World) (hr' : r < 4) (hm : m = 1 ∨ m = 2) (ht : 0 < t) (htl : s.l r ≤ t) (hb : RefAt w g s) :
    Calls Try.prog 15 #[.pointer (some ⟨g, 0, none⟩), .int .i64 r, .int .i64 m, .int .u64 t, .int .u64 u] w fun e w' => e = .returned (.int .i64 0) ∧ Fr (· = g) w w' ∧ RefAt w' g (s.took r m t u) := by
  have h0 := (hb.cell (12 + r)).trans (rcells_l s hr')
  have h1 := (hb.cell r).trans (rcells_m s hr')
  have h2 := (hb.cell (4 + r)).trans (rcells_t s hr')
  have h3 := (hb.cell (8 + r)).trans (rcells_u s hr')
  have f0 := hb.frozen (12 + r)
  have f1 := hb.frozen r
  have f2 := hb.frozen (4 + r)
  have f3 := hb.frozen (8 + r)
  have HB := hide hb
  clear hb
  generalize s.l r = L at *
  generalize s.m r = M at *
  generalize s.t r = T at *
  generalize s.u r = U at *
  have htf := isF (Int.ne_of_gt ht)
  rcases hm with rfl | rfl
  all_goals
    go_enter Try.func15, Try.ntmps15
    go_wp2
    go_ret
    refine ⟨rfl, ?_, ?_⟩
    · repeat (first | exact Fr.refl _ _ | refine Fr.drew ?_ | refine Fr.setCell ?_ (by intro _; rfl) _)
    · unfold RefAt
      rw [← rcells_took s hr']
      exact ((((Blk.set_ HB.out r _).set_ (4 + r) _).set_ (8 + r) _).set_ (12 + r) _)

theorem rtook_spec (g : Nat) (r m t u : Int) (s : HS) (w : World) (ht : 0 ≤ t) (hb : RefAt w g s) :
    Calls Try.prog 15 #[.pointer (some ⟨g, 0, none⟩), .int .i64 r, .int .i64 m, .int .u64 t, .int .u64 u] w fun e w' => e = .returned (.int .i64 (tookE s r m t)) ∧ Fr (· = g) w w' ∧ RefAt w' g (s.tookS r m t u) := by
  unfold HS.tookS tookE
  by_cases h1 : r < 0 ∨ 4 ≤ r
  · simp only [h1, if_true]
    exact (rtook_region r m t u w h1).mono fun e w' ⟨he, hw⟩ => ⟨he, hw ▸ Fr.refl _ _, by subst hw; exact hb⟩
  by_cases h2 : m ≠ 1 ∧ m ≠ 2
  · simp only [h1, h2, if_true, if_false, ne_eq, not_false_eq_true, and_self]
    exact (rtook_mode r m t u w (by omega) (by omega) h2.1 h2.2).mono fun e w' ⟨he, hw⟩ => ⟨he, hw ▸ Fr.refl _ _, by subst hw; exact hb⟩
  obtain ⟨n, rfl⟩ := Int.eq_ofNat_of_zero_le (show 0 ≤ r by omega)
  by_cases h3 : t = 0 ∨ t < s.l n
  · simp only [h1, h2, if_false, Int.toNat_natCast, h3, if_true]
    exact (rtook_token g n m t u s w (by omega) (by omega) h3 hb).mono fun e w' ⟨he, hw⟩ => ⟨he, hw ▸ Fr.refl _ _, by subst hw; exact hb⟩
  · simp only [h1, h2, if_false, Int.toNat_natCast, h3, if_true]
    exact rtook_ok g n m t u s w (by omega) (by omega) (by omega) (by omega) hb

set_option maxHeartbeats 400000 in
theorem rgone_out {a : Value} (r : Int) (w : World) (hr : r < 0 ∨ 4 ≤ r) :
    Calls Try.prog 17 #[a, .int .i64 r] w fun e w' => e = .returned (.tuple #[]) ∧ w = w' := by
  rcases hr with hr | hr
  · go_enter Try.func17, Try.ntmps17
    go_wp2
    go_end0
    exact ⟨rfl, rfl⟩
  · have hr0 : 0 ≤ r := by omega
    go_enter Try.func17, Try.ntmps17
    go_wp2
    go_end0
    exact ⟨rfl, rfl⟩

set_option maxHeartbeats 400000 in
theorem rgone_in (g r : Nat) (s : HS) (w : World) (hr' : r < 4) (hb : RefAt w g s) :
    Calls Try.prog 17 #[.pointer (some ⟨g, 0, none⟩), .int .i64 r] w fun e w' => e = .returned (.tuple #[]) ∧ Fr (· = g) w w' ∧ RefAt w' g (s.gone r) := by
  have h1 := (hb.cell r).trans (rcells_m s hr')
  have h2 := (hb.cell (4 + r)).trans (rcells_t s hr')
  have h3 := (hb.cell (8 + r)).trans (rcells_u s hr')
  have f1 := hb.frozen r
  have f2 := hb.frozen (4 + r)
  have f3 := hb.frozen (8 + r)
  have HB := hide hb
  clear hb
  generalize s.m r = M at *
  generalize s.t r = T at *
  generalize s.u r = U at *
  go_enter Try.func17, Try.ntmps17
  go_wp2
  go_end0
  refine ⟨rfl, ?_, ?_⟩
  · repeat (first | exact Fr.refl _ _ | refine Fr.drew ?_ | refine Fr.setCell ?_ (by intro _; rfl) _)
  · unfold RefAt
    rw [← rcells_gone s hr']
    exact (((Blk.set_ HB.out r _).set_ (4 + r) _).set_ (8 + r) _)

theorem rgone_spec (g : Nat) (r : Int) (s : HS) (w : World) (hb : RefAt w g s) :
    Calls Try.prog 17 #[.pointer (some ⟨g, 0, none⟩), .int .i64 r] w fun e w' => e = .returned (.tuple #[]) ∧ Fr (· = g) w w' ∧ RefAt w' g (s.goneS r) := by
  unfold HS.goneS
  by_cases hr : 0 ≤ r ∧ r < 4
  · obtain ⟨n, rfl⟩ := Int.eq_ofNat_of_zero_le hr.1
    simp only [hr, if_true, and_self, Int.toNat_natCast]
    exact rgone_in g n s w (by omega) hb
  · simp only [hr, if_false]
    exact (rgone_out r w (by omega)).mono fun e w' ⟨he, hw⟩ => ⟨he, hw ▸ Fr.refl _ _, by subst hw; exact hb⟩

def leftI (c u : Int) : Int := if u ≤ c then 0 else u - c

set_option maxHeartbeats 400000 in
theorem left_any (c u : Int) (w : World) (hc : 0 ≤ c) (hu : u ≤ 18446744073709551615) :
    Calls Try.prog 44 #[.int .u64 c, .int .u64 u] w fun e w' => e = .returned (.int .u64 (leftI c u)) ∧ w = w' := by
  unfold leftI
  by_cases h : u ≤ c
  · rw [if_pos h]
    go_enter Try.func44, Try.ntmps44
    go_wp2
    go_ret
    exact ⟨rfl, rfl⟩
  · rw [if_neg h]
    go_enter Try.func44, Try.ntmps44
    go_wp2
    go_ret
    exact ⟨rfl, rfl⟩

theorem bef_left3 {c u : Int} (hu : u ≤ 18446744073709551615) : befB c 3 u = decide (3 < leftI c u) := by
  unfold befB leftI; rw [Bool.eq_iff_iff]; split <;> simp <;> omega
theorem bef_left6 {c u : Int} (hu : u ≤ 18446744073709551615) : befB c 6 u = !decide (leftI c u ≤ 6) := by
  unfold befB leftI; rw [Bool.eq_iff_iff]; split <;> simp <;> omega

set_option maxHeartbeats 400000 in
theorem rbelieves_in (g r : Nat) (mode c : Int) (s : HS) (w : World) (hr' : r < 4) (hc : 0 ≤ c) (hu : s.u r ≤ 18446744073709551615) (hm : s.m r = 0 ∨ s.m r = 1 ∨ s.m r = 2) (hb : RefAt w g s) :
    Calls Try.prog 20 #[.pointer (some ⟨g, 0, none⟩), .int .i64 r, .int .i64 mode, .int .u64 c] w fun e w' => e = .returned (.bool (belB (s.m r) (s.u r) mode c)) ∧ w = w' := by
  have h1 := (hb.cell r).trans (rcells_m s hr')
  have h3 := (hb.cell (8 + r)).trans (rcells_u s hr')
  clear hb
  unfold belB
  rw [bef_left3 hu]
  generalize s.m r = M at *
  generalize s.u r = U at *
  have LC := hide (left_any c U w hc hu)
  generalize leftI c U = q at *
  rcases hm with rfl | rfl | rfl
  · go_enter Try.func20, Try.ntmps20
    go_wp2
    go_ret
    exact ⟨rfl, rfl⟩
  · by_cases h : mode = 1
    · subst h
      go_enter Try.func20, Try.ntmps20
      go_wp2_with (go_at_call 44; refine LC.out.mono ?_; rintro e w' ⟨rfl, rfl⟩)
      go_ret
      exact ⟨by simp, rfl⟩
    · have hf := isF (show (1 : Int) ≠ mode by omega)
      have hn := isN (show (1 : Int) ≠ mode by omega)
      clear h
      go_enter Try.func20, Try.ntmps20
      go_wp2_with (go_at_call 44; refine LC.out.mono ?_; rintro e w' ⟨rfl, rfl⟩)
      go_ret
      exact ⟨by rw [hf]; simp, rfl⟩
  · go_enter Try.func20, Try.ntmps20
    go_wp2_with (go_at_call 44; refine LC.out.mono ?_; rintro e w' ⟨rfl, rfl⟩)
    all_goals go_ret
    all_goals exact ⟨by simp, rfl⟩

set_option maxHeartbeats 400000 in
theorem rbelieves_out {a : Value} (r mode c : Int) (w : World) (hr : r < 0 ∨ 4 ≤ r) :
    Calls Try.prog 20 #[a, .int .i64 r, .int .i64 mode, .int .u64 c] w fun e w' => e = .returned (.bool false) ∧ w = w' := by
  rcases hr with hr | hr
  all_goals
    go_enter Try.func20, Try.ntmps20
    go_wp2
    go_ret
    exact ⟨rfl, rfl⟩

set_option maxHeartbeats 400000 in
theorem rrenews_in (g r : Nat) (c : Int) (s : HS) (w : World) (hr' : r < 4) (hc : 0 ≤ c) (hu : s.u r ≤ 18446744073709551615) (hb : RefAt w g s) :
    Calls Try.prog 19 #[.pointer (some ⟨g, 0, none⟩), .int .i64 r, .int .u64 c] w fun e w' => e = .returned (.bool (renB (s.m r) (s.u r) c)) ∧ w = w' := by
  have h1 := (hb.cell r).trans (rcells_m s hr')
  have h3 := (hb.cell (8 + r)).trans (rcells_u s hr')
  clear hb
  unfold renB
  rw [bef_left6 hu]
  generalize s.m r = M at *
  generalize s.u r = U at *
  have LC := hide (left_any c U w hc hu)
  generalize leftI c U = q at *
  by_cases hm : M = 0
  · subst hm
    go_enter Try.func19, Try.ntmps19
    go_wp2
    go_ret
    exact ⟨rfl, rfl⟩
  · have hn := isN hm
    rw [decide_eq_true hm]
    clear hm
    go_enter Try.func19, Try.ntmps19
    go_wp2_with (go_at_call 44; refine LC.out.mono ?_; rintro e w' ⟨rfl, rfl⟩)
    go_ret
    exact ⟨by simp, rfl⟩

set_option maxHeartbeats 400000 in
theorem rrenews_out {a : Value} (r c : Int) (w : World) (hr : r < 0 ∨ 4 ≤ r) :
    Calls Try.prog 19 #[a, .int .i64 r, .int .u64 c] w fun e w' => e = .returned (.bool false) ∧ w = w' := by
  rcases hr with hr | hr
  · go_enter Try.func19, Try.ntmps19
    go_wp2
    go_ret
    exact ⟨rfl, rfl⟩
  · have h0 : 0 ≤ r := by omega
    go_enter Try.func19, Try.ntmps19
    go_wp2
    go_ret
    exact ⟨rfl, rfl⟩

/-- the times fit, and so do the tokens -/
def HS.fits (s : HS) : Prop := ∀ r, r < 4 → s.u r ≤ 18446744073709551615

theorem rbelieves_spec (g : Nat) (r mode c : Int) (s : HS) (w : World) (hc : 0 ≤ c) (hs : s.ok) (hf : s.fits) (hb : RefAt w g s) :
    Calls Try.prog 20 #[.pointer (some ⟨g, 0, none⟩), .int .i64 r, .int .i64 mode, .int .u64 c] w fun e w' => e = .returned (.bool (belB (s.mA r) (s.uA r) mode c)) ∧ w = w' := by
  unfold HS.mA HS.uA
  by_cases hr : 0 ≤ r ∧ r < 4
  · obtain ⟨n, rfl⟩ := Int.eq_ofNat_of_zero_le hr.1
    simp only [hr, if_true, and_self, Int.toNat_natCast]
    have h4 : n < 4 := by omega
    exact rbelieves_in g n mode c s w h4 hc (hf n h4) (by have := hs n h4; unfold okHold at this; omega) hb
  · simp only [hr, if_false]
    exact rbelieves_out r mode c w (by omega)
theorem rrenews_spec (g : Nat) (r c : Int) (s : HS) (w : World) (hc : 0 ≤ c) (hf : s.fits) (hb : RefAt w g s) :
    Calls Try.prog 19 #[.pointer (some ⟨g, 0, none⟩), .int .i64 r, .int .u64 c] w fun e w' => e = .returned (.bool (renB (s.mA r) (s.uA r) c)) ∧ w = w' := by
  unfold HS.mA HS.uA
  by_cases hr : 0 ≤ r ∧ r < 4
  · obtain ⟨n, rfl⟩ := Int.eq_ofNat_of_zero_le hr.1
    simp only [hr, if_true, and_self, Int.toNat_natCast]
    have h4 : n < 4 := by omega
    exact rrenews_in g n c s w h4 hc (hf n h4) hb
  · simp only [hr, if_false]
    exact rrenews_out r c w (by omega)

theorem HS.fits.took {s : HS} (h : s.fits) (r m t u : Int) (hu : u ≤ 18446744073709551615) : (s.tookS r m t u).fits := by
  unfold HS.tookS
  split
  · intro k hk
    simp only [HS.took, setAt]
    split
    · exact hu
    · exact h k hk
  · exact h
theorem HS.fits.gone {s : HS} (h : s.fits) (r : Int) : (s.goneS r).fits := by
  unfold HS.goneS
  split
  · intro k hk
    simp only [HS.gone, setAt]
    split
    · omega
    · exact h k hk
  · exact h

end Go.Proofs.Ythddgnnbgldfmaa
