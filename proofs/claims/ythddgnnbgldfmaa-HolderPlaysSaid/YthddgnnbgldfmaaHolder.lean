/- The contracts of package holder: what each method answers, and how it changes the one block of a Holder. -/
import Derived.Test.YthddgnnbgldfmaaRows
import Derived.Test.YthddgnnbgldfmaaBase
namespace Go.Proofs.Ythddgnnbgldfmaa
open Go.RowKit

/-- what a Holder has of each region: mode, token, until, last token -/
structure HS where
  m : Nat → Int
  t : Nat → Int
  u : Nat → Int
  l : Nat → Int

def hcells (s : HS) : Array Value :=
  #[.int .i64 (s.m 0), .int .u64 (s.t 0), .int .u64 (s.u 0), .int .i64 (s.m 1), .int .u64 (s.t 1), .int .u64 (s.u 1),
    .int .i64 (s.m 2), .int .u64 (s.t 2), .int .u64 (s.u 2), .int .i64 (s.m 3), .int .u64 (s.t 3), .int .u64 (s.u 3),
    .int .u64 (s.l 0), .int .u64 (s.l 1), .int .u64 (s.l 2), .int .u64 (s.l 3)]

def HolderAt (w : World) (g : Nat) (s : HS) : Prop := Blk w g 30 (hcells s)

theorem lt4 {r : Nat} (h : r < 4) : r = 0 ∨ r = 1 ∨ r = 2 ∨ r = 3 := by omega

theorem hcells_m (s : HS) {r : Nat} (h : r < 4) : (hcells s)[r * 3]? = some (.int .i64 (s.m r)) := by rcases lt4 h with rfl | rfl | rfl | rfl <;> rfl
theorem hcells_t (s : HS) {r : Nat} (h : r < 4) : (hcells s)[r * 3 + 1]? = some (.int .u64 (s.t r)) := by rcases lt4 h with rfl | rfl | rfl | rfl <;> rfl
theorem hcells_u (s : HS) {r : Nat} (h : r < 4) : (hcells s)[r * 3 + 2]? = some (.int .u64 (s.u r)) := by rcases lt4 h with rfl | rfl | rfl | rfl <;> rfl
theorem hcells_l (s : HS) {r : Nat} (h : r < 4) : (hcells s)[12 + r]? = some (.int .u64 (s.l r)) := by rcases lt4 h with rfl | rfl | rfl | rfl <;> rfl

def setAt (f : Nat → Int) (r : Nat) (x : Int) : Nat → Int := fun i => if i = r then x else f i

def HS.took (s : HS) (r : Nat) (m t u : Int) : HS := ⟨setAt s.m r m, setAt s.t r t, setAt s.u r u, setAt s.l r t⟩
def HS.gone (s : HS) (r : Nat) : HS := ⟨setAt s.m r 0, setAt s.t r 0, setAt s.u r 0, s.l⟩

theorem hcells_took (s : HS) {r : Nat} (h : r < 4) (m t u : Int) :
    ((((hcells s).setIfInBounds (r * 3) (.int .i64 m)).setIfInBounds (r * 3 + 1) (.int .u64 t)).setIfInBounds (r * 3 + 2) (.int .u64 u)).setIfInBounds (12 + r) (.int .u64 t) = hcells (s.took r m t u) := by
  rcases lt4 h with rfl | rfl | rfl | rfl <;> rfl
theorem hcells_gone (s : HS) {r : Nat} (h : r < 4) :
    ((((hcells s).setIfInBounds (r * 3) (.int .i64 0)).setIfInBounds (r * 3 + 1) (.int .u64 0)).setIfInBounds (r * 3 + 2) (.int .u64 0)) = hcells (s.gone r) := by
  rcases lt4 h with rfl | rfl | rfl | rfl <;> rfl

/-- is a clock, and so much more, below a time, and no overflow? -/
def befB (c m u : Int) : Bool := decide (c + m ≤ 18446744073709551615 ∧ c + m < u)

theorem u64_add (c m : Int) (hc : 0 ≤ c) (hc' : c ≤ 18446744073709551615) (hm : 0 ≤ m) (hm' : m ≤ 6) :
    IntKind.u64.wrap (c + m) = if c + m ≤ 18446744073709551615 then c + m else c + m - 18446744073709551616 := by
  simp only [IntKind.wrap, IntKind.bits, IntKind.signed, Bool.false_and, Bool.false_eq_true, if_false]
  split <;> omega

set_option maxHeartbeats 400000 in
theorem before_any (c m u : Int) (w : World) (hc : 0 ≤ c) (hc' : c ≤ 18446744073709551615) (hm : 0 ≤ m) (hm' : m ≤ 6) :
    Calls Try.prog 43 #[.int .u64 c, .int .u64 m, .int .u64 u] w fun e w' => e = .returned (.bool (befB c m u)) ∧ w = w' := by
  have h := u64_add c m hc hc' hm hm'
  have h2 : (decide (c ≤ IntKind.u64.wrap (c + m)) && decide (IntKind.u64.wrap (c + m) < u)) = befB c m u := by
    rw [h, befB, ← Bool.decide_and]; congr 1; split <;> simp <;> omega
  clear h
  generalize befB c m u = r at *
  have H := hide h2
  clear h2 hc'
  go_enter Try.func43, Try.ntmps43
  go_wp2
  all_goals go_ret
  all_goals refine ⟨?_, rfl⟩
  all_goals rw [← H.out]
  · simp_all
  · simp; omega

set_option maxHeartbeats 400000 in
theorem at_in (g r : Nat) (s : HS) (w : World) (hr : r < 4) (hb : HolderAt w g s) :
    Calls Try.prog 42 #[.pointer (some ⟨g, 0, none⟩), .int .i64 r] w fun e w' => e = .returned (.agg #[.int .i64 (s.m r), .int .u64 (s.t r), .int .u64 (s.u r)]) ∧ Fr Non w w' := by
  have h0 := (hb.cell (r * 3)).trans (hcells_m s hr)
  have h1 := (hb.cell (r * 3 + 1)).trans (hcells_t s hr)
  have h2 := (hb.cell (r * 3 + 2)).trans (hcells_u s hr)
  have hg := hb.lt
  clear hb
  go_enter Try.func42, Try.ntmps42
  go_wp2
  refine bodyPost_ret (v := .agg #[.int .i64 (s.m r), .int .u64 (s.t r), .int .u64 (s.u r)]) (by simp [results, Try.results42, go_sem]) rfl ⟨rfl, ?_⟩
  exact (Fr.refl _ _).alloc _

set_option maxHeartbeats 400000 in
theorem at_out (g : Nat) (r : Int) (w : World) (hr : r < 0 ∨ 4 ≤ r) :
    Calls Try.prog 42 #[.pointer (some ⟨g, 0, none⟩), .int .i64 r] w fun e w' => e = .returned (.agg #[.int .i64 0, .int .u64 0, .int .u64 0]) ∧ Fr Non w w' := by
  rcases hr with hr | hr
  all_goals
    go_enter Try.func42, Try.ntmps42
    go_wp2
    refine bodyPost_ret (v := .agg #[.int .i64 0, .int .u64 0, .int .u64 0]) (by simp [results, Try.results42, go_sem]) rfl ⟨rfl, ?_⟩
    exact (Fr.refl _ _).alloc _

/-- is a hold none, or one with a mode and a token? -/
def okHold (M T U : Int) : Prop := (M = 0 ∧ T = 0 ∧ U = 0) ∨ ((M = 1 ∨ M = 2) ∧ 0 < T)
def HS.ok (s : HS) : Prop := ∀ r, r < 4 → okHold (s.m r) (s.t r) (s.u r)

/-- does a client believe? -/
def belB (M U mode c : Int) : Bool := decide (M ≠ 0) && ((M == mode) || (M == 2)) && befB c 3 U
/-- is it time to renew? -/
def renB (M U c : Int) : Bool := decide (M ≠ 0) && !befB c 6 U


set_option maxHeartbeats 400000 in
theorem believes_of {a r : Value} (M T U mode c : Int) (w : World) (hc : 0 ≤ c) (hc' : c ≤ 18446744073709551615) (hs : okHold M T U)
    (hat : Calls Try.prog 42 #[a, r] w fun e w' => e = .returned (.agg #[.int .i64 M, .int .u64 T, .int .u64 U]) ∧ Fr Non w w') :
    Calls Try.prog 13 #[a, r, .int .i64 mode, .int .u64 c] w fun e w' => e = .returned (.bool (belB M U mode c)) ∧ Fr Non w w' := by
  have H := hide hat
  clear hat
  rcases hs with ⟨rfl, rfl, rfl⟩ | ⟨rfl | rfl, hT⟩
  · go_enter Try.func13, Try.ntmps13
    go_wp2_with (go_at_call 42; refine H.out.mono ?_; rintro e w1 ⟨rfl, h1⟩)
    go_ret
    exact ⟨rfl, h1.alloc _⟩
  all_goals
    have hT' := isF (Int.ne_of_gt hT)
    have BF := hide (before_any c 3 U)
    have hb1 : befB c 3 U = befB c 3 U := rfl
    generalize hQ : befB c 3 U = q at BF
    have HQ := hide hQ
    clear hQ hb1 hT
    by_cases hm : mode = 1 <;> by_cases hm2 : mode = 2
    all_goals (try (exfalso; omega))
    all_goals (try subst hm)
    all_goals (try subst hm2)
    all_goals
      go_enter Try.func13, Try.ntmps13
      go_wp2_with (first | (go_at_call 42; refine H.out.mono ?_; rintro e w1 ⟨rfl, h1⟩) | (go_at_call 43; refine (BF.out _ hc hc' (by omega) (by omega)).mono ?_; rintro e w2 ⟨rfl, rfl⟩))
      go_ret
      refine ⟨?_, h1.alloc _⟩
      try rw [← HQ.out]
      simp [belB] <;> omega

set_option maxHeartbeats 400000 in
theorem renews_of {a r : Value} (M T U c : Int) (w : World) (hc : 0 ≤ c) (hc' : c ≤ 18446744073709551615) (hs : okHold M T U)
    (hat : Calls Try.prog 42 #[a, r] w fun e w' => e = .returned (.agg #[.int .i64 M, .int .u64 T, .int .u64 U]) ∧ Fr Non w w') :
    Calls Try.prog 14 #[a, r, .int .u64 c] w fun e w' => e = .returned (.bool (renB M U c)) ∧ Fr Non w w' := by
  have H := hide hat
  clear hat
  rcases hs with ⟨rfl, rfl, rfl⟩ | ⟨hM, hT⟩
  · go_enter Try.func14, Try.ntmps14
    go_wp2_with (go_at_call 42; refine H.out.mono ?_; rintro e w1 ⟨rfl, h1⟩)
    go_ret
    exact ⟨rfl, h1.alloc _⟩
  · have hM' := isF (show M ≠ 0 by omega)
    have BF := hide (before_any c 6 U)
    generalize hQ : befB c 6 U = q at BF
    have HQ := hide hQ
    have HM := hide hM
    clear hQ hT hM
    go_enter Try.func14, Try.ntmps14
    go_wp2_with (first | (go_at_call 42; refine H.out.mono ?_; rintro e w1 ⟨rfl, h1⟩) | (go_at_call 43; refine (BF.out _ hc hc' (by omega) (by omega)).mono ?_; rintro e w2 ⟨rfl, rfl⟩))
    go_ret
    refine ⟨?_, h1.alloc _⟩
    rw [renB, HQ.out, decide_eq_true (by have := HM.out; omega), Bool.true_and]
    rfl

set_option maxHeartbeats 400000 in
theorem token_of {a r : Value} (M T U : Int) (w : World)
    (hat : Calls Try.prog 42 #[a, r] w fun e w' => e = .returned (.agg #[.int .i64 M, .int .u64 T, .int .u64 U]) ∧ Fr Non w w') :
    Calls Try.prog 18 #[a, r] w fun e w' => e = .returned (.int .u64 T) ∧ Fr Non w w' := by
  have H := hide hat
  clear hat
  have hfd : ∀ w : World, (Instr.field 26 (.agg #[.int .i64 M, .int .u64 T, .int .u64 U]) 1).run Try.prog w = .ok (.int .u64 T) w := fun _ => by kernel_rfl
  go_enter Try.func18, Try.ntmps18
  go_wp2_with (go_at_call 42; refine H.out.mono ?_; rintro e w1 ⟨rfl, h1⟩)
  go_ret
  exact ⟨rfl, h1⟩

def tookE (s : HS) (r m t : Int) : Int :=
  if r < 0 ∨ 4 ≤ r then 93 else if m ≠ 1 ∧ m ≠ 2 then 91 else if t = 0 ∨ t < s.l r.toNat then 92 else 0

set_option maxHeartbeats 400000 in
theorem took_region {a : Value} (r m t u : Int) (w : World) (hr : r < 0 ∨ 4 ≤ r) :
    Calls Try.prog 12 #[a, .int .i64 r, .int .i64 m, .int .u64 t, .int .u64 u] w fun e w' => e = .returned (.int .i64 93) ∧ w = w' := by
  rcases hr with hr | hr
  all_goals
    go_enter Try.func12, Try.ntmps12
    go_wp2
    go_ret
    exact ⟨rfl, rfl⟩

set_option maxHeartbeats 400000 in
theorem took_mode {a : Value} (r m t u : Int) (w : World) (hr : 0 ≤ r) (hr' : r < 4) (h1' : m ≠ 1) (h2' : m ≠ 2) :
    Calls Try.prog 12 #[a, .int .i64 r, .int .i64 m, .int .u64 t, .int .u64 u] w fun e w' => e = .returned (.int .i64 91) ∧ w = w' := by
  have h1 := isN h1'
  have h2 := isN h2'
  clear h1' h2'
  go_enter Try.func12, Try.ntmps12
  go_wp2
  go_ret
  exact ⟨rfl, rfl⟩

set_option maxHeartbeats 400000 in
theorem took_token (g r : Nat) (m t u : Int) (s : HS) (w : World) (hr' : r < 4) (hm : m = 1 ∨ m = 2) (ht : t = 0 ∨ t < s.l r) (ht0 : 0 ≤ t) (hb : HolderAt w g s) :
    Calls Try.prog 12 #[.pointer (some ⟨g, 0, none⟩), .int .i64 r, .int .i64 m, .int .u64 t, .int .u64 u] w fun e w' => e = .returned (.int .i64 92) ∧ w = w' := by
  have h0 := (hb.cell (12 + r)).trans (hcells_l s hr')
  clear hb
  generalize s.l r = L at *
  by_cases htz : t = 0
  · subst htz
    clear ht
    rcases hm with rfl | rfl
    all_goals
      go_enter Try.func12, Try.ntmps12
      go_wp2
      go_ret
      exact ⟨rfl, rfl⟩
  · have htl : t < L := by omega
    have hf := isF htz
    clear ht htz
    rcases hm with rfl | rfl
    all_goals
      go_enter Try.func12, Try.ntmps12
      go_wp2
      go_ret
      exact ⟨rfl, rfl⟩

set_option maxHeartbeats 400000 in
theorem took_ok (g r : Nat) (m t u : Int) (s : HS) (w : World) (hr' : r < 4) (hm : m = 1 ∨ m = 2) (ht : 0 < t) (htl : s.l r ≤ t) (hb : HolderAt w g s) :
    Calls Try.prog 12 #[.pointer (some ⟨g, 0, none⟩), .int .i64 r, .int .i64 m, .int .u64 t, .int .u64 u] w fun e w' => e = .returned (.int .i64 0) ∧ Fr (· = g) w w' ∧ HolderAt w' g (s.took r m t u) := by
  have h0 := (hb.cell (12 + r)).trans (hcells_l s hr')
  have h1 := (hb.cell (r * 3)).trans (hcells_m s hr')
  have h2 := (hb.cell (r * 3 + 1)).trans (hcells_t s hr')
  have h3 := (hb.cell (r * 3 + 2)).trans (hcells_u s hr')
  have f0 := hb.frozen (12 + r)
  have f1 := hb.frozen (r * 3)
  have f2 := hb.frozen (r * 3 + 1)
  have f3 := hb.frozen (r * 3 + 2)
  have HB := hide hb
  clear hb
  generalize s.l r = L at *
  generalize s.m r = M at *
  generalize s.t r = T at *
  generalize s.u r = U at *
  have htf := isF (Int.ne_of_gt ht)
  rcases hm with rfl | rfl
  all_goals
    go_enter Try.func12, Try.ntmps12
    go_wp2
    go_region
    all_goals go_wp2
    all_goals go_ret
    refine ⟨rfl, ?_, ?_⟩
    · repeat (first | exact Fr.refl _ _ | refine Fr.drew ?_ | refine Fr.setCell ?_ (by intro _; rfl) _)
    · unfold HolderAt
      rw [← hcells_took s hr']
      exact ((((Blk.set_ HB.out (r * 3) _).set_ (r * 3 + 1) _).set_ (r * 3 + 2) _).set_ (12 + r) _).drew

set_option maxHeartbeats 400000 in
theorem gone_out {a : Value} (r : Int) (w : World) (hr : r < 0 ∨ 4 ≤ r) :
    Calls Try.prog 16 #[a, .int .i64 r] w fun e w' => e = .returned (.tuple #[]) ∧ w = w' := by
  rcases hr with hr | hr
  · go_enter Try.func16, Try.ntmps16
    go_wp2
    go_end0
    exact ⟨rfl, rfl⟩
  · have hr0 : 0 ≤ r := by omega
    go_enter Try.func16, Try.ntmps16
    go_wp2
    go_end0
    exact ⟨rfl, rfl⟩

set_option maxHeartbeats 400000 in
theorem gone_in (g r : Nat) (s : HS) (w : World) (hr' : r < 4) (hb : HolderAt w g s) :
    Calls Try.prog 16 #[.pointer (some ⟨g, 0, none⟩), .int .i64 r] w fun e w' => e = .returned (.tuple #[]) ∧ Fr (· = g) w w' ∧ HolderAt w' g (s.gone r) := by
  have h1 := (hb.cell (r * 3)).trans (hcells_m s hr')
  have h2 := (hb.cell (r * 3 + 1)).trans (hcells_t s hr')
  have h3 := (hb.cell (r * 3 + 2)).trans (hcells_u s hr')
  have f1 := hb.frozen (r * 3)
  have f2 := hb.frozen (r * 3 + 1)
  have f3 := hb.frozen (r * 3 + 2)
  have HB := hide hb
  clear hb
  generalize s.m r = M at *
  generalize s.t r = T at *
  generalize s.u r = U at *
  go_enter Try.func16, Try.ntmps16
  go_wp2
  go_end0
  refine ⟨rfl, ?_, ?_⟩
  · repeat (first | exact Fr.refl _ _ | refine Fr.drew ?_ | refine Fr.setCell ?_ (by intro _; rfl) _)
  · unfold HolderAt
    rw [← hcells_gone s hr']
    exact (((Blk.set_ HB.out (r * 3) _).set_ (r * 3 + 1) _).set_ (r * 3 + 2) _)

end Go.Proofs.Ythddgnnbgldfmaa
