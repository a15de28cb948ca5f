/- Holders: the contracts of package holder over a block of resources, at any offset. -/
import Derived.Test.YtbgknfdaaffeaaaLkW
namespace Go.Proofs.Ytbgknfdaaffeaaa
open Go.RowKit

/-- what a Holder has of each region: mode, token, until, last token -/
structure HS where
  m : Nat → Int
  t : Nat → Int
  u : Nat → Int
  l : Nat → Int

def hcells (s : HS) : Array Value :=
  #[.int .i64 (s.m 0), .int .u64 (s.t 0), .int .u64 (s.u 0), .int .i64 (s.m 1), .int .u64 (s.t 1), .int .u64 (s.u 1),
    .int .i64 (s.m 2), .int .u64 (s.t 2), .int .u64 (s.u 2), .int .i64 (s.m 3), .int .u64 (s.t 3), .int .u64 (s.u 3),
    .int .u64 (s.l 0), .int .u64 (s.l 1), .int .u64 (s.l 2), .int .u64 (s.l 3)]

/-- a Holder lies in a block from an offset on -/
def HolIn (cs : Array Value) (o : Nat) (s : HS) : Prop := ∀ j, j < 16 → cs[o + j]? = (hcells s)[j]?
theorem lt4 {r : Nat} (h : r < 4) : r = 0 ∨ r = 1 ∨ r = 2 ∨ r = 3 := by omega

theorem hcells_m (s : HS) {r : Nat} (h : r < 4) : (hcells s)[r * 3]? = some (.int .i64 (s.m r)) := by rcases lt4 h with rfl | rfl | rfl | rfl <;> rfl
theorem hcells_t (s : HS) {r : Nat} (h : r < 4) : (hcells s)[r * 3 + 1]? = some (.int .u64 (s.t r)) := by rcases lt4 h with rfl | rfl | rfl | rfl <;> rfl
theorem hcells_u (s : HS) {r : Nat} (h : r < 4) : (hcells s)[r * 3 + 2]? = some (.int .u64 (s.u r)) := by rcases lt4 h with rfl | rfl | rfl | rfl <;> rfl
theorem hcells_l (s : HS) {r : Nat} (h : r < 4) : (hcells s)[12 + r]? = some (.int .u64 (s.l r)) := by rcases lt4 h with rfl | rfl | rfl | rfl <;> rfl

def setAt (f : Nat → Int) (r : Nat) (x : Int) : Nat → Int := fun i => if i = r then x else f i

def HS.took (s : HS) (r : Nat) (m t u : Int) : HS := ⟨setAt s.m r m, setAt s.t r t, setAt s.u r u, setAt s.l r t⟩
def HS.gone (s : HS) (r : Nat) : HS := ⟨setAt s.m r 0, setAt s.t r 0, setAt s.u r 0, s.l⟩

def tookC (cs : Array Value) (o r : Nat) (m t u : Int) : Array Value :=
  (((cs.setIfInBounds (o + r * 3) (.int .i64 m)).setIfInBounds (o + r * 3 + 1) (.int .u64 t)).setIfInBounds (o + r * 3 + 2) (.int .u64 u)).setIfInBounds (o + 12 + r) (.int .u64 t)
def goneC (cs : Array Value) (o r : Nat) : Array Value :=
  ((cs.setIfInBounds (o + r * 3) (.int .i64 0)).setIfInBounds (o + r * 3 + 1) (.int .u64 0)).setIfInBounds (o + r * 3 + 2) (.int .u64 0)
/-- is a clock, and so much more, below a time, and no overflow? -/
def befB (c m u : Int) : Bool := decide (c + m ≤ 18446744073709551615 ∧ c + m < u)

theorem u64_add (c m : Int) (hc : 0 ≤ c) (hc' : c ≤ 18446744073709551615) (hm : 0 ≤ m) (hm' : m ≤ 6) :
    IntKind.u64.wrap (c + m) = if c + m ≤ 18446744073709551615 then c + m else c + m - 18446744073709551616 := by
  simp only [IntKind.wrap, IntKind.bits, IntKind.signed, Bool.false_and, Bool.false_eq_true, if_false]
  split <;> omega

set_option maxHeartbeats 400000 in
theorem before_any (c m u : Int) (w : World) (hc : 0 ≤ c) (hc' : c ≤ 18446744073709551615) (hm : 0 ≤ m) (hm' : m ≤ 6) :
    Calls Try.prog 104 #[.int .u64 c, .int .u64 m, .int .u64 u] w fun e w' => e = .returned (.bool (befB c m u)) ∧ w = w' := by
  have h := u64_add c m hc hc' hm hm'
  have h2 : (decide (c ≤ IntKind.u64.wrap (c + m)) && decide (IntKind.u64.wrap (c + m) < u)) = befB c m u := by
    rw [h, befB, ← Bool.decide_and]; congr 1; split <;> simp <;> omega
  clear h
  generalize befB c m u = r at *
  have H := hide h2
  clear h2 hc'
  go_enter Try.func104, Try.ntmps104
  go_wp2
  all_goals go_ret
  all_goals refine ⟨?_, rfl⟩
  all_goals rw [← H.out]
  · simp_all
  · simp; omega

section
variable {M0 : Imm} {L : List Res} {g o : Nat} {t : TypeId} {cs : Array Value} {s : HS}
theorem HolIn.cm (hc : HolIn cs o s) {r : Nat} (h : r < 4) : cs[o + r * 3]? = some (.int .i64 (s.m r)) := (hc (r * 3) (by omega)).trans (hcells_m s h)
theorem HolIn.ct (hc : HolIn cs o s) {r : Nat} (h : r < 4) : cs[o + r * 3 + 1]? = some (.int .u64 (s.t r)) := (hc (r * 3 + 1) (by omega)).trans (hcells_t s h)
theorem HolIn.cu (hc : HolIn cs o s) {r : Nat} (h : r < 4) : cs[o + r * 3 + 2]? = some (.int .u64 (s.u r)) := (hc (r * 3 + 2) (by omega)).trans (hcells_u s h)
theorem HolIn.cl (hc : HolIn cs o s) {r : Nat} (h : r < 4) : cs[o + 12 + r]? = some (.int .u64 (s.l r)) := by
  have h1 := (hc (12 + r) (by omega)).trans (hcells_l s h)
  rwa [← Nat.add_assoc] at h1
/-- what is held of any region -/
def HS.mA (s : HS) (r : Int) : Int := if 0 ≤ r ∧ r < 4 then s.m r.toNat else 0
def HS.tA (s : HS) (r : Int) : Int := if 0 ≤ r ∧ r < 4 then s.t r.toNat else 0
def HS.uA (s : HS) (r : Int) : Int := if 0 ≤ r ∧ r < 4 then s.u r.toNat else 0
set_option maxHeartbeats 400000 in
theorem at_st (r : Int) (w : World) (hc : HolIn cs o s) (h : St M0 w (blkR g t cs :: L)) :
    Calls Try.prog 92 #[.pointer (some ⟨g, o, none⟩), .int .i64 r] w fun e w' => e = .returned (.agg #[.int .i64 (s.mA r), .int .u64 (s.tA r), .int .u64 (s.uA r)]) ∧ St M0 w' (blkR g t cs :: L) := by
  have H := hide h
  have hb := h.blk 0 rfl
  clear h
  by_cases hr : 0 ≤ r ∧ r < 4
  · obtain ⟨n, rfl⟩ := Int.eq_ofNat_of_zero_le hr.1
    have hn : n < 4 := by omega
    have em : s.mA (n : Int) = s.m n := by unfold HS.mA; rw [if_pos hr]; rfl
    have et : s.tA (n : Int) = s.t n := by unfold HS.tA; rw [if_pos hr]; rfl
    have eu : s.uA (n : Int) = s.u n := by unfold HS.uA; rw [if_pos hr]; rfl
    rw [em, et, eu]
    have h0 := (hb.cell (o + n * 3)).trans (hc.cm hn)
    have h1 := (hb.cell (o + n * 3 + 1)).trans (hc.ct hn)
    have h2 := (hb.cell (o + n * 3 + 2)).trans (hc.cu hn)
    have hg := hb.lt
    clear hb hc em et eu
    generalize s.m n = A at *
    generalize s.t n = B at *
    generalize s.u n = C at *
    go_enter Try.func92, Try.ntmps92
    go_wp2_with fail
    refine bodyPost_ret (v := .agg #[.int .i64 A, .int .u64 B, .int .u64 C]) (by simp [results, Try.results92, go_sem]) rfl ⟨rfl, ?_⟩
    exact H.out.junk _
  · have em : s.mA r = 0 := by unfold HS.mA; rw [if_neg hr]
    have et : s.tA r = 0 := by unfold HS.tA; rw [if_neg hr]
    have eu : s.uA r = 0 := by unfold HS.uA; rw [if_neg hr]
    rw [em, et, eu]
    clear em et eu hb hc
    have hr : r < 0 ∨ 4 ≤ r := by omega
    rcases hr with hr | hr
    all_goals
      go_enter Try.func92, Try.ntmps92
      go_wp2_with fail
      refine bodyPost_ret (v := .agg #[.int .i64 0, .int .u64 0, .int .u64 0]) (by simp [results, Try.results92, go_sem]) rfl ⟨rfl, ?_⟩
      exact H.out.junk _
/-- is a hold none, or one with a mode and a token? -/
def okHold (M T U : Int) : Prop := (M = 0 ∧ T = 0 ∧ U = 0) ∨ ((M = 1 ∨ M = 2) ∧ T ≠ 0)
def HS.ok (s : HS) : Prop := ∀ r, r < 4 → okHold (s.m r) (s.t r) (s.u r)

/-- does a client believe? -/
def belB (M U mode c : Int) : Bool := decide (M ≠ 0) && ((M == mode) || (M == 2)) && befB c 3 U
/-- is it time to renew? -/
def renB (M U c : Int) : Bool := decide (M ≠ 0) && !befB c 6 U


set_option maxHeartbeats 400000 in
theorem believes_of {a r : Value} (M T U mode c : Int) (w : World) (hc : 0 ≤ c) (hc' : c ≤ 18446744073709551615) (hs : okHold M T U)
    (hat : Calls Try.prog 92 #[a, r] w fun e w' => e = .returned (.agg #[.int .i64 M, .int .u64 T, .int .u64 U]) ∧ St M0 w' L) :
    Calls Try.prog 53 #[a, r, .int .i64 mode, .int .u64 c] w fun e w' => e = .returned (.bool (belB M U mode c)) ∧ St M0 w' L := by
  have H := hide hat
  clear hat
  rcases hs with ⟨rfl, rfl, rfl⟩ | ⟨rfl | rfl, hT⟩
  · go_enter Try.func53, Try.ntmps53
    go_wp2_with (go_at_call 92; refine H.out.mono ?_; rintro e w1 ⟨rfl, h1⟩)
    go_ret
    exact ⟨rfl, h1.junk _⟩
  all_goals
    have hT' := isF hT
    have BF := hide (before_any c 3 U)
    have hb1 : befB c 3 U = befB c 3 U := rfl
    generalize hQ : befB c 3 U = q at BF
    have HQ := hide hQ
    clear hQ hb1 hT
    by_cases hm : mode = 1 <;> by_cases hm2 : mode = 2
    all_goals (try (exfalso; omega))
    all_goals (try subst hm)
    all_goals (try subst hm2)
    all_goals
      go_enter Try.func53, Try.ntmps53
      go_wp2_with (first | (go_at_call 92; refine H.out.mono ?_; rintro e w1 ⟨rfl, h1⟩) | (go_at_call 104; refine (BF.out _ hc hc' (by omega) (by omega)).mono ?_; rintro e w2 ⟨rfl, rfl⟩))
      go_ret
      refine ⟨?_, h1.junk _⟩
      try rw [← HQ.out]
      simp [belB] <;> omega

set_option maxHeartbeats 400000 in
theorem renews_of {a r : Value} (M T U c : Int) (w : World) (hc : 0 ≤ c) (hc' : c ≤ 18446744073709551615) (hs : okHold M T U)
    (hat : Calls Try.prog 92 #[a, r] w fun e w' => e = .returned (.agg #[.int .i64 M, .int .u64 T, .int .u64 U]) ∧ St M0 w' L) :
    Calls Try.prog 91 #[a, r, .int .u64 c] w fun e w' => e = .returned (.bool (renB M U c)) ∧ St M0 w' L := by
  have H := hide hat
  clear hat
  rcases hs with ⟨rfl, rfl, rfl⟩ | ⟨hM, hT⟩
  · go_enter Try.func91, Try.ntmps91
    go_wp2_with (go_at_call 92; refine H.out.mono ?_; rintro e w1 ⟨rfl, h1⟩)
    go_ret
    exact ⟨rfl, h1.junk _⟩
  · have hM' := isF (show M ≠ 0 by omega)
    have BF := hide (before_any c 6 U)
    generalize hQ : befB c 6 U = q at BF
    have HQ := hide hQ
    have HM := hide hM
    clear hQ hT hM
    go_enter Try.func91, Try.ntmps91
    go_wp2_with (first | (go_at_call 92; refine H.out.mono ?_; rintro e w1 ⟨rfl, h1⟩) | (go_at_call 104; refine (BF.out _ hc hc' (by omega) (by omega)).mono ?_; rintro e w2 ⟨rfl, rfl⟩))
    go_ret
    refine ⟨?_, h1.junk _⟩
    rw [renB, HQ.out, decide_eq_true (by have := HM.out; omega), Bool.true_and]
    rfl

set_option maxHeartbeats 400000 in
theorem token_of {a r : Value} (M T U : Int) (w : World)
    (hat : Calls Try.prog 92 #[a, r] w fun e w' => e = .returned (.agg #[.int .i64 M, .int .u64 T, .int .u64 U]) ∧ St M0 w' L) :
    Calls Try.prog 45 #[a, r] w fun e w' => e = .returned (.int .u64 T) ∧ St M0 w' L := by
  have H := hide hat
  clear hat
  have hfd : ∀ w : World, (Instr.field 94 (.agg #[.int .i64 M, .int .u64 T, .int .u64 U]) 1).run Try.prog w = .ok (.int .u64 T) w := fun _ => by kernel_rfl
  go_enter Try.func45, Try.ntmps45
  go_wp2_with (go_at_call 92; refine H.out.mono ?_; rintro e w1 ⟨rfl, h1⟩)
  go_ret
  exact ⟨rfl, h1⟩

theorem HS.ok.at_ {s : HS} (h : s.ok) (r : Int) : okHold (s.mA r) (s.tA r) (s.uA r) := by
  unfold HS.mA HS.tA HS.uA
  by_cases hr : 0 ≤ r ∧ r < 4
  · simp only [hr, if_true, and_self]; exact h _ (by omega)
  · simp only [hr, if_false]; exact .inl ⟨rfl, rfl, rfl⟩
theorem believes_st (r mode c : Int) (w : World) (hs : s.ok) (hc0 : 0 ≤ c) (hc1 : c ≤ 18446744073709551615) (hc : HolIn cs o s) (h : St M0 w (blkR g t cs :: L)) :
    Calls Try.prog 53 #[.pointer (some ⟨g, o, none⟩), .int .i64 r, .int .i64 mode, .int .u64 c] w fun e w' => e = .returned (.bool (belB (s.mA r) (s.uA r) mode c)) ∧ St M0 w' (blkR g t cs :: L) :=
  believes_of _ _ _ mode c w hc0 hc1 (hs.at_ r) (at_st r w hc h)
theorem renews_st (r c : Int) (w : World) (hs : s.ok) (hc0 : 0 ≤ c) (hc1 : c ≤ 18446744073709551615) (hc : HolIn cs o s) (h : St M0 w (blkR g t cs :: L)) :
    Calls Try.prog 91 #[.pointer (some ⟨g, o, none⟩), .int .i64 r, .int .u64 c] w fun e w' => e = .returned (.bool (renB (s.mA r) (s.uA r) c)) ∧ St M0 w' (blkR g t cs :: L) :=
  renews_of _ _ _ c w hc0 hc1 (hs.at_ r) (at_st r w hc h)
theorem htoken_st (r : Int) (w : World) (hc : HolIn cs o s) (h : St M0 w (blkR g t cs :: L)) :
    Calls Try.prog 45 #[.pointer (some ⟨g, o, none⟩), .int .i64 r] w fun e w' => e = .returned (.int .u64 (s.tA r)) ∧ St M0 w' (blkR g t cs :: L) :=
  token_of _ _ _ w (at_st r w hc h)
def tookE (s : HS) (r m t : Int) : Int :=
  if r < 0 ∨ 4 ≤ r then 93 else if m ≠ 1 ∧ m ≠ 2 then 91 else if t = 0 ∨ t < s.l r.toNat then 92 else 0

set_option maxHeartbeats 400000 in
theorem took_region {a : Value} (r m t u : Int) (w : World) (hr : r < 0 ∨ 4 ≤ r) :
    Calls Try.prog 48 #[a, .int .i64 r, .int .i64 m, .int .u64 t, .int .u64 u] w fun e w' => e = .returned (.int .i64 93) ∧ w = w' := by
  rcases hr with hr | hr
  all_goals
    go_enter Try.func48, Try.ntmps48
    go_wp2
    go_ret
    exact ⟨rfl, rfl⟩

set_option maxHeartbeats 400000 in
theorem took_mode {a : Value} (r m t u : Int) (w : World) (hr : 0 ≤ r) (hr' : r < 4) (h1' : m ≠ 1) (h2' : m ≠ 2) :
    Calls Try.prog 48 #[a, .int .i64 r, .int .i64 m, .int .u64 t, .int .u64 u] w fun e w' => e = .returned (.int .i64 91) ∧ w = w' := by
  have h1 := isN h1'
  have h2 := isN h2'
  clear h1' h2'
  go_enter Try.func48, Try.ntmps48
  go_wp2
  go_ret
  exact ⟨rfl, rfl⟩

def HS.tookS (s : HS) (r m t u : Int) : HS := if tookE s r m t = 0 then s.took r.toNat m t u else s
def HS.goneS (s : HS) (r : Int) : HS := if 0 ≤ r ∧ r < 4 then s.gone r.toNat else s
theorem tookE_ok {s : HS} {r m k : Int} (h : tookE s r m k = 0) : 0 ≤ r ∧ r < 4 ∧ (m = 1 ∨ m = 2) ∧ k ≠ 0 := by
  unfold tookE at h
  split at h
  · cases h
  split at h
  · cases h
  split at h
  · cases h
  omega
theorem HS.ok.took {s : HS} (h : s.ok) (r m t u : Int) : (s.tookS r m t u).ok := by
  unfold HS.tookS
  split
  · rename_i he
    have he := tookE_ok he
    intro k hk
    simp only [HS.took, setAt]
    by_cases hkr : k = r.toNat
    · simp only [hkr, if_true]
      exact .inr ⟨he.2.2.1, he.2.2.2⟩
    · simp only [hkr, if_false]; exact h k hk
  · exact h
theorem HS.ok.gone {s : HS} (h : s.ok) (r : Int) : (s.goneS r).ok := by
  unfold HS.goneS
  split
  · intro k hk
    simp only [HS.gone, setAt]
    by_cases hkr : k = r.toNat
    · simp only [hkr, if_true]; left; exact ⟨rfl, rfl, rfl⟩
    · simp only [hkr, if_false]; exact h k hk
  · exact h
def tookR (cs : Array Value) (s : HS) (o : Nat) (r m t u : Int) : Array Value := if tookE s r m t = 0 then tookC cs o r.toNat m t u else cs
def goneR (cs : Array Value) (o : Nat) (r : Int) : Array Value := if 0 ≤ r ∧ r < 4 then goneC cs o r.toNat else cs
set_option maxHeartbeats 400000 in
theorem took_tokenS (r : Nat) (m k u : Int) (w : World) (hr' : r < 4) (hm : m = 1 ∨ m = 2) (ht : k = 0 ∨ k < s.l r) (hc : HolIn cs o s) (h : St M0 w (blkR g t cs :: L)) :
    Calls Try.prog 48 #[.pointer (some ⟨g, o, none⟩), .int .i64 r, .int .i64 m, .int .u64 k, .int .u64 u] w fun e w' => e = .returned (.int .i64 92) ∧ St M0 w' (blkR g t cs :: L) := by
  have h0 := ((h.blk 0 rfl).cell (o + 12 + r)).trans (hc.cl hr')
  have H := hide h
  clear h hc
  generalize s.l r = Q at *
  by_cases htz : k = 0
  · subst htz
    clear ht
    rcases hm with rfl | rfl
    all_goals
      go_enter Try.func48, Try.ntmps48
      go_wp2_with fail
      go_ret
      exact ⟨rfl, H.out⟩
  · have htl : k < Q := by omega
    have hf := isF htz
    clear ht htz
    rcases hm with rfl | rfl
    all_goals
      go_enter Try.func48, Try.ntmps48
      go_wp2_with fail
      go_ret
      exact ⟨rfl, H.out⟩
set_option maxHeartbeats 400000 in
theorem took_okS (r : Nat) (m k u : Int) (w : World) (hr' : r < 4) (hm : m = 1 ∨ m = 2) (ht : k ≠ 0) (htl : s.l r ≤ k) (hc : HolIn cs o s) (h : St M0 w (blkR g t cs :: L)) :
    Calls Try.prog 48 #[.pointer (some ⟨g, o, none⟩), .int .i64 r, .int .i64 m, .int .u64 k, .int .u64 u] w fun e w' => e = .returned (.int .i64 0) ∧ St M0 w' (blkR g t (tookC cs o r m k u) :: L) := by
  have hb := h.blk 0 rfl
  have h0 := (hb.cell (o + 12 + r)).trans (hc.cl hr')
  have h1 := (hb.cell (o + r * 3)).trans (hc.cm hr')
  have h2 := (hb.cell (o + r * 3 + 1)).trans (hc.ct hr')
  have h3 := (hb.cell (o + r * 3 + 2)).trans (hc.cu hr')
  have f0 := hb.frozen (o + 12 + r)
  have f1 := hb.frozen (o + r * 3)
  have f2 := hb.frozen (o + r * 3 + 1)
  have f3 := hb.frozen (o + r * 3 + 2)
  have H := hide h
  clear hb h hc
  generalize s.l r = Q at *
  generalize s.m r = M at *
  generalize s.t r = T at *
  generalize s.u r = U at *
  have htf := isF ht
  rcases hm with rfl | rfl
  all_goals
    go_enter Try.func48, Try.ntmps48
    go_wp2
    go_region
    all_goals go_wp2
    all_goals go_ret
    all_goals exact ⟨rfl, ((((H.out.set_ (o + r * 3) _).set_ (o + r * 3 + 1) _).set_ (o + r * 3 + 2) _).set_ (o + 12 + r) _).drew⟩
theorem took_st (r m k u : Int) (w : World) (hc : HolIn cs o s) (h : St M0 w (blkR g t cs :: L)) :
    Calls Try.prog 48 #[.pointer (some ⟨g, o, none⟩), .int .i64 r, .int .i64 m, .int .u64 k, .int .u64 u] w fun e w' => e = .returned (.int .i64 (tookE s r m k)) ∧ St M0 w' (blkR g t (tookR cs s o r m k u) :: L) := by
  unfold tookR tookE
  by_cases h1 : r < 0 ∨ 4 ≤ r
  · simp only [h1, if_true]
    exact (took_region r m k u w h1).mono fun e w' ⟨he, hw⟩ => ⟨he, hw ▸ h⟩
  by_cases h2 : m ≠ 1 ∧ m ≠ 2
  · simp only [h1, h2, if_true, if_false, ne_eq, not_false_eq_true, and_self]
    exact (took_mode r m k u w (by omega) (by omega) h2.1 h2.2).mono fun e w' ⟨he, hw⟩ => ⟨he, hw ▸ h⟩
  obtain ⟨n, rfl⟩ := Int.eq_ofNat_of_zero_le (show 0 ≤ r by omega)
  by_cases h3 : k = 0 ∨ k < s.l n
  · simp only [h1, h2, if_false, Int.toNat_natCast, h3, if_true]
    exact took_tokenS n m k u w (by omega) (by omega) h3 hc h
  · simp only [h1, h2, if_false, Int.toNat_natCast, h3, if_true]
    exact took_okS n m k u w (by omega) (by omega) (by omega) (by omega) hc h
set_option maxHeartbeats 400000 in
theorem gone_out {a : Value} (r : Int) (w : World) (hr : r < 0 ∨ 4 ≤ r) :
    Calls Try.prog 50 #[a, .int .i64 r] w fun e w' => e = .returned (.tuple #[]) ∧ w = w' := by
  rcases hr with hr | hr
  · go_enter Try.func50, Try.ntmps50
    go_wp2
    go_end0
    exact ⟨rfl, rfl⟩
  · have hr0 : 0 ≤ r := by omega
    go_enter Try.func50, Try.ntmps50
    go_wp2
    go_end0
    exact ⟨rfl, rfl⟩

set_option maxHeartbeats 400000 in
theorem gone_inS (r : Nat) (w : World) (hr' : r < 4) (hc : HolIn cs o s) (h : St M0 w (blkR g t cs :: L)) :
    Calls Try.prog 50 #[.pointer (some ⟨g, o, none⟩), .int .i64 r] w fun e w' => e = .returned (.tuple #[]) ∧ St M0 w' (blkR g t (goneC cs o r) :: L) := by
  have hb := h.blk 0 rfl
  have h1 := (hb.cell (o + r * 3)).trans (hc.cm hr')
  have h2 := (hb.cell (o + r * 3 + 1)).trans (hc.ct hr')
  have h3 := (hb.cell (o + r * 3 + 2)).trans (hc.cu hr')
  have f1 := hb.frozen (o + r * 3)
  have f2 := hb.frozen (o + r * 3 + 1)
  have f3 := hb.frozen (o + r * 3 + 2)
  have H := hide h
  clear hb h hc
  generalize s.m r = M at *
  generalize s.t r = T at *
  generalize s.u r = U at *
  go_enter Try.func50, Try.ntmps50
  go_wp2_with fail
  go_end0
  exact ⟨rfl, (((H.out.set_ (o + r * 3) _).set_ (o + r * 3 + 1) _).set_ (o + r * 3 + 2) _)⟩
theorem gone_st (r : Int) (w : World) (hc : HolIn cs o s) (h : St M0 w (blkR g t cs :: L)) :
    Calls Try.prog 50 #[.pointer (some ⟨g, o, none⟩), .int .i64 r] w fun e w' => e = .returned (.tuple #[]) ∧ St M0 w' (blkR g t (goneR cs o r) :: L) := by
  unfold goneR
  by_cases hr : 0 ≤ r ∧ r < 4
  · obtain ⟨n, rfl⟩ := Int.eq_ofNat_of_zero_le hr.1
    rw [if_pos hr]
    exact gone_inS n w (by omega) hc h
  · rw [if_neg hr]
    exact (gone_out r w (by omega)).mono fun e w' ⟨he, hw⟩ => ⟨he, hw ▸ h⟩
end
end Go.Proofs.Ytbgknfdaaffeaaa
