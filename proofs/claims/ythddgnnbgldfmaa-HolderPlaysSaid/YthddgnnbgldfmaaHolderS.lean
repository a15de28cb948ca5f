/- The contracts of package holder: for every argument. -/
import Derived.Test.YthddgnnbgldfmaaHolder
namespace Go.Proofs.Ythddgnnbgldfmaa
open Go.RowKit

/-- what is held of any region -/
def HS.mA (s : HS) (r : Int) : Int := if 0 ≤ r ∧ r < 4 then s.m r.toNat else 0
def HS.tA (s : HS) (r : Int) : Int := if 0 ≤ r ∧ r < 4 then s.t r.toNat else 0
def HS.uA (s : HS) (r : Int) : Int := if 0 ≤ r ∧ r < 4 then s.u r.toNat else 0
theorem HS.ok.at_ {s : HS} (h : s.ok) (r : Int) : okHold (s.mA r) (s.tA r) (s.uA r) := by
  unfold HS.mA HS.tA HS.uA
  by_cases hr : 0 ≤ r ∧ r < 4
  · simp only [hr, if_true, and_self]; exact h _ (by omega)
  · simp only [hr, if_false]; exact .inl ⟨rfl, rfl, rfl⟩
def HS.tookS (s : HS) (r m t u : Int) : HS := if tookE s r m t = 0 then s.took r.toNat m t u else s
def HS.goneS (s : HS) (r : Int) : HS := if 0 ≤ r ∧ r < 4 then s.gone r.toNat else s

theorem HS.ok.took {s : HS} (h : s.ok) (r m t u : Int) (ht : 0 ≤ t) : (s.tookS r m t u).ok := by
  unfold HS.tookS
  split
  · rename_i he
    intro k hk
    simp only [HS.took, setAt]
    by_cases hkr : k = r.toNat
    · simp only [hkr, if_true]
      unfold tookE at he
      split at he; · cases he
      split at he; · cases he
      split at he; · cases he
      right; omega
    · simp only [hkr, if_false]; exact h k hk
  · exact h
theorem HS.ok.gone {s : HS} (h : s.ok) (r : Int) : (s.goneS r).ok := by
  unfold HS.goneS
  split
  · intro k hk
    simp only [HS.gone, setAt]
    by_cases hkr : k = r.toNat
    · simp only [hkr, if_true]; left; exact ⟨rfl, rfl, rfl⟩
    · simp only [hkr, if_false]; exact h k hk
  · exact h

theorem at_spec (g : Nat) (r : Int) (s : HS) (w : World) (hb : HolderAt w g s) :
    Calls Try.prog 42 #[.pointer (some ⟨g, 0, none⟩), .int .i64 r] w fun e w' => e = .returned (.agg #[.int .i64 (s.mA r), .int .u64 (s.tA r), .int .u64 (s.uA r)]) ∧ Fr Non w w' := by
  unfold HS.mA HS.tA HS.uA
  by_cases hr : 0 ≤ r ∧ r < 4
  · obtain ⟨n, rfl⟩ := Int.eq_ofNat_of_zero_le hr.1
    simp only [hr, if_true, and_self, Int.toNat_natCast]
    exact at_in g n s w (by omega) hb
  · simp only [hr, if_false]
    exact at_out g r w (by omega)

theorem believes_spec (g : Nat) (r mode c : Int) (s : HS) (w : World) (hc : 0 ≤ c) (hc' : c ≤ 18446744073709551615) (hs : s.ok) (hb : HolderAt w g s) :
    Calls Try.prog 13 #[.pointer (some ⟨g, 0, none⟩), .int .i64 r, .int .i64 mode, .int .u64 c] w fun e w' => e = .returned (.bool (belB (s.mA r) (s.uA r) mode c)) ∧ Fr Non w w' :=
  believes_of _ _ _ mode c w hc hc' (hs.at_ r) (at_spec g r s w hb)
theorem renews_spec (g : Nat) (r c : Int) (s : HS) (w : World) (hc : 0 ≤ c) (hc' : c ≤ 18446744073709551615) (hs : s.ok) (hb : HolderAt w g s) :
    Calls Try.prog 14 #[.pointer (some ⟨g, 0, none⟩), .int .i64 r, .int .u64 c] w fun e w' => e = .returned (.bool (renB (s.mA r) (s.uA r) c)) ∧ Fr Non w w' :=
  renews_of _ _ _ c w hc hc' (hs.at_ r) (at_spec g r s w hb)
theorem token_spec (g : Nat) (r : Int) (s : HS) (w : World) (hb : HolderAt w g s) :
    Calls Try.prog 18 #[.pointer (some ⟨g, 0, none⟩), .int .i64 r] w fun e w' => e = .returned (.int .u64 (s.tA r)) ∧ Fr Non w w' :=
  token_of _ _ _ w (at_spec g r s w hb)

theorem took_spec (g : Nat) (r m t u : Int) (s : HS) (w : World) (ht : 0 ≤ t) (hb : HolderAt w g s) :
    Calls Try.prog 12 #[.pointer (some ⟨g, 0, none⟩), .int .i64 r, .int .i64 m, .int .u64 t, .int .u64 u] w fun e w' => e = .returned (.int .i64 (tookE s r m t)) ∧ Fr (· = g) w w' ∧ HolderAt w' g (s.tookS r m t u) := by
  unfold HS.tookS tookE
  by_cases h1 : r < 0 ∨ 4 ≤ r
  · simp only [h1, if_true]
    exact (took_region r m t u w h1).mono fun e w' ⟨he, hw⟩ => ⟨he, hw ▸ Fr.refl _ _, by subst hw; exact hb⟩
  by_cases h2 : m ≠ 1 ∧ m ≠ 2
  · simp only [h1, h2, if_true, if_false, ne_eq, not_false_eq_true, and_self]
    exact (took_mode r m t u w (by omega) (by omega) h2.1 h2.2).mono fun e w' ⟨he, hw⟩ => ⟨he, hw ▸ Fr.refl _ _, by subst hw; exact hb⟩
  obtain ⟨n, rfl⟩ := Int.eq_ofNat_of_zero_le (show 0 ≤ r by omega)
  by_cases h3 : t = 0 ∨ t < s.l n
  · simp only [h1, h2, if_false, Int.toNat_natCast, h3, if_true]
    exact (took_token g n m t u s w (by omega) (by omega) h3 ht hb).mono fun e w' ⟨he, hw⟩ => ⟨he, hw ▸ Fr.refl _ _, by subst hw; exact hb⟩
  · simp only [h1, h2, if_false, Int.toNat_natCast, h3, if_true]
    exact took_ok g n m t u s w (by omega) (by omega) (by omega) (by omega) hb

theorem gone_spec (g : Nat) (r : Int) (s : HS) (w : World) (hb : HolderAt w g s) :
    Calls Try.prog 16 #[.pointer (some ⟨g, 0, none⟩), .int .i64 r] w fun e w' => e = .returned (.tuple #[]) ∧ Fr (· = g) w w' ∧ HolderAt w' g (s.goneS r) := by
  unfold HS.goneS
  by_cases hr : 0 ≤ r ∧ r < 4
  · obtain ⟨n, rfl⟩ := Int.eq_ofNat_of_zero_le hr.1
    simp only [hr, if_true, and_self, Int.toNat_natCast]
    exact gone_in g n s w (by omega) hb
  · simp only [hr, if_false]
    exact (gone_out r w (by omega)).mono fun e w' ⟨he, hw⟩ => ⟨he, hw ▸ Fr.refl _ _, by subst hw; exact hb⟩

def hs0 : HS := ⟨fun _ => 0, fun _ => 0, fun _ => 0, fun _ => 0⟩
theorem hs0_ok : hs0.ok := fun _ _ => .inl ⟨rfl, rfl, rfl⟩

end Go.Proofs.Ythddgnnbgldfmaa
