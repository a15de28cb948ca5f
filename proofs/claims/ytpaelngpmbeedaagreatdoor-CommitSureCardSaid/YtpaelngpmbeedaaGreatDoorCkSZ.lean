/- check and slot: sums, a record's sector, what a sector tells (plain). -/
import Derived.Test.YtpaelngpmbeedaaGreatDoorStZ
import Derived.Test.YtpaelngpmbeedaaGreatDoorDiskZ
import Derived.Test.YtpaelngpmbeedaaGreatDoorBaseZ
import Derived.Test.YtpaelngpmbeedaaGreatDoorFlowZ
namespace Go.Proofs.YtpaelngpmbeedaaGreatDoor

/-! ### sums -/
def sumT : List Int := [0, 498536548, 997073096, 651767980, 1994146192, 1802195444, 1303535960, 1342533948, 3988292384, 4027552580, 3604390888, 3412177804, 2607071920, 2262029012, 2685067896, 3183342108]
def nibM (s : Int) : Int := bits .xor .u32 (s / 16) (sumT.getD (bits .and .u32 s 15).toNat 0)
def byteM (s c : Int) : Int := nibM (nibM (bits .xor .u32 s c))
def sumGo (s : Int) (b : List Int) : Int := b.foldl byteM s
def sumM (b : List Int) : Int := bits .xor .u32 4294967295 (sumGo 4294967295 b)
theorem wrap_u32 (x : Int) : 0 ≤ IntKind.u32.wrap x ∧ IntKind.u32.wrap x < 4294967296 := by
  have : IntKind.u32.wrap x = x % 4294967296 := rfl
  rw [this]
  omega
theorem bits_u32 (op : BinOp) (x y : Int) : 0 ≤ bits op .u32 x y ∧ bits op .u32 x y < 4294967296 := wrap_u32 _
theorem and_15 (x : Int) : 0 ≤ bits .and .u32 x 15 ∧ bits .and .u32 x 15 < 16 := by
  have h : bits .and .u32 x 15 = (((BitVec.ofInt 32 x) &&& (BitVec.ofInt 32 15)).toNat : Int) % 4294967296 := rfl
  have h2 : ((BitVec.ofInt 32 x) &&& (BitVec.ofInt 32 15)).toNat ≤ 15 := by
    rw [BitVec.toNat_and]
    exact Nat.and_le_right
  rw [h]
  omega
theorem nibM_range (s : Int) : 0 ≤ nibM s ∧ nibM s < 4294967296 := bits_u32 _ _ _
theorem sumM_range (b : List Int) : 0 ≤ sumM b ∧ sumM b < 4294967296 := bits_u32 _ _ _
theorem sumGo_range (s : Int) (b : List Int) (h : 0 ≤ s ∧ s < 4294967296) : 0 ≤ sumGo s b ∧ sumGo s b < 4294967296 := by
  induction b generalizing s with
  | nil => exact h
  | cons c b ih => exact ih _ (nibM_range _)

/-! ### a record's sector -/
def headM (seq epoch : Int) (b : List Int) : List Int := numB seq 4 ++ numB epoch 4 ++ numB (b.length : Nat) 1 ++ b ++ zeros (43 - b.length)
def stampM (seq epoch : Int) (b : List Int) : List Int := headM seq epoch b ++ (numB (sumM (headM seq epoch b)) 4 ++ numB seq 4 ++ numB epoch 4)
/-- a number of four bytes -/
def at4 (s : List Int) (o : Nat) : Int := ofB ((s.drop o).take 4)
def seqM (s : List Int) : Int := at4 s 0
def epoM (s : List Int) : Int := at4 s 4
def lenM (s : List Int) : Int := ofB ((s.drop 8).take 1)
def sumA (s : List Int) : Int := at4 s 52
def agaM (s : List Int) : Int := at4 s 56
def alsM (s : List Int) : Int := at4 s 60
/-- is a sector a record's? -/
def fineM (s : List Int) : Bool := decide (s.length = 64) && !((seqM s == 0) || (seqM s != agaM s) || (epoM s != alsM s) || decide (lenM s > 43) || (sumA s != sumM (s.take 52)))
def bodyM (s : List Int) : List Int := (s.drop 9).take (lenM s).toNat
/-- what Parse tells -/
structure PM where
  q : Int
  e : Int
  b : List Int
  ok : Bool
def parseM (s : List Int) : PM := if fineM s = true then ⟨seqM s, epoM s, bodyM s, true⟩ else ⟨0, 0, [], false⟩
end Go.Proofs.YtpaelngpmbeedaaGreatDoor
/- check.Sum: what it answers. -/
namespace Go.Proofs.YtpaelngpmbeedaaGreatDoor
open Go.RowKit

/-- the table of sums lies in the first package variable's block -/
def TabW (w : World) : Prop := ∀ (i : Nat) (x : Int), sumT[i]? = some x → w.cell? ⟨0, i, none⟩ = some (.int .u32 x)
def Tbl (M0 : Imm) : Prop := ∀ w, Agree w M0 → TabW w
theorem Tbl.at_ {M0 : Imm} {w : World} {L : List Res} (hT : Tbl M0) (h : St M0 w L) : TabW w := by
  obtain ⟨M, Fs, h0, ha, _⟩ := h
  exact hT w (ha.le h0)
theorem TabW.get {w : World} (h : TabW w) {j : Nat} (hj : j < 16) : w.cell? ⟨0, j, none⟩ = some (.int .u32 (sumT.getD j 0)) := by
  refine h j _ ?_
  rw [List.getD_eq_getElem?_getD, List.getElem?_eq_getElem (show j < sumT.length from hj)]
  rfl
theorem sumGo_snoc (s : Int) (b : List Int) (c : Int) : sumGo s (b ++ [c]) = byteM (sumGo s b) c := by simp [sumGo]

set_option maxHeartbeats 1000000 in
theorem sum_q (v : Value) (xs : List Int) (w : World) (hT : TabW w) (hb : Bytes xs) (hx : Ints w .u8 v xs) :
    Calls Tryz.prog 106 #[v] w fun e w' => e = .returned (.int .u32 (sumM xs)) ∧ ∃ n, w' = w.drewN n := by
  obtain ⟨A, c, rfl, _, hm, hsx⟩ := hx
  unfold maxLen at hm
  obtain ⟨n, hn⟩ : ∃ n, n = xs.length := ⟨_, rfl⟩
  rw [← hn] at hsx ⊢
  have HN := hide hn
  have HX := hide hsx
  have HB := hide hb
  have HT := hide hT
  have E := hide (show sumM xs = bits .xor .u32 4294967295 (sumGo 4294967295 xs) from rfl)
  clear hsx hb hT hn
  go_enter Tryz.func106, Tryz.ntmps106
  go_wp2_with fail
  go_loopg [3, 8] n (fun gh sv iv wr => ∃ k : Nat, gh = n - k ∧ k ≤ n ∧ iv = .int .i64 (k : Nat) ∧ sv = .int .u32 (sumGo 4294967295 (xs.take k)) ∧ ∃ q, wr = w.drewN q)
  case atStart => exact ⟨0, rfl, Nat.zero_le _, rfl, rfl, 0, rfl⟩
  case round =>
    obtain ⟨k, hg, hk, rfl, rfl, q, rfl⟩ := hrel
    have HG := hide hg
    have HR := hide (sumGo_range 4294967295 (xs.take k) (by decide))
    have HE := hide (show sumGo 4294967295 (xs.take k) = sumGo 4294967295 (xs.take k) from rfl)
    clear hg
    by_cases hlt : k < n
    · have hkx : k < xs.length := by rw [← HN.out]; exact hlt
      obtain ⟨ad, x, rfl, _, _, ex, hcx⟩ := Sl.at_ HX.out hlt
      rw [List.getElem?_map, List.getElem?_eq_getElem hkx] at ex
      obtain rfl : .int .u8 xs[k] = x := by injection ex
      have hbx := HB.out _ (List.getElem_mem hkx)
      have HS := hide (show sumGo 4294967295 (xs.take (k + 1)) = byteM (sumGo 4294967295 (xs.take k)) xs[k] by
        rw [List.take_add_one, List.getElem?_eq_getElem hkx]
        exact sumGo_snoc _ _ _)
      generalize xs[k] = X at *
      generalize sumGo 4294967295 (xs.take k) = S at *
      have hw : IntKind.u32.wrap X = X := by
        unfold isByte at hbx
        have : IntKind.u32.wrap X = X % 4294967296 := rfl
        omega
      obtain ⟨s1, hs1⟩ : ∃ s1, bits .xor .u32 S X = s1 := ⟨_, rfl⟩
      obtain ⟨j1, hj1⟩ : ∃ j1 : Nat, bits .and .u32 s1 15 = (j1 : Int) := ⟨(bits .and .u32 s1 15).toNat, by have := and_15 s1; omega⟩
      have hl1 : j1 < 16 := by have := and_15 s1; omega
      have c1 := HT.out.get hl1
      obtain ⟨s2, hs2⟩ : ∃ s2, bits .xor .u32 (s1 / 16) (sumT.getD j1 0) = s2 := ⟨_, rfl⟩
      obtain ⟨j2, hj2⟩ : ∃ j2 : Nat, bits .and .u32 s2 15 = (j2 : Int) := ⟨(bits .and .u32 s2 15).toNat, by have := and_15 s2; omega⟩
      have hl2 : j2 < 16 := by have := and_15 s2; omega
      have c2 := HT.out.get hl2
      obtain ⟨s3, hs3⟩ : ∃ s3, bits .xor .u32 (s2 / 16) (sumT.getD j2 0) = s3 := ⟨_, rfl⟩
      have HS3 := hide (show byteM S X = s3 by
        unfold byteM nibM
        rw [hs1, hj1, Int.toNat_natCast, hs2, hj2, Int.toNat_natCast, hs3])
      generalize sumT.getD j1 0 = t1 at *
      generalize sumT.getD j2 0 = t2 at *
      have hj1a : (0 : Int) ≤ (j1 : Int) := by omega
      have hj1b : (j1 : Int) < 16 := by omega
      have hj2a : (0 : Int) ≤ (j2 : Int) := by omega
      have hj2b : (j2 : Int) < 16 := by omega
      clear ex hbx
      go_wp2_with fail
      go_roundg (n - (k + 1))
      case measure => have := HG.out; omega
      case rel => exact ⟨k + 1, rfl, by omega, by go_num, by rw [HS.out, HS3.out], _, rfl⟩
    · obtain rfl : k = n := by omega
      have hfull : xs.take k = xs := List.take_of_length_le (by rw [← HN.out]; omega)
      rw [hfull] at *
      clear HE
      go_wp2_with fail
      go_ret
      exact ⟨by rw [E.out]; rfl, _, rfl⟩
theorem sum_st {M0 : Imm} {L : List Res} (hT : Tbl M0) (v : Value) (xs : List Int) (w : World) (hb : Bytes xs) (hx : Ints w .u8 v xs) (h : St M0 w L) :
    Calls Tryz.prog 106 #[v] w fun e w' => e = .returned (.int .u32 (sumM xs)) ∧ St M0 w' L := by
  refine (sum_q v xs w (hT.at_ h) hb hx).mono ?_
  rintro e w' ⟨he, n, rfl⟩
  exact ⟨he, h.drewN n⟩
end Go.Proofs.YtpaelngpmbeedaaGreatDoor
/- slot.Parse. Printed by gen_ckp.py out of ckp.in. -/
namespace Go.Proofs.YtpaelngpmbeedaaGreatDoor
open Go.RowKit

theorem results_three {fn : Func} {t u v : Tmp} (h : fn.results = #[.tmp t, .tmp u, .tmp v]) (tmps : Array Value) (P : Program) (w : World) :
    (results fn tmps).run P w = .ok (.tuple #[tmps.getD t undef, tmps.getD u undef, tmps.getD v undef]) w := by
  simp [results, h]
theorem results_four {fn : Func} {t u v x : Tmp} (h : fn.results = #[.tmp t, .tmp u, .tmp v, .tmp x]) (tmps : Array Value) (P : Program) (w : World) :
    (results fn tmps).run P w = .ok (.tuple #[tmps.getD t undef, tmps.getD u undef, tmps.getD v undef, tmps.getD x undef]) w := by
  simp [results, h]
theorem St.cutA {M0 : Imm} {w : World} {L : List Res} {ad : Addr} {c : Nat} {s : List Int} (h : St M0 w (intsR .u8 (.slice (some ad) 64 c) s :: L)) : St M0 w (intsR .u8 (.slice (some ad) 52 c) (s.take 52) :: intsR .u8 (.slice (some ad) 64 c) s :: L) :=
  (h.copy 0 rfl).pers1 (fun _ hi => hi.cut (by omega))
theorem St.dropA {M0 : Imm} {w : World} {L : List Res} {ad : Addr} {c : Nat} {s : List Int} (h : St M0 w (intsR .u8 (.slice (some ad) 64 c) s :: L)) : St M0 w (intsR .u8 (.slice (some (ad.add 52)) 12 (c - 52)) (s.drop 52) :: intsR .u8 (.slice (some ad) 64 c) s :: L) :=
  (h.copy 0 rfl).pers1 (fun _ hi => hi.drop (m := 52) (by omega) (some (ad.add 52)) (fun _ => rfl))
theorem Rd.num_plain (xs : List Int) (k : Nat) (h1 : 1 ≤ k) (h8 : k ≤ 8) (hk : k ≤ xs.length) : Rd.num ⟨xs, false⟩ (k : Int) = (ofB (xs.take k), ⟨xs.drop k, false⟩) := by
  have e : Rd.size ⟨xs, false⟩ (k : Int) = k := by
    unfold Rd.size
    rw [if_neg (by omega)]
    omega
  unfold Rd.num
  rw [e]
  unfold Rd.take
  rw [if_neg (by simp; omega)]
theorem num_h1 {s : List Int} (h : s.length = 64) : Rd.num ⟨s.take 52, false⟩ 4 = (seqM s, ⟨(s.take 52).drop 4, false⟩) := by
  have := Rd.num_plain (s.take 52) 4 (by omega) (by omega) (by rw [List.length_take]; omega)
  rw [List.take_take] at this
  exact this
theorem num_h2 {s : List Int} (h : s.length = 64) : Rd.num ⟨(s.take 52).drop 4, false⟩ 4 = (epoM s, ⟨(s.take 52).drop 8, false⟩) := by
  have := Rd.num_plain ((s.take 52).drop 4) 4 (by omega) (by omega) (by rw [List.length_drop, List.length_take]; omega)
  rw [show ((s.take 52).drop 4).take 4 = (s.drop 4).take 4 by rw [List.drop_take, List.take_take]; rfl, List.drop_drop] at this
  exact this
theorem num_h3 {s : List Int} (h : s.length = 64) : Rd.num ⟨(s.take 52).drop 8, false⟩ 1 = (lenM s, ⟨(s.take 52).drop 9, false⟩) := by
  have := Rd.num_plain ((s.take 52).drop 8) 1 (by omega) (by omega) (by rw [List.length_drop, List.length_take]; omega)
  rw [show ((s.take 52).drop 8).take 1 = (s.drop 8).take 1 by rw [List.drop_take, List.take_take]; rfl, List.drop_drop] at this
  exact this
theorem num_t1 {s : List Int} (h : s.length = 64) : Rd.num ⟨s.drop 52, false⟩ 4 = (sumA s, ⟨s.drop 56, false⟩) := by
  have := Rd.num_plain (s.drop 52) 4 (by omega) (by omega) (by rw [List.length_drop]; omega)
  rw [List.drop_drop] at this
  exact this
theorem num_t2 {s : List Int} (h : s.length = 64) : Rd.num ⟨s.drop 56, false⟩ 4 = (agaM s, ⟨s.drop 60, false⟩) := by
  have := Rd.num_plain (s.drop 56) 4 (by omega) (by omega) (by rw [List.length_drop]; omega)
  rw [List.drop_drop] at this
  exact this
theorem num_t3 {s : List Int} (h : s.length = 64) : Rd.num ⟨s.drop 60, false⟩ 4 = (alsM s, ⟨s.drop 64, false⟩) := by
  have := Rd.num_plain (s.drop 60) 4 (by omega) (by omega) (by rw [List.length_drop]; omega)
  rw [List.drop_drop] at this
  exact this
theorem at4_range {s : List Int} (h : Bytes s) (o : Nat) : 0 ≤ at4 s o ∧ at4 s o < 4294967296 := by
  unfold at4
  have h1 := ofB_range ((h.drop o).take 4)
  have h2 : ((s.drop o).take 4).length ≤ 4 := by rw [List.length_take]; omega
  have h3 : ∀ k, k ≤ 4 → (256 : Int) ^ k ≤ 4294967296 := by decide
  have := h3 _ h2
  omega
theorem lenM_range {s : List Int} (h : Bytes s) : 0 ≤ lenM s ∧ lenM s < 256 := by
  unfold lenM
  have h1 := ofB_range ((h.drop 8).take 1)
  have h2 : ((s.drop 8).take 1).length ≤ 1 := by rw [List.length_take]; omega
  have h3 : ∀ k, k ≤ 1 → (256 : Int) ^ k ≤ 256 := by decide
  have := h3 _ h2
  omega
theorem parseM_yes {s : List Int} (h : fineM s = true) : parseM s = ⟨seqM s, epoM s, bodyM s, true⟩ := if_pos h
theorem parseM_no {s : List Int} (h : fineM s = false) : parseM s = ⟨0, 0, [], false⟩ := if_neg (by rw [h]; exact Bool.false_ne_true)
theorem u64_u32 {x : Int} (h : 0 ≤ x ∧ x < 4294967296) : IntKind.u32.wrap x = x := by
  have : IntKind.u32.wrap x = x % 4294967296 := rfl
  omega
set_option maxHeartbeats 4000000 in
set_option maxRecDepth 100000 in
theorem parse_st {M0 : Imm} {L : List Res} (hT : Tbl M0) (A : Option Addr) (n c : Nat) (s : List Int) (w : World) (hb : Bytes s) (_hl : s.length ≤ 100000) (h : St M0 w (intsR .u8 (.slice A n c) s :: L)) :
    Calls Tryz.prog 99 #[.slice A n c] w fun u w' => ∃ A' c', u = .returned (.tuple #[.int .u32 (parseM s).q, .int .u32 (parseM s).e, .slice A' (parseM s).b.length c', .bool (parseM s).ok]) ∧ St M0 w' (intsR .u8 (.slice A' (parseM s).b.length c') (parseM s).b :: intsR .u8 (.slice A n c) s :: L) := by
  obtain ⟨hn, hnc, hcm, hsl⟩ := (h.get 0 rfl).sl
  by_cases h64 : n = 64
  · subst h64
    obtain ⟨ad, rfl, _⟩ := hsl.2 (by omega)
    have HN := hide hn.symm
    have HB := hide hb
    have HP1 := hide (fun hf => parseM_yes (s := s) hf)
    have HP0 := hide (fun hf => parseM_no (s := s) hf)
    have HBO := hide (show bodyM s = (s.drop 9).take (lenM s).toNat from rfl)
    have r1 := at4_range hb 0
    have r2 := at4_range hb 4
    have r3 := lenM_range hb
    have r4 := at4_range hb 52
    have r5 := at4_range hb 56
    have r6 := at4_range hb 60
    have r1 : 0 ≤ seqM s ∧ seqM s < 4294967296 := r1
    have r2 : 0 ≤ epoM s ∧ epoM s < 4294967296 := r2
    have r4 : 0 ≤ sumA s ∧ sumA s < 4294967296 := r4
    have r5 : 0 ≤ agaM s ∧ agaM s < 4294967296 := r5
    have r6 : 0 ≤ alsM s ∧ alsM s < 4294967296 := r6
    have w1 := u64_u32 r1
    have w2 := u64_u32 r2
    have w4 := u64_u32 r4
    have w5 := u64_u32 r5
    have w6 := u64_u32 r6
    obtain ⟨ln, hln⟩ : ∃ ln : Nat, lenM s = (ln : Int) := ⟨(lenM s).toNat, by omega⟩
    have w3 : IntKind.i64.wrap (lenM s) = (ln : Int) := (IntWalk.i64_in _ (by omega)).trans hln
    have hl255 : ln ≤ 255 := by omega
    obtain ⟨b1, hb1⟩ : ∃ b1, (seqM s == 0) = b1 := ⟨_, rfl⟩
    obtain ⟨b2, hb2⟩ : ∃ b2, (seqM s != agaM s) = b2 := ⟨_, rfl⟩
    obtain ⟨b3, hb3⟩ : ∃ b3, (epoM s != alsM s) = b3 := ⟨_, rfl⟩
    obtain ⟨b4, hb4⟩ : ∃ b4, decide ((ln : Int) > 43) = b4 := ⟨_, rfl⟩
    have hb4' : decide ((43 : Int) < (ln : Int)) = b4 := hb4
    obtain ⟨b5, hb5⟩ : ∃ b5, (sumA s != sumM (s.take 52)) = b5 := ⟨_, rfl⟩
    have HFI := hide (show fineM s = !(b1 || b2 || b3 || b4 || b5) by
      unfold fineM
      rw [hb1, hb2, hb3, hb5, hln, hb4, decide_eq_true HN.out]
      rfl)
    have d0 : ((64 : Int) != 64) = false := isNF rfl
    have hc52 : (52 : Int) ≤ (c : Int) := by omega
    have hc52' : ¬ c = 52 := by omega
    have hc52'' : 52 ≤ c := by omega
    have HLE := hide hln
    have h0 := h
    clear h hsl hb _hl r1 r2 r3 r4 r5 r6 hln hn
    go_enter Tryz.func99, Tryz.ntmps99
    go_wp2_with fail
    refine region_flow (M0 := M0) (L0 := L) [⟨none, none, fun e => intsR .u8 (.slice (some ad) 64 c) s⟩, ⟨some 2, none, fun e => rdR (e 2).n ⟨s.take 52, false⟩⟩, ⟨some 5, none, fun e => rdR (e 5).n ⟨s.drop 52, false⟩⟩] [[], [0], [0, 1], [], [3], [0, 1, 2, 3, 4], [0, 1, 2, 3, 4, 5], [0, 1, 2, 3, 4, 5, 6]] [0, 1, 2, 3, 4, 5, 6, 7] rfl (by kernel_rfl) (by kernel_rfl) (by kernel_rfl) (by rfl) (fun _ => rfl) (show St M0 _ (intsR .u8 (.slice (some ad) 64 c) s :: L) from h0) ?_
    refine flow_run _ rfl (fun _ => rfl) (fun e wx Lx h => by (go_simp; try rfl)) (by intro e; rfl) (by intro e; rfl) (by intro e x; rfl) ?_
    (simp only [Act.put, List.setIfInBounds_toArray, List.set_cons_succ, List.set_cons_zero])
    refine flow_run (fun e => .slice (some ad) 52 c) rfl (fun _ => rfl) (fun e wx Lx h => by (go_simp; try rfl)) (by intro e; rfl) (by intro e; rfl) (by intro e x; rfl) ?_
    (simp only [Act.put, List.setIfInBounds_toArray, List.set_cons_succ, List.set_cons_zero])
    refine flow_call 48 (fun e => #[.slice (some ad) 52 c]) (fun e => .pointer (some ⟨(e 2).n, 0, none⟩)) rfl (fun _ => rfl) (by intro e; rfl) (fun e wx => by (go_simp; try rfl)) (fun e wx Lx h => by (
      have h : St M0 wx (intsR .u8 (.slice (some ad) 64 c) s :: Lx) := h
      refine (read_st (.slice (some ad) 52 c) (s.take 52) _ (St.cutA h)).mono ?_
      rintro u wy ⟨g, rfl, h1⟩
      have hk : St M0 wy (intsR .u8 (.slice (some ad) 64 c) s :: rdR g ⟨s.take 52, false⟩ :: Lx) := h1.sub (by (repeat (first | with_reducible exact Sub.refl _ | (with_reducible apply Sub.take; focus (repeat (first | with_reducible exact At.here | with_reducible apply At.there))) | with_reducible apply Sub.drop)))
      exact ⟨⟨none, g, default⟩, rfl, hk⟩)) ?_
    (simp only [Act.put, List.setIfInBounds_toArray, List.set_cons_succ, List.set_cons_zero])
    refine flow_run _ rfl (fun _ => rfl) (fun e wx Lx h => by (go_simp; try rfl)) (by intro e; rfl) (by intro e; rfl) (by intro e x; rfl) ?_
    (simp only [Act.put, List.setIfInBounds_toArray, List.set_cons_succ, List.set_cons_zero])
    refine flow_run (fun e => .slice (some (ad.add 52)) 12 (c - 52)) rfl (fun _ => rfl) (fun e wx Lx h => by (go_simp; try rfl)) (by intro e; rfl) (by intro e; rfl) (by intro e x; rfl) ?_
    (simp only [Act.put, List.setIfInBounds_toArray, List.set_cons_succ, List.set_cons_zero])
    refine flow_call 48 (fun e => #[.slice (some (ad.add 52)) 12 (c - 52)]) (fun e => .pointer (some ⟨(e 5).n, 0, none⟩)) rfl (fun _ => rfl) (by intro e; rfl) (fun e wx => by (go_simp; try rfl)) (fun e wx Lx h => by (
      have h : St M0 wx (intsR .u8 (.slice (some ad) 64 c) s :: rdR (e 2).n ⟨s.take 52, false⟩ :: Lx) := h
      refine (read_st (.slice (some (ad.add 52)) 12 (c - 52)) (s.drop 52) _ (St.dropA h)).mono ?_
      rintro u wy ⟨g, rfl, h1⟩
      have hk : St M0 wy (intsR .u8 (.slice (some ad) 64 c) s :: rdR (e 2).n ⟨s.take 52, false⟩ :: rdR g ⟨s.drop 52, false⟩ :: Lx) := h1.sub (by (repeat (first | with_reducible exact Sub.refl _ | (with_reducible apply Sub.take; focus (repeat (first | with_reducible exact At.here | with_reducible apply At.there))) | with_reducible apply Sub.drop)))
      exact ⟨⟨none, g, default⟩, rfl, hk⟩)) ?_
    (simp only [Act.put, List.setIfInBounds_toArray, List.set_cons_succ, List.set_cons_zero])
    refine flow_run _ rfl (fun _ => rfl) (fun e wx Lx h => by (go_simp; try rfl)) (by intro e; rfl) (by intro e; rfl) (by intro e x; rfl) ?_
    (simp only [Act.put, List.setIfInBounds_toArray, List.set_cons_succ, List.set_cons_zero])
    refine flow_run _ rfl (fun _ => rfl) (fun e wx Lx h => by (go_simp; try rfl)) (by intro e; rfl) (by intro e; rfl) (by intro e x; rfl) ?_
    (simp only [Act.put, List.setIfInBounds_toArray, List.set_cons_succ, List.set_cons_zero])
    refine flow_nil ?_
    intro e w1 h
    have h : St M0 w1 (intsR .u8 (.slice (some ad) 64 c) s :: rdR (e 2).n ⟨s.take 52, false⟩ :: rdR (e 5).n ⟨s.drop 52, false⟩ :: L) := h
    obtain ⟨g0, hg0⟩ : ∃ g0, (e 2).n = g0 := ⟨_, rfl⟩
    obtain ⟨g1, hg1⟩ : ∃ g1, (e 5).n = g1 := ⟨_, rfl⟩
    rw [hg0, hg1] at h
    have H1 := hide h
    clear h h0
    go_wp2_with fail
    rw [hg0]
    have OKh := hide (show Rd.Ok ⟨s.take 52, false⟩ from ⟨HB.out.take _, by show (s.take 52).length ≤ _; rw [List.length_take]; omega, fun h => by cases h⟩)
    have OKt := hide (show Rd.Ok ⟨s.drop 52, false⟩ from ⟨HB.out.drop _, by show (s.drop 52).length ≤ _; rw [List.length_drop, HN.out]; omega, fun h => by cases h⟩)
    refine (rdnum_st g0 _ 4 _ OKh.out.hb OKh.out.hl OKh.out.hz (H1.out.front (X := rdR g0 ⟨s.take 52, false⟩) (by (repeat (first | with_reducible exact At.here | with_reducible apply At.there))))).mono ?_
    rintro u v1 ⟨rfl, h⟩
    have OK2 := hide (OKh.out.num 4)
    rw [num_h1 HN.out] at h OK2 ⊢
    have H2 := hide h
    clear h H1
    go_wp2_with fail
    refine (rdnum_st g0 _ 4 _ OK2.out.hb OK2.out.hl OK2.out.hz H2.out).mono ?_
    rintro u v2 ⟨rfl, h⟩
    have OK3 := hide (OK2.out.num 4)
    rw [num_h2 HN.out] at h OK3 ⊢
    have H3 := hide h
    clear h H2
    go_wp2_with fail
    refine (rdnum_st g0 _ 1 _ OK3.out.hb OK3.out.hl OK3.out.hz H3.out).mono ?_
    rintro u v3 ⟨rfl, h⟩
    rw [num_h3 HN.out] at h ⊢
    have H4 := hide (h.front (X := rdR g1 ⟨s.drop 52, false⟩) (by (repeat (first | with_reducible exact At.here | with_reducible apply At.there))))
    clear h H3
    go_wp2_with fail
    refine (rdnum_st g1 _ 4 _ OKt.out.hb OKt.out.hl OKt.out.hz H4.out).mono ?_
    rintro u v4 ⟨rfl, h⟩
    have OK5 := hide (OKt.out.num 4)
    rw [num_t1 HN.out] at h OK5 ⊢
    have H5 := hide h
    clear h H4
    go_wp2_with fail
    refine (rdnum_st g1 _ 4 _ OK5.out.hb OK5.out.hl OK5.out.hz H5.out).mono ?_
    rintro u v5 ⟨rfl, h⟩
    have OK6 := hide (OK5.out.num 4)
    rw [num_t2 HN.out] at h OK6 ⊢
    have H6 := hide h
    clear h H5
    go_wp2_with fail
    refine (rdnum_st g1 _ 4 _ OK6.out.hb OK6.out.hl OK6.out.hz H6.out).mono ?_
    rintro u v6 ⟨rfl, h⟩
    rw [num_t3 HN.out] at h ⊢
    have H7 := hide (h.sub (L' := intsR .u8 (.slice (some ad) 64 c) s :: L) (by (repeat (first | with_reducible exact Sub.refl _ | (with_reducible apply Sub.take; focus (repeat (first | with_reducible exact At.here | with_reducible apply At.there))) | with_reducible apply Sub.drop))))
    clear h H6 hg0 hg1
    have HS := hide (sum_st hT (.slice (some ad) 52 c) (s.take 52) _ (HB.out.take _) ((H7.out.get 0 rfl).cut (by omega)) H7.out)
    generalize seqM s = q at *
    generalize epoM s = ep at *
    generalize agaM s = ag at *
    generalize alsM s = al at *
    generalize sumA s = sa at *
    generalize sumM (s.take 52) = sm at *
    cases b1
    case' true => skip
    case' false => cases b2
    case' false.true => skip
    case' false.false => cases b3
    case' false.false.true => skip
    case' false.false.false => cases b4
    case' false.false.false.true => skip
    case' false.false.false.false => cases b5
    case false.false.false.false.false =>
      have HF := hide (HP1.out HFI.out)
      have hl43 : ln ≤ 43 := by have := of_decide_eq_false hb4; omega
      have x1 : IntKind.i64.wrap (9 + (ln : Int)) = ((9 + ln : Nat) : Int) := (IntWalk.i64_in _ (by omega)).trans (by omega)
      have x2 : (9 : Int) ≤ ((9 + ln : Nat) : Int) := by omega
      have x3 : ((9 + ln : Nat) : Int) ≤ (c : Int) := by omega
      have x4 : ¬ c = 9 := by omega
      go_wp2_with (go_at_call 106; refine HS.out.mono ?_; rintro u v7 ⟨rfl, h⟩; have H8 := hide h; clear h H7 HS)
      have HC := hide (show Ints _ .u8 (.slice (some (ad.add 9)) ln (c - 9)) ((s.drop 9).take ln) from by
        have h1 := (H8.out.get 0 rfl).drop (m := 9) (by omega) (some (ad.add 9)) (fun _ => rfl)
        exact h1.cut (m := ln) (by omega))
      refine (clone_st (some (ad.add 9)) ln (c - 9) ((s.drop 9).take ln) _ HC.out.sl.2.2.2 (by omega) H8.out).mono ?_
      rintro u v8 ⟨v, rfl, h⟩
      have hbl : ((s.drop 9).take ln).length = ln := HC.out.sl.1.symm
      obtain ⟨A', c', rfl⟩ := h.slice
      have hb' : bodyM s = (s.drop 9).take ln := by rw [HBO.out, HLE.out, Int.toNat_natCast]
      have H9 := hide (St.ints (k := .u8) (xs := (s.drop 9).take ln) h)
      clear h H8
      go_wp2_with fail
      ((try simp only [Exit.inBlock, Exit.then]); refine bodyPost_ret (results_four rfl _ _ _) rfl ?_)
      exact ⟨A', c', by rw [HF.out]; show _ = Ending.returned (.tuple #[_, _, .slice A' (bodyM s).length c', _]); rw [hb', hbl]; rfl, by rw [HF.out]; show St M0 _ (intsR .u8 (.slice A' (bodyM s).length c') (bodyM s) :: _); rw [hb', hbl]; exact H9.out⟩
    all_goals
      have HF := hide (HP0.out HFI.out)
      have H9 := hide (H7.out.pers0 (R := fun w => Ints w .u8 (.slice none 0 0) []) (fun w' _ => Ints.none_ w' .u8))
      go_wp2_with (go_at_call 106; refine HS.out.mono ?_; rintro u v7 ⟨rfl, h⟩; clear H9; have H9 := hide (h.pers0 (R := fun w => Ints w .u8 (.slice none 0 0) []) (fun w' _ => Ints.none_ w' .u8)); clear h)
      ((try simp only [Exit.inBlock, Exit.then]); refine bodyPost_ret (results_four rfl _ _ _) rfl ?_)
      exact ⟨none, 0, by rw [HF.out]; rfl, by rw [HF.out]; exact H9.out⟩
  · have d0 : ((n : Int) != 64) = true := isN (by omega)
    have hf : fineM s = false := by
      unfold fineM
      rw [decide_eq_false (by omega)]
      rfl
    have HP0 := hide (parseM_no hf)
    have H := hide (h.pers0 (R := fun w => Ints w .u8 (.slice none 0 0) []) (fun w' _ => Ints.none_ w' .u8))
    clear h hsl hf hn
    go_enter Tryz.func99, Tryz.ntmps99
    go_wp2_with fail
    ((try simp only [Exit.inBlock, Exit.then]); refine bodyPost_ret (results_four rfl _ _ _) rfl ?_)
    exact ⟨none, 0, by rw [HP0.out]; rfl, by rw [HP0.out]; exact H.out⟩
end Go.Proofs.YtpaelngpmbeedaaGreatDoor
