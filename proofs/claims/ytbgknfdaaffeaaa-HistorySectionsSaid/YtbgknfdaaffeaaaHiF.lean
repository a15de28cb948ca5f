/- History: resources (blocks, puts, looks, sections); bytes.Equal, at, behind. -/
import Derived.Test.YtbgknfdaaffeaaaHiM
import Derived.Test.YtbgknfdaaffeaaaFlowS
import Derived.Test.YtbgknfdaaffeaaaCloneSt
import Derived.Deep.LoopGhost
import Derived.Lib.Strings
import Derived.Lib.Slices
import Derived.Lib.Walk
import Derived.Lib.Bytes
namespace Go.Proofs.Ytbgknfdaaffeaaa
open Go.RowKit

/-- a slice's value -/
structure SV where
  a : Option Addr
  n : Nat
  c : Nat
abbrev fourV (s : Nat → SV) : Value := .agg #[.slice (s 0).a (s 0).n (s 0).c, .slice (s 1).a (s 1).n (s 1).c, .slice (s 2).a (s 2).n (s 2).c, .slice (s 3).a (s 3).n (s 3).c]
abbrev fourC (s : Nat → SV) : Array Value := #[.slice (s 0).a (s 0).n (s 0).c, .slice (s 1).a (s 1).n (s 1).c, .slice (s 2).a (s 2).n (s 2).c, .slice (s 3).a (s 3).n (s 3).c]
abbrev fourR (s : Nat → SV) (b : Nat → List Int) : Res := persR (fun w => ∀ j, j < 4 → Ints w .u8 (.slice (s j).a (s j).n (s j).c) (b j))
theorem lt4 {k : Nat} (h : k < 4) : k = 0 ∨ k = 1 ∨ k = 2 ∨ k = 3 := by omega
theorem fourC_at (s : Nat → SV) {k : Nat} (hk : k < 4) : (fourC s)[k]? = some (.slice (s k).a (s k).n (s k).c) := by
  rcases lt4 hk with rfl | rfl | rfl | rfl <;> rfl
theorem fourC_set (s : Nat → SV) {k : Nat} (hk : k < 4) (u : SV) : (fourC s).setIfInBounds k (.slice u.a u.n u.c) = fourC (upd s k u) := by
  rcases lt4 hk with rfl | rfl | rfl | rfl <;> rfl
theorem results_cell1 {fn : Func} {t : Nat} {ty : TypeId} {P : Program} {w : World} {v : Value} {a : Addr} (h : fn.results = #[.cell t ty]) (tmps : Array Value) (ha : tmps.getD t undef = .pointer (some a)) (hl : (loadVar ty a).run P w = .ok v w) :
    (results fn tmps).run P w = .ok v w := by
  have ha' : tmps[t]?.getD undef = .pointer (some a) := by simpa using ha
  simp [results, h, ha', asAddr, hl]

def PutHR (w : World) (cs : List Value) (p : PutH) : Prop := ∃ v, cs = [.int .i64 p.i, v] ∧ Ints w .u8 v p.d
def LookHR (w : World) (cs : List Value) (p : LookH) : Prop := ∃ v, cs = [.int .i64 p.a, .int .i64 p.i, v] ∧ Ints w .u8 v p.d

theorem cells2H {w : World} {p : Addr} {a b : Value} (h : ∀ j u, [a, b][j]? = some u → w.cell? (p.add j) = some u) : w.cell? p = some a ∧ w.cell? ⟨p.block, p.off + 1, none⟩ = some b :=
  ⟨by simpa [Addr.add] using h 0 a rfl, by simpa [Addr.add] using h 1 b rfl⟩
/-! ### bytes.Equal -/
theorem run_convert_ints {w : World} {v : Value} {xs : List Int} (h : Ints w .u8 v xs) : (convert 48 9 v).run Try.prog w = .ok (.string (strOfNums xs)) w := by
  obtain ⟨A, c, rfl, hc, hm, hs⟩ := h
  cases A with
  | none =>
    have h0 : xs = [] := by
      rcases Nat.eq_zero_or_pos xs.length with h0 | h0
      · exact List.eq_nil_of_length_eq_zero h0
      · obtain ⟨ad, e, _⟩ := hs.2 h0
        cases e
    subst h0
    exact run_convert_bytes_nil w 48 5 Try.underlying48 Try.underlying5 _ _ 9 Try.underlying9
  | some ad =>
    have hl : (loadCells ad xs.length).run Try.prog w = .ok (xs.map (Value.int .u8)).toArray w := by
      have := run_loadCells_list (P := Try.prog) w ad (xs.map (Value.int .u8)) (fun j v hj => by
        have hjl : j < xs.length := by have := (List.getElem?_eq_some_iff.1 hj).1; simpa using this
        obtain ⟨ad', e, _, _, hcc⟩ := hs.2 (by omega)
        injection e with e
        subst e
        exact hcc j v hj)
      simpa using this
    rw [run_convert_bytes_string w 48 9 5 _ xs.length c Try.underlying48 Try.underlying5 Try.underlying9, run_bytesToString w _ xs.length c xs hl, foldl_push_bytes]
    simp [strOfNums, ByteArray.empty, ByteArray.emptyWithCapacity]
    rfl
def Byt (xs : List Int) : Prop := ∀ x ∈ xs, 0 ≤ x ∧ x < 256
theorem bytesOf_eq : ∀ (xs ys : List Int), Byt xs → Byt ys → (Lib.bytesOf xs = Lib.bytesOf ys ↔ xs = ys)
  | [], [], _, _ => by simp
  | [], y :: ys, _, _ => by simp [Lib.bytesOf]
  | x :: xs, [], _, _ => by simp [Lib.bytesOf]
  | x :: xs, y :: ys, hx, hy => by
    have h1 := hx x (by simp)
    have h2 := hy y (by simp)
    have ih := bytesOf_eq xs ys (fun a ha => hx a (by simp [ha])) (fun a ha => hy a (by simp [ha]))
    show UInt8.ofNat x.toNat :: Lib.bytesOf xs = UInt8.ofNat y.toNat :: Lib.bytesOf ys ↔ _
    rw [List.cons.injEq, List.cons.injEq, ih]
    have : UInt8.ofNat x.toNat = UInt8.ofNat y.toNat ↔ x = y := by
      refine ⟨fun e => ?_, fun e => by rw [e]⟩
      have := congrArg UInt8.toNat e
      rw [UInt8.toNat_ofNat', UInt8.toNat_ofNat', Nat.mod_eq_of_lt (by omega), Nat.mod_eq_of_lt (by omega)] at this
      omega
    rw [this]
set_option maxHeartbeats 1000000 in
theorem equal_q (v u : Value) (xs ys : List Int) (w : World) (hx : Ints w .u8 v xs) (hy : Ints w .u8 u ys) (bx : Byt xs) (by_ : Byt ys) :
    Calls Try.prog 156 #[v, u] w fun e w' => e = .returned (.bool (decide (xs = ys))) ∧ w = w' := by
  have h1 := run_convert_ints hx
  have h2 := run_convert_ints hy
  have hd : decide (xs = ys) = (Lib.bytesOf xs == Lib.bytesOf ys) := by
    rw [Bool.eq_iff_iff, decide_eq_true_eq, beq_iff_eq, bytesOf_eq xs ys bx by_]
  rw [hd, ← Lib.strOfNums_toList, ← Lib.strOfNums_toList]
  clear hx hy hd bx by_
  go_enter Try.func156, Try.ntmps156
  go_wp2
  go_ret
  exact ⟨rfl, rfl⟩
theorem equal_st {M0 : Imm} {L : List Res} (v u : Value) (xs ys : List Int) (w : World) (hx : Ints w .u8 v xs) (hy : Ints w .u8 u ys) (bx : Byt xs) (by_ : Byt ys) (h : St M0 w L) :
    Calls Try.prog 156 #[v, u] w fun e w' => e = .returned (.bool (decide (xs = ys))) ∧ St M0 w' L := by
  refine (equal_q v u xs ys w hx hy bx by_).mono ?_
  rintro e w' ⟨he, rfl⟩
  exact ⟨he, h⟩

/-! ### at -/
set_option maxHeartbeats 1000000 in
set_option maxRecDepth 100000 in
theorem at_st {M0 : Imm} {L : List Res} (s : Nat → SV) (b : BlH) (i : Int) (w : World) (h : St M0 w (fourR s b :: L)) :
    Calls Try.prog 157 #[fourV s, .int .i64 i] w fun e w' => ∃ v, e = .returned v ∧ St M0 w' (intsR .u8 v (atB b i) :: L) := by
  have h1 := h.alloc 142 (fourC s)
  have H := hide h1.tail
  have y0 := (h1.blk 0 rfl).cell
  clear h h1
  by_cases h0 : i < 0
  · have E := hide (show atB b i = [] from if_neg (by omega))
    have d1 : decide (i < 0) = true := decide_eq_true h0
    clear y0
    go_enter Try.func157, Try.ntmps157
    go_wp2_with fail
    go_ret
    exact ⟨_, rfl, by rw [E.out]; exact H.out.tail.pers0 (fun w' _ => Ints.none_ w' _)⟩
  · have d1 : decide (i < 0) = false := decide_eq_false h0
    by_cases h4 : 4 ≤ i
    · have E := hide (show atB b i = [] from if_neg (by omega))
      have d2 : decide (4 ≤ i) = true := decide_eq_true h4
      have d3 : decide (i ≥ 4) = true := d2
      clear y0
      go_enter Try.func157, Try.ntmps157
      go_wp2_with fail
      go_ret
      exact ⟨_, rfl, by rw [E.out]; exact H.out.tail.pers0 (fun w' _ => Ints.none_ w' _)⟩
    · have d2 : decide (4 ≤ i) = false := decide_eq_false h4
      have d3 : decide (i ≥ 4) = false := d2
      obtain ⟨j, rfl⟩ := Int.eq_ofNat_of_zero_le (by omega : 0 ≤ i)
      have hj : j < 4 := by omega
      have y1 := (y0 j).trans (fourC_at s hj)
      have E := hide (show atB b (j : Int) = b j by unfold atB; rw [if_pos (by omega), Int.toNat_natCast])
      have j0 : (0 : Int) ≤ (j : Int) := by omega
      have j1 : (j : Int) < 4 := by omega
      clear y0
      go_enter Try.func157, Try.ntmps157
      go_wp2_with fail
      go_ret
      exact ⟨_, rfl, by rw [E.out]; exact H.out.pers1 (fun w' hw => hw j hj)⟩

/-! ### behind -/
set_option maxHeartbeats 4000000 in
set_option maxRecDepth 100000 in
theorem behind_st {M0 : Imm} {L : List Res} (s : Nat → SV) (b : BlH) (l : List PutH) (A : Option Addr) (n c m : Nat) (w : World) (hm : m ≤ n) (h : St M0 w (fourR s b :: rowsR 2 PutHR (.slice A n c) l :: L)) :
    Calls Try.prog 131 #[fourV s, .slice A n c, .int .i64 (m : Nat)] w fun e w' => ∃ u, e = .returned (fourV u) ∧ St M0 w' (fourR u (behB b (l.take m)) :: L) := by
  obtain ⟨A', c', e, hc, hmc⟩ := (h.getRows 1 rfl).slice
  injection e with e1 e2 e3
  subst e1; subst e3
  have HN := hide e2
  have hnc : n ≤ c := by omega
  have hm0 : (0 : Int) ≤ (m : Int) := by omega
  have hm1 : (m : Int) ≤ (c : Int) := by omega
  have h1 := (h.alloc 142 (fourC s)).alloc 142 #[.slice none 0 0, .slice none 0 0, .slice none 0 0, .slice none 0 0]
  rw [World.size_alloc] at h1
  have H := hide h1
  clear h e2 h1 hc
  go_enter Try.func131, Try.ntmps131
  go_wp2_with fail
  generalize w.heap.size = g at *
  clear hm0 hm1
  go_loopg [13] m (fun gh i wr => ∃ (k : Nat) (u : Nat → SV), gh = m - k ∧ k ≤ m ∧ i = .int .i64 (k : Nat) ∧ St M0 wr (blkR (g + 1) 142 #[.slice none 0 0, .slice none 0 0, .slice none 0 0, .slice none 0 0] :: blkR g 142 (fourC u) :: fourR u (behB b (l.take k)) :: rowsR 2 PutHR (.slice A n c) l :: L))
  case atStart => exact ⟨0, s, rfl, by omega, rfl, H.out⟩
  case round =>
    clear H
    obtain ⟨k, u, hg, hk, rfl, h⟩ := hrel
    have HG := hide hg
    clear hg
    by_cases hlt : k < m
    · have hx := List.getElem?_eq_getElem (l := l) (i := k) (by rw [← HN.out]; omega)
      generalize l[k]'(by rw [← HN.out]; omega) = x at hx
      have HST := hide (behB_snoc b hx)
      obtain ⟨ad, cs, rfl, _, hcs, ⟨va, rfl, hv⟩, h1⟩ := h.elem 3 rfl hx
      obtain ⟨X, xc, rfl, _, _, _⟩ := id hv
      obtain ⟨f0, f1⟩ := cells2H hcs
      have h2 := (h1.pers1 (R' := fun w' => Ints w' .u8 (.slice X x.d.length xc) x.d) (fun w' hw => by
        obtain ⟨v, hv, hi⟩ := hw.2
        simp only [List.cons.injEq, and_true, true_and] at hv
        rw [hv]
        exact hi)).alloc 122 #[.int .i64 x.i, .slice X x.d.length xc]
      have i0 : (0 : Int) ≤ (k : Int) := by omega
      have i1 : (k : Int) < (m : Int) := by omega
      have x0 := (h2.blk 0 rfl).cell 0
      have x1 := (h2.blk 0 rfl).cell 1
      clear hx hcs hv h h1
      by_cases c0 : 0 ≤ x.i
      · have d0 : decide (0 ≤ x.i) = true := decide_eq_true c0
        have d0' : decide (x.i ≥ 0) = true := d0
        by_cases c1 : x.i < 4
        · have d1 : decide (x.i < 4) = true := decide_eq_true c1
          obtain ⟨j, hj⟩ := Int.eq_ofNat_of_zero_le c0
          have hj4 : j < 4 := by omega
          have HB := hide (show putB (behB b (l.take k)) x = upd (behB b (l.take k)) j x.d by unfold putB; rw [if_pos ⟨c0, c1⟩, hj, Int.toNat_natCast])
          have y0 : (wr.alloc (.cells #[.int .i64 x.i, .slice X x.d.length xc] 122)).cell? ⟨g, j, none⟩ = some (.slice (u j).a (u j).n (u j).c) := ((h2.blk 3 rfl).cell j).trans (fourC_at u hj4)
          have f := (h2.blk 3 rfl).frozen
          have h3 := ((h2.sub (L' := blkR g 142 (fourC u) :: blkR (g + 1) 142 #[.slice none 0 0, .slice none 0 0, .slice none 0 0, .slice none 0 0] :: intsR .u8 (.slice X x.d.length xc) x.d :: fourR u (behB b (l.take k)) :: rowsR 2 PutHR (.slice (some ad) n c) l :: L) (by (repeat (first | with_reducible exact Sub.refl _ | (with_reducible apply Sub.take; focus (repeat (first | with_reducible exact At.here | with_reducible apply At.there))) | with_reducible apply Sub.drop)))).set_ j (.slice X x.d.length xc))
          rw [fourC_set u hj4 ⟨X, x.d.length, xc⟩] at h3
          have h4 := ((h3.sub (L' := intsR .u8 (.slice X x.d.length xc) x.d :: fourR u (behB b (l.take k)) :: blkR g 142 (fourC (upd u j ⟨X, x.d.length, xc⟩)) :: blkR (g + 1) 142 #[.slice none 0 0, .slice none 0 0, .slice none 0 0, .slice none 0 0] :: rowsR 2 PutHR (.slice (some ad) n c) l :: L) (by (repeat (first | with_reducible exact Sub.refl _ | (with_reducible apply Sub.take; focus (repeat (first | with_reducible exact At.here | with_reducible apply At.there))) | with_reducible apply Sub.drop)))).pers2 (Q := fun w' => ∀ i, i < 4 → Ints w' .u8 (.slice ((upd u j ⟨X, x.d.length, xc⟩) i).a ((upd u j ⟨X, x.d.length, xc⟩) i).n ((upd u j ⟨X, x.d.length, xc⟩) i).c) (upd (behB b (l.take k)) j x.d i)) (fun w' ha hb i hi => by
            by_cases he : i = j
            · subst he
              rw [upd_at, upd_at]
              exact ha
            · rw [upd_ne _ _ _ _ he, upd_ne _ _ _ _ he]
              exact hb i hi))
          have H4 := hide (h4.sub (L' := blkR (g + 1) 142 #[.slice none 0 0, .slice none 0 0, .slice none 0 0, .slice none 0 0] :: blkR g 142 (fourC (upd u j ⟨X, x.d.length, xc⟩)) :: fourR (upd u j ⟨X, x.d.length, xc⟩) (upd (behB b (l.take k)) j x.d) :: rowsR 2 PutHR (.slice (some ad) n c) l :: L) (by (repeat (first | with_reducible exact Sub.refl _ | (with_reducible apply Sub.take; focus (repeat (first | with_reducible exact At.here | with_reducible apply At.there))) | with_reducible apply Sub.drop))))
          have j0 : (0 : Int) ≤ (j : Int) := by omega
          have j1 : (j : Int) < 4 := by omega
          rw [hj] at x0 f0 d0 d0' d1 y0 f H4 h2
          clear h2 h3 h4 hj c0 c1
          go_wp2_with fail
          go_roundg (m - (k + 1))
          case measure => have := HG.out; omega
          case rel => exact ⟨k + 1, upd u j ⟨X, x.d.length, xc⟩, rfl, by omega, by go_num, by rw [HST.out, HB.out]; exact H4.out⟩
        · have d1 : decide (x.i < 4) = false := decide_eq_false c1
          have HB := hide (show putB (behB b (l.take k)) x = behB b (l.take k) by unfold putB; rw [if_neg (fun h => c1 h.2)])
          have H4 := hide (h2.sub (L' := blkR (g + 1) 142 #[.slice none 0 0, .slice none 0 0, .slice none 0 0, .slice none 0 0] :: blkR g 142 (fourC u) :: fourR u (behB b (l.take k)) :: rowsR 2 PutHR (.slice (some ad) n c) l :: L) (by (repeat (first | with_reducible exact Sub.refl _ | (with_reducible apply Sub.take; focus (repeat (first | with_reducible exact At.here | with_reducible apply At.there))) | with_reducible apply Sub.drop))))
          clear h2 c0 c1
          go_wp2_with fail
          go_roundg (m - (k + 1))
          case measure => have := HG.out; omega
          case rel => exact ⟨k + 1, u, rfl, by omega, by go_num, by rw [HST.out, HB.out]; exact H4.out⟩
      · have d0 : decide (0 ≤ x.i) = false := decide_eq_false c0
        have d0' : decide (x.i ≥ 0) = false := d0
        have HB := hide (show putB (behB b (l.take k)) x = behB b (l.take k) by unfold putB; rw [if_neg (fun h => c0 h.1)])
        have H4 := hide (h2.sub (L' := blkR (g + 1) 142 #[.slice none 0 0, .slice none 0 0, .slice none 0 0, .slice none 0 0] :: blkR g 142 (fourC u) :: fourR u (behB b (l.take k)) :: rowsR 2 PutHR (.slice (some ad) n c) l :: L) (by (repeat (first | with_reducible exact Sub.refl _ | (with_reducible apply Sub.take; focus (repeat (first | with_reducible exact At.here | with_reducible apply At.there))) | with_reducible apply Sub.drop))))
        clear h2 c0
        go_wp2_with fail
        go_roundg (m - (k + 1))
        case measure => have := HG.out; omega
        case rel => exact ⟨k + 1, u, rfl, by omega, by go_num, by rw [HST.out, HB.out]; exact H4.out⟩
    · obtain rfl : k = m := by omega
      have H := hide (((((h.set_ 0 (.slice (u 0).a (u 0).n (u 0).c)).set_ 1 (.slice (u 1).a (u 1).n (u 1).c)).set_ 2 (.slice (u 2).a (u 2).n (u 2).c)).set_ 3 (.slice (u 3).a (u 3).n (u 3).c)).sub (L' := blkR (g + 1) 142 (((((#[.slice none 0 0, .slice none 0 0, .slice none 0 0, .slice none 0 0] : Array Value).setIfInBounds 0 (.slice (u 0).a (u 0).n (u 0).c)).setIfInBounds 1 (.slice (u 1).a (u 1).n (u 1).c)).setIfInBounds 2 (.slice (u 2).a (u 2).n (u 2).c)).setIfInBounds 3 (.slice (u 3).a (u 3).n (u 3).c)) :: fourR u (behB b (l.take k)) :: L) (by (repeat (first | with_reducible exact Sub.refl _ | (with_reducible apply Sub.take; focus (repeat (first | with_reducible exact At.here | with_reducible apply At.there))) | with_reducible apply Sub.drop))))
      have y0 := (h.blk 1 rfl).cell 0
      have y1 := (h.blk 1 rfl).cell 1
      have y2 := (h.blk 1 rfl).cell 2
      have y3 := (h.blk 1 rfl).cell 3
      have z0 := (h.blk 0 rfl).cell 0
      have z1 := (h.blk 0 rfl).cell 1
      have z2 := (h.blk 0 rfl).cell 2
      have z3 := (h.blk 0 rfl).cell 3
      have f := (h.blk 0 rfl).frozen
      clear h hlt
      go_wp2_with fail
      all_goals
        have u0 := (H.out.blk 0 rfl).cell 0
        have u1 := (H.out.blk 0 rfl).cell 1
        have u2 := (H.out.blk 0 rfl).cell 2
        have u3 := (H.out.blk 0 rfl).cell 3
        clear y0 y1 y2 y3 z0 z1 z2 z3 f
        refine bodyPost_ret (v := fourV u) (results_cell1 rfl _ rfl ?_) rfl ⟨u, rfl, H.out.tail⟩
        generalize World.setCell (World.setCell (World.setCell (World.setCell wr _ _) _ _) _ _) _ _ = w9 at *
        clear H
        go_simp
end Go.Proofs.Ytbgknfdaaffeaaa
