/- The statements' own examples: Cache. -/
import Derived.Test.YtbgknfdaaffeaaaCaKe
import Derived.Test.YtbgknfdaaffeaaaEqSt
namespace Go.Proofs.Ytbgknfdaaffeaaa
open Go.RowKit Go.Shelf

theorem St.newCache {M0 : Imm} {w : World} {L : List Res} (h : St M0 w L) : St M0 (w.alloc (.cells #[.slice none 0 0, .slice none 0 0] 43)) (cacheR w.heap.size [] [] :: L) := by
  have h1 := (((h.alloc 43 #[.slice none 0 0, .slice none 0 0]).nilGrow 153 3 PutR).nilGrow 153 3 PutR).pick (L' := blkR w.heap.size 43 #[.slice none 0 0, .slice none 0 0] :: growR 153 3 PutR (.slice none 0 0) [] :: growR 153 3 PutR (.slice none 0 0) [] :: L) 3 [2, 0, 1]
  exact h1.cacheC
instance putDec : DecidableEq PU := fun a b => decidable_of_iff (a.region = b.region ∧ a.index = b.index ∧ a.data = b.data)
  ⟨fun h => by obtain ⟨a1, a2, a3⟩ := a; obtain ⟨b1, b2, b3⟩ := b; obtain ⟨rfl, rfl, rfl⟩ := h; rfl, fun h => by subst h; exact ⟨rfl, rfl, rfl⟩⟩
def aP : PU := ⟨0, 1, [97]⟩
def bP : PU := ⟨0, 1, [98]⟩
theorem aw_1 : wrE [] [] ⟨0, 1, [97]⟩ = 0 ∧ wrB [] [] ⟨0, 1, [97]⟩ = [aP] ∧ wrW [] [] ⟨0, 1, [97]⟩ = [aP] := by decide
theorem aw_2 : readB [aP] 0 1 = [aP] ∧ readD [aP] 0 1 = [97] ∧ decide (0 ≤ idxP (keyIs 0 1) 0 [aP]) = true := by decide
theorem aw_3 : fillE [aP] [aP] 0 1 = 1 ∧ fillB [aP] [aP] ⟨0, 1, [98]⟩ = [aP] := by decide
theorem aw_4 : flE [aP] 0 1 = 0 ∧ flW [aP] 0 1 = [] := by decide
theorem aw_5 : fillE [aP] [] 0 1 = 0 ∧ fillB [aP] [] ⟨0, 1, [98]⟩ = [bP] := by decide
theorem aw_6 : readB [bP] 0 1 = [bP] ∧ readD [bP] 0 1 = [98] ∧ decide (0 ≤ idxP (keyIs 0 1) 0 [bP]) = true := by decide
def xP (k : Nat) : PU := ⟨(k : Int) % 2, (k : Int), []⟩
def xS : Nat → List PU × List PU × Int
  | 0 => ([], [], 0)
  | k + 1 => (wrB (xS k).1 (xS k).2.1 (xP k), wrW (xS k).1 (xS k).2.1 (xP k), wrE (xS k).1 (xS k).2.1 (xP k))
theorem xS_len : ∀ k, k < 8 → (xS k).1.length ≤ 1000000 ∧ (xS k).2.1.length ≤ 1000000 ∧ ∀ x ∈ (xS k).2.1, x.data.length ≤ 1000000 := by decide
theorem xS_7 : (xS 7).2.2 = 42 := by decide
set_option maxHeartbeats 4000000 in
set_option maxRecDepth 100000 in
theorem awakeC_st {M0 : Imm} {L : List Res} (w : World) (h : St M0 w L) : Calls Try.prog 22 #[] w fun e w' => e = .returned (.bool true) ∧ St M0 w' L := by
  have h1 := (h.newCache.alloc 52 #[.int .i64 0, .int .i64 1]).litInts 5 .u8 [97] (by decide) (w.heap.size + 1 + 1) (by simp)
  rw [World.size_alloc] at h1
  have y0 := (h1.blk 1 rfl).cell 0
  have y1 := (h1.blk 1 rfl).cell 1
  have H := hide (h1.pick (L' := intsR .u8 (.slice (some ⟨w.heap.size + 1 + 1, 0, none⟩) 1 1) [97] :: cacheR w.heap.size [] [] :: blkR (w.heap.size + 1) 52 #[.int .i64 0, .int .i64 1] :: L) 3 [0, 2, 1])
  clear h h1
  go_enter Try.func22, Try.ntmps22
  go_wp2_with fail
  refine (write_st w.heap.size [] [] 0 1 (some ⟨w.heap.size + 1 + 1, 0, none⟩) 1 1 [97] _ (by decide) (by decide) (fun x hx => by cases hx) H.out).mono ?_
  generalize w.heap.size = g at *
  rintro e w1 ⟨rfl, h⟩
  rw [aw_1.1]
  rw [aw_1.2.1, aw_1.2.2] at h
  clear H y0 y1
  have y0 := (h.blk 1 rfl).cell 0
  have y1 := (h.blk 1 rfl).cell 1
  have H := hide h
  clear h
  go_wp2_with fail
  refine (read_st g [aP] [aP] 0 1 _ (by decide) (by decide) H.out).mono ?_
  rintro e w2 ⟨v2, rfl, h⟩
  rw [aw_2.2.2]
  rw [aw_2.1, aw_2.2.1] at h
  clear H y0 y1
  have y0 := (h.blk 2 rfl).cell 0
  have y1 := (h.blk 2 rfl).cell 1
  have H := hide ((h.litInts 5 .u8 [98] (by decide) w2.heap.size rfl).pick (L' := intsR .u8 (.slice (some ⟨w2.heap.size, 0, none⟩) 1 1) [98] :: cacheR g [aP] [aP] :: blkR (g + 1) 52 #[.int .i64 0, .int .i64 1] :: intsR .u8 v2 [97] :: L) 4 [0, 2, 3, 1])
  clear h
  go_wp2_with fail
  refine (fill_st g [aP] [aP] 0 1 (some ⟨w2.heap.size, 0, none⟩) 1 1 [98] _ (by decide) (by decide) H.out).mono ?_
  rintro e w3 ⟨rfl, h⟩
  rw [aw_3.1]
  rw [aw_3.2] at h
  clear H y0 y1
  have y0 := (h.blk 1 rfl).cell 0
  have y1 := (h.blk 1 rfl).cell 1
  have H := hide h
  clear h
  go_wp2_with fail
  refine (flushed_st g [aP] [aP] 0 1 _ (by decide) (by decide) H.out).mono ?_
  rintro e w4 ⟨rfl, h⟩
  rw [aw_4.1]
  rw [aw_4.2] at h
  clear H y0 y1
  have y0 := (h.blk 1 rfl).cell 0
  have y1 := (h.blk 1 rfl).cell 1
  have H := hide (h.litInts 5 .u8 [98] (by decide) w4.heap.size rfl)
  clear h
  go_wp2_with fail
  refine (fill_st g [aP] [] 0 1 (some ⟨w4.heap.size, 0, none⟩) 1 1 [98] _ (by decide) (by decide) H.out).mono ?_
  rintro e w5 ⟨rfl, h⟩
  rw [aw_5.1]
  rw [aw_5.2] at h
  clear H y0 y1
  have y0 := (h.blk 1 rfl).cell 0
  have y1 := (h.blk 1 rfl).cell 1
  have H := hide h
  clear h
  go_wp2_with fail
  refine (read_st g [bP] [] 0 1 _ (by decide) (by decide) H.out).mono ?_
  rintro e w6 ⟨v6, rfl, h⟩
  rw [aw_6.2.2]
  rw [aw_6.1, aw_6.2.1] at h
  clear H y0 y1
  obtain ⟨B2, c2, rfl, _, _, _⟩ := h.get 3 rfl
  obtain ⟨B6, c6, rfl, _, _, _⟩ := h.get 0 rfl
  have H := hide ((h.pick (L' := intsR .u8 (.slice B6 1 c6) [98] :: intsR .u8 (.slice B2 1 c2) [97] :: L) 4 [0, 3]).newCache)
  clear h
  go_wp2_with fail
  generalize w6.heap.size = x at H ⊢
  generalize World.alloc _ _ = w7 at H ⊢
  go_loopg [12, 13] 7 (fun gh v i wr => ∃ k : Nat, gh = 7 - k ∧ k ≤ 7 ∧ v = .int .i64 (xS k).2.2 ∧ i = .int .i64 (k : Nat) ∧ St M0 wr (cacheR x (xS k).1 (xS k).2.1 :: intsR .u8 (.slice B6 1 c6) [98] :: intsR .u8 (.slice B2 1 c2) [97] :: L))
  case atStart => exact ⟨0, rfl, by omega, rfl, rfl, H.out⟩
  case round =>
    clear H
    obtain ⟨k, hg, hk, rfl, rfl, h⟩ := hrel
    have HG := hide hg
    clear hg
    by_cases hlt : k < 7
    · have c1 : decide ((k : Int) < 7) = true := decide_eq_true (by omega)
      have H := hide (h.pers0 (R := fun w' => Ints w' .u8 (.slice none 0 0) []) (fun w' _ => Ints.none_ w' _))
      clear h
      obtain ⟨l1, l2, l3⟩ := xS_len k (by omega)
      go_wp2_with fail
      refine (write_st x (xS k).1 (xS k).2.1 ((k : Int) % 2) k none 0 0 [] _ l1 l2 l3 H.out).mono ?_
      rintro e w8 ⟨rfl, h⟩
      have E : Hid (wrE (xS k).1 (xS k).2.1 ⟨(k : Int) % 2, (k : Int), []⟩ = (xS (k + 1)).2.2) := hide rfl
      have H1 : Hid (St M0 w8 (cacheR x (xS (k + 1)).1 (xS (k + 1)).2.1 :: intsR .u8 (.slice B6 1 c6) [98] :: intsR .u8 (.slice B2 1 c2) [97] :: L)) := hide h
      clear h l1 l2 l3 H
      rw [E.out]
      go_wp2_with fail
      go_roundg (7 - (k + 1))
      case measure => have := HG.out; omega
      case rel => exact ⟨k + 1, rfl, by omega, rfl, by go_num, H1.out⟩
    · obtain rfl : k = 7 := by omega
      rw [xS_7]
      have H := hide (h.litInts 5 .u8 [97] (by decide) wr.heap.size rfl)
      clear h
      go_wp2_with fail
      refine (same_true _ _ [97] _ (H.out.get 3 rfl) (H.out.get 0 rfl) H.out).mono ?_
      rintro e w8 ⟨rfl, h⟩
      have H8 := hide (h.litInts 5 .u8 [98] (by decide) w8.heap.size rfl)
      clear h H
      go_wp2_with fail
      refine (same_true _ _ [98] _ (H8.out.get 3 rfl) (H8.out.get 0 rfl) H8.out).mono ?_
      rintro e w9 ⟨rfl, h⟩
      clear H8
      go_wp2_with fail
      go_ret
      exact ⟨rfl, h.tail.tail.tail.tail.tail⟩
end Go.Proofs.Ytbgknfdaaffeaaa
