/- The statements' own examples: Image. -/
import Derived.Test.YtdhkklcjhbnnlaaImgDo
import Derived.Test.YtdhkklcjhbnnlaaEqSt
namespace Go.Proofs.Ytdhkklcjhbnnlaa
open Go.RowKit

def aw0 : Nat → Rg := fun _ => Rg.zero
abbrev aq1 : RQ := ⟨2, 0, 1, 5, 1, [97]⟩
abbrev aq2 : RQ := ⟨1, 0, 1, 5, 0, []⟩
abbrev aq3 : RQ := ⟨1, 0, 1, 4, 0, []⟩
abbrev aq5 : RQ := ⟨2, 0, 1, 5, 3, []⟩
abbrev aq6 : RQ := ⟨2, 0, 1, 6, 2, []⟩
abbrev aq7 : RQ := ⟨4, 0, 0, 6, 1, [98]⟩
abbrev aq8 : RQ := ⟨2, 0, 1, 5, 2, []⟩
def aw1 : Nat → Rg := doM aw0 aq1
def aw7 : Nat → Rg := doM aw1 aq7
theorem aw_e1 : (checkI aw0 aq1).2 = 0 := by decide
theorem aw_e2 : (checkI aw1 aq2).2 = 0 := by decide
theorem aw_e3 : (checkI aw1 aq3).2 = 100 := by decide
theorem aw_e4 : (checkI aw1 aq1).2 = 0 := by decide
theorem aw_e5 : (checkI aw1 aq5).2 = 60 := by decide
theorem aw_e6 : (checkI aw1 aq6).2 = 60 := by decide
theorem aw_e7 : (checkI aw1 aq7).2 = 0 := by decide
theorem aw_e8 : (checkI aw7 aq8).2 = 100 := by decide
theorem aw_m2 : doM aw1 aq2 = aw1 := if_neg (by decide)
theorem aw_m3 : doM aw1 aq3 = aw1 := if_neg (by decide)
theorem aw_m4 : doM aw1 aq1 = aw1 := if_neg (by decide)
theorem aw_m5 : doM aw1 aq5 = aw1 := if_neg (by decide)
theorem aw_m6 : doM aw1 aq6 = aw1 := if_neg (by decide)
theorem aw_o2 : doO aw1 aq2 = [[97]] := by decide
theorem aw_ok0 : ∀ k, (aw0 k).ok := fun _ => Rg.zero_ok
theorem aq_ok (op region index token seq : Int) (data : List Int) (h : 0 ≤ token ∧ token < 18446744073709551616 ∧ 0 ≤ seq ∧ seq < 4294967296 := by decide) : (RQ.mk op region index token seq data).ok := ⟨h.1, h.2.1, h.2.2.1, h.2.2.2⟩
theorem aw_ok1 : ∀ k, (aw1 k).ok := doM_ok aw_ok0 (aq_ok _ _ _ _ _ _)
theorem aw_ok7 : ∀ k, (aw7 k).ok := doM_ok aw_ok1 (aq_ok _ _ _ _ _ _)

theorem LogR.ints1 {w : World} {v : Value} {b : List Int} (h : LogR w [v] b) : Ints w .u8 v b := by
  obtain ⟨v', e, hi⟩ := h
  injection e with e
  subst e
  exact hi
def nilRV : RV := ⟨fun _ => .slice none 0 0, .slice none 0 0, fun _ => []⟩
theorem St.newImg {M0 : Imm} {w : World} {L : List Res} (h : St M0 w L) : St M0 (w.alloc (.cells (imgC aw0 (fun _ => nilRV)) 65)) (imgR w.heap.size aw0 :: L) :=
  St.addImg (vs := fun _ => nilRV) (((h.pers0 (R := fun w => ∀ k, k < 4 → RegR w nilRV (aw0 k)) (fun w' _ _k _ => ⟨fun _ _ => Ints.none_ w' _, RowsC.none_ _ _ _ _⟩)).alloc 65 _))

theorem do_none {M0 : Imm} {L : List Res} (g : Nat) (m : Nat → Rg) (r : RQ) (w : World) (hd : r.data = []) (hr : r.ok) (hm : ∀ k, (m k).ok) (h : St M0 w (imgR g m :: L)) :
    Calls Try.prog 39 #[.pointer (some ⟨g, 0, none⟩), reqV r (.slice none 0 0)] w fun e w' => ∃ V, e = .returned (.tuple #[V, .int .i64 (checkI m r).2]) ∧ St M0 w' (rowsR 1 LogR V (doO m r) :: imgR g (doM m r) :: L) :=
  do_st g m r none 0 0 w hr hm (h.pers0 (fun w' _ => by rw [hd]; exact Ints.none_ w' _))

set_option maxRecDepth 100000 in
set_option maxHeartbeats 1000000 in
theorem awake_st {M0 : Imm} {L : List Res} (w : World) (h : St M0 w L) : Calls Try.prog 37 #[] w fun e w' => e = .returned (.bool true) ∧ St M0 w' L := by
  have h1 := (h.newImg.litInts 5 .u8 [97] (by decide) (w.heap.size + 1) (by simp)).alloc 69 #[.int .i64 2, .int .i64 0, .int .i64 1, .int .u64 5, .int .u32 1, .slice (some ⟨w.heap.size + 1, 0, none⟩) 1 1]
  simp only [World.size_alloc] at h1
  have H := hide ((h1.copy 1 rfl).pick (L' := intsR .u8 (.slice (some ⟨w.heap.size + 1, 0, none⟩) 1 1) [97] :: imgR w.heap.size aw0 :: blkR (w.heap.size + 1 + 1) 69 #[.int .i64 2, .int .i64 0, .int .i64 1, .int .u64 5, .int .u32 1, .slice (some ⟨w.heap.size + 1, 0, none⟩) 1 1] :: intsR .u8 (.slice (some ⟨w.heap.size + 1, 0, none⟩) 1 1) [97] :: L) 4 [0, 3, 1, 2])
  clear h h1
  go_enter Try.func37, Try.ntmps37
  go_wp2_with fail
  refine (do_st w.heap.size aw0 aq1 (some ⟨w.heap.size + 1, 0, none⟩) 1 1 _ (aq_ok _ _ _ _ _ _) aw_ok0 H.out).mono ?_
  generalize w.heap.size = g at *
  rintro e w1 ⟨V1, rfl, h⟩
  rw [aw_e1]
  have H1 : Hid (St M0 w1 (imgR g aw1 :: blkR (g + 1 + 1) 69 #[.int .i64 2, .int .i64 0, .int .i64 1, .int .u64 5, .int .u32 1, .slice (some ⟨g + 1, 0, none⟩) 1 1] :: intsR .u8 (.slice (some ⟨g + 1, 0, none⟩) 1 1) [97] :: L)) := hide h.tail
  clear H h
  go_wp2_with fail
  refine (do_none g aw1 aq2 _ rfl (aq_ok _ _ _ _ _ _) aw_ok1 H1.out).mono ?_
  rintro e w2 ⟨V2, rfl, h⟩
  rw [aw_e2]
  rw [aw_o2, aw_m2] at h
  have H2 := hide h.swap
  clear H1 h
  go_wp2_with fail
  refine (do_none g aw1 aq3 _ rfl (aq_ok _ _ _ _ _ _) aw_ok1 H2.out).mono ?_
  rintro e w3 ⟨V3, rfl, h⟩
  rw [aw_e3]
  rw [aw_m3] at h
  obtain ⟨e0, e1, e2, e3, e4, e5⟩ := (h.blk 3 rfl).six
  have H3 := hide ((h.copy 4 rfl).pick (L' := intsR .u8 (.slice (some ⟨g + 1, 0, none⟩) 1 1) [97] :: imgR g aw1 :: rowsR 1 LogR V2 [[97]] :: L) 6 [0, 2, 3])
  clear H2 h
  go_wp2_with fail
  refine (do_st g aw1 aq1 (some ⟨g + 1, 0, none⟩) 1 1 _ (aq_ok _ _ _ _ _ _) aw_ok1 H3.out).mono ?_
  rintro e w4 ⟨V4, rfl, h⟩
  rw [aw_e4]
  rw [aw_m4] at h
  have H4 := hide h.tail
  clear H3 h e0 e1 e2 e3 e4 e5
  go_wp2_with fail
  refine (do_none g aw1 aq5 _ rfl (aq_ok _ _ _ _ _ _) aw_ok1 H4.out).mono ?_
  rintro e w5 ⟨V5, rfl, h⟩
  rw [aw_e5]
  rw [aw_m5] at h
  have H5 := hide h.tail
  clear H4 h
  go_wp2_with fail
  refine (do_none g aw1 aq6 _ rfl (aq_ok _ _ _ _ _ _) aw_ok1 H5.out).mono ?_
  rintro e w6 ⟨V6, rfl, h⟩
  rw [aw_e6]
  rw [aw_m6] at h
  have H6 := hide (h.tail.litInts 5 .u8 [98] (by decide) w6.heap.size rfl)
  clear H5 h
  go_wp2_with fail
  refine (do_st g aw1 aq7 (some ⟨w6.heap.size, 0, none⟩) 1 1 _ (aq_ok _ _ _ _ _ _) aw_ok1 H6.out).mono ?_
  rintro e w7 ⟨V7, rfl, h⟩
  rw [aw_e7]
  have H7 : Hid (St M0 w7 (imgR g aw7 :: rowsR 1 LogR V2 [[97]] :: L)) := hide h.tail
  clear H6 h
  go_wp2_with fail
  refine (do_none g aw7 aq8 _ rfl (aq_ok _ _ _ _ _ _) aw_ok7 H7.out).mono ?_
  rintro e w8 ⟨V8, rfl, h⟩
  rw [aw_e8]
  obtain ⟨A2, c2, rfl, _, _⟩ := (h.getRows 2 rfl).slice
  obtain ⟨ad, cs, rfl, _, hcs, ⟨vb, rfl, hvb⟩, h⟩ := h.elem 2 rfl (k := 0) (x := [97]) rfl
  obtain ⟨B, c3, rfl, _, _, _⟩ := hvb
  have k0 : w8.cell? ad = some (.slice B 1 c3) := by simpa [Addr.add] using hcs 0 _ rfl
  have H8 := hide (h.litInts 5 .u8 [97] (by decide) w8.heap.size rfl)
  clear H7 h hcs
  go_wp2_with fail
  refine (same_true _ _ [97] _ (H8.out.get 1 rfl).2.ints1 (H8.out.get 0 rfl) H8.out.tail.tail.tail.tail.tail).mono ?_
  rintro e w9 ⟨rfl, h⟩
  clear H8
  go_wp2_with fail
  go_ret
  exact ⟨rfl, h⟩

end Go.Proofs.Ytdhkklcjhbnnlaa
