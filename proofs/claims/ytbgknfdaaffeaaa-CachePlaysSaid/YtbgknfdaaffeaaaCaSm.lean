/- Cache: are writes the document's? (of one list) -/
import Derived.Test.YtbgknfdaaffeaaaCaPm
import Derived.Test.YtbgknfdaaffeaaaEqSt
import Derived.Test.YtbgknfdaaffeaaaFlowS
namespace Go.Proofs.Ytbgknfdaaffeaaa
open Go.RowKit Go.Shelf

def ByR (w : World) (cs : List Value) (b : List Int) : Prop := ∃ v, cs = [v] ∧ Ints w .u8 v b
theorem inti_row : ElemOf Try.prog 25 3 (.int .i64 0) 1 8 := ⟨Try.underlying25, by kernel_rfl, by kernel_rfl, by omega⟩
theorem by_row : ElemOf Try.prog 160 48 (.slice none 0 0) 1 24 := ⟨Try.underlying160, by kernel_rfl, by kernel_rfl, by omega⟩
theorem int_build (w : World) (a : Int) : (Instr.buildSlice 25 1 #[(0, .int .i64 a)]).run Try.prog w = .ok (.slice (some ⟨w.heap.size, 0, none⟩) 1 1) (w.alloc (.cells #[.int .i64 a] 3)) := by kernel_rfl
theorem by_build (w : World) (A : Option Addr) (n k : Nat) : (Instr.buildSlice 160 1 #[(0, .slice A n k)]).run Try.prog w = .ok (.slice (some ⟨w.heap.size, 0, none⟩) 1 1) (w.alloc (.cells #[.slice A n k] 48)) := by kernel_rfl
theorem Ints.cellAt {w : World} {k : IntKind} {A : Option Addr} {n c i : Nat} {xs : List Int} {x : Int} (h : Ints w k (.slice A n c) xs) (hx : xs[i]? = some x) : ∃ ad, A = some ad ∧ w.cell? (ad.add i) = some (.int k x) := by
  obtain ⟨hn, _, _, hs⟩ := h.sl
  have hi := (List.getElem?_eq_some_iff.1 hx).1
  obtain ⟨ad, u, hA, _, _, hu, hc⟩ := Sl.at_ hs (show i < n by omega)
  rw [List.getElem?_map, hx] at hu
  obtain rfl : Value.int k x = u := by simpa using hu
  exact ⟨ad, hA, hc⟩
theorem Ints.sliceN {w : World} {k : IntKind} {v : Value} {xs : List Int} (h : Ints w k v xs) : ∃ A c, v = .slice A xs.length c ∧ xs.length ≤ c ∧ c ≤ 9223372036854775807 := by
  obtain ⟨A, c, e, h1, h2, _⟩ := h
  exact ⟨A, c, e, h1, h2⟩
set_option maxRecDepth 100000 in
set_option maxHeartbeats 2000000 in
theorem rsame_st {M0 : Imm} {L : List Res} (vr vi vd v : Value) (l : List PU) (w : World) (h : St M0 w (intsR .i64 vr (l.map PU.region) :: intsR .i64 vi (l.map PU.index) :: rowsR 1 ByR vd (l.map PU.data) :: rowsR 3 PutR v l :: L)) :
    Calls Try.prog 84 #[vr, vi, vd, v] w fun e w' => e = .returned (.bool true) ∧ St M0 w' L := by
  obtain ⟨A1, c1, rfl, h11, h12⟩ := (h.get 0 rfl).sliceN
  obtain ⟨A2, c2, rfl, h21, h22⟩ := (h.get 1 rfl).sliceN
  obtain ⟨A3, c3, rfl, h31, h32⟩ := (h.getRows 2 rfl).slice
  obtain ⟨A4, c4, rfl, h41, h42⟩ := (h.getRows 3 rfl).slice
  obtain ⟨n, hn⟩ : ∃ n, n = l.length := ⟨_, rfl⟩
  simp only [List.length_map, ← hn] at h11 h21 h31 h41 h ⊢
  have HN := hide hn
  have H := hide h
  clear h hn
  go_enter Try.func84, Try.ntmps84
  go_wp2_with fail
  go_loopg [9] n (fun gh iv wr => ∃ k, gh = n - k ∧ k ≤ n ∧ iv = .int .i64 (k : Nat) ∧ St M0 wr (intsR .i64 (.slice A1 n c1) (l.map PU.region) :: intsR .i64 (.slice A2 n c2) (l.map PU.index) :: rowsR 1 ByR (.slice A3 n c3) (l.map PU.data) :: rowsR 3 PutR (.slice A4 n c4) l :: L))
  case atStart => exact ⟨0, rfl, by omega, rfl, H.out⟩
  case round =>
    clear H
    obtain ⟨k, hg, hk, rfl, h⟩ := hrel
    have HG := hide hg
    have HJ := hide h
    clear hg
    by_cases hlt : k < n
    · have hx := List.getElem?_eq_getElem (l := l) (i := k) (by rw [← HN.out]; exact hlt)
      generalize l[k]'(by rw [← HN.out]; exact hlt) = x at hx
      obtain ⟨a1, rfl, x1⟩ := (h.get 0 rfl).cellAt (i := k) (x := x.region) (by rw [List.getElem?_map, hx]; rfl)
      obtain ⟨a2, rfl, x2⟩ := (h.get 1 rfl).cellAt (i := k) (x := x.index) (by rw [List.getElem?_map, hx]; rfl)
      obtain ⟨a3, cs3, rfl, _, hcs3, ⟨v3, rfl, hv3⟩, _⟩ := h.elem 2 rfl (k := k) (x := x.data) (by rw [List.getElem?_map, hx]; rfl)
      obtain ⟨a4, cs4, rfl, _, hcs4, ⟨v4, rfl, hv4⟩, _⟩ := h.elem 3 rfl hx
      obtain ⟨f0, f1, f2⟩ := cells3 hcs4
      have x3 : wr.cell? (a3.add k) = some v3 := by simpa [Addr.add] using hcs3 0 _ rfl
      obtain ⟨B3, d3, rfl, _, _, _⟩ := id hv3
      obtain ⟨B4, d4, rfl, _, _, _⟩ := id hv4
      have HI1 := hide (fun n => hv3.non ((Fr.refl Non wr).drewN n))
      have HI2 := hide (fun n => hv4.non ((Fr.refl Non wr).drewN n))
      have j0 : (0 : Int) ≤ (k : Int) := by omega
      have j1 : (k : Int) < (n : Int) := by omega
      clear hx hcs3 hcs4 hv3 hv4 h
      go_wp2_with fail
      go_quiet ((go_at_call 25; exact Calls.quiet_of (same_eq _ _ x.data _ (HI1.out _) (HI2.out _))))
      go_wp2_with fail
      go_roundg (n - (k + 1))
      case measure => have := HG.out; omega
      case rel => exact ⟨k + 1, rfl, by omega, by go_num, HJ.out.drewN _⟩
    · obtain rfl : k = n := by omega
      have H := hide (h.sub (L' := L) (by (repeat (first | with_reducible exact Sub.refl _ | (with_reducible apply Sub.take; focus (repeat (first | with_reducible exact At.here | with_reducible apply At.there))) | with_reducible apply Sub.drop))))
      clear h HJ
      go_wp2_with fail
      go_ret
      exact ⟨rfl, H.out⟩
set_option maxRecDepth 100000 in
set_option maxHeartbeats 4000000 in
theorem csame_st {M0 : Imm} {L : List Res} (v u : Value) (l : List PU) (w : World) (hl : l.length ≤ 1000000) (h : St M0 w (rowsR 3 PutR v l :: rowsR 3 PutR u l :: L)) :
    Calls Try.prog 32 #[v, u] w fun e w' => e = .returned (.bool true) ∧ St M0 w' L := by
  obtain ⟨A4, c4, rfl, h41, h42⟩ := (h.getRows 0 rfl).slice
  obtain ⟨n, hn⟩ : ∃ n, n = l.length := ⟨_, rfl⟩
  rw [← hn] at h41 h hl ⊢
  have HN := hide hn
  have H := hide ((((h.nilGrow 48 1 ByR).nilRow 3 1).nilRow 3 1))
  clear h hn
  go_enter Try.func32, Try.ntmps32
  go_wp2_with fail
  go_loopg [5, 6, 7, 8] n (fun gh rv iv dv kv wr => ∃ (k : Nat) (A1 A2 A3 : Option Addr) (c1 c2 c3 : Nat), gh = n - k ∧ k ≤ n ∧ rv = .slice A1 k c1 ∧ iv = .slice A2 k c2 ∧ dv = .slice A3 k c3 ∧ kv = .int .i64 (k : Nat) ∧ St M0 wr (rowR 3 1 (.slice A1 k c1) k (((l.take k).map PU.region).map (Value.int .i64)) :: rowR 3 1 (.slice A2 k c2) k (((l.take k).map PU.index).map (Value.int .i64)) :: growR 48 1 ByR (.slice A3 k c3) ((l.take k).map PU.data) :: rowsR 3 PutR (.slice A4 n c4) l :: rowsR 3 PutR u l :: L))
  case atStart => exact ⟨0, none, none, none, 0, 0, 0, rfl, by omega, rfl, rfl, rfl, rfl, H.out⟩
  case round =>
    clear H
    obtain ⟨k, A1, A2, A3, c1, c2, c3, hg, hk, rfl, rfl, rfl, rfl, h⟩ := hrel
    have HG := hide hg
    have HJ := hide h
    clear hg
    by_cases hlt : k < n
    · have hx := List.getElem?_eq_getElem (l := l) (i := k) (by rw [← HN.out]; exact hlt)
      generalize l[k]'(by rw [← HN.out]; exact hlt) = x at hx
      obtain ⟨a4, cs4, rfl, _, hcs4, ⟨v4, rfl, hv4⟩, h1⟩ := h.elem 3 rfl hx
      obtain ⟨B4, d4, rfl, _, _, _⟩ := id hv4
      have j0 : (0 : Int) ≤ (k : Int) := by omega
      have j1 : (k : Int) < (n : Int) := by omega
      obtain ⟨f0, f1, f2⟩ := cells3 hcs4
      have ET := hide (show l.take (k + 1) = l.take k ++ [x] by rw [List.take_add_one, hx]; rfl)
      clear hx hcs4 hv4 h HJ
      have h2 := (h1.alloc 3 #[.int .i64 x.region]).sub (L' := rowR 3 1 (.slice A1 k c1) k (((l.take k).map PU.region).map (Value.int .i64)) :: blkR wr.heap.size 3 #[.int .i64 x.region] :: rowR 3 1 (.slice A2 k c2) k (((l.take k).map PU.index).map (Value.int .i64)) :: growR 48 1 ByR (.slice A3 k c3) ((l.take k).map PU.data) :: persR (fun w' => (∀ j u, [.int .i64 x.region, .int .i64 x.index, .slice B4 x.data.length d4][j]? = some u → w'.cell? ((a4.add (k * 3)).add j) = some u) ∧ PutR w' [.int .i64 x.region, .int .i64 x.index, .slice B4 x.data.length d4] x) :: rowsR 3 PutR (.slice (some a4) n c4) l :: rowsR 3 PutR u l :: L) (by (repeat (first | with_reducible exact Sub.refl _ | (with_reducible apply Sub.take; focus (repeat (first | with_reducible exact At.here | with_reducible apply At.there))) | with_reducible apply Sub.drop)))
      have H2 := hide h2
      clear h1 h2
      go_wp2_with (at_builtin; first
        | (
          refine St.app_step inti_row H2.out rfl _ _ rfl rfl (some ⟨wr.heap.size, 0, none⟩) 1 1 rfl [.int .i64 x.region] (sl_blkN (cs := [.int .i64 x.region]) (H2.out.blk 1 rfl)) (by intro u hu; simp at hu; subst hu; rfl) (by omega) (by omega) ?_
          intro A6 c6 w6 h6
          clear f0 f1 f2
          obtain ⟨f0, f1, f2⟩ := cells3 (h6.getA (Q := fun w' => (∀ j u, [.int .i64 x.region, .int .i64 x.index, .slice B4 x.data.length d4][j]? = some u → w'.cell? ((a4.add (k * 3)).add j) = some u) ∧ PutR w' [.int .i64 x.region, .int .i64 x.index, .slice B4 x.data.length d4] x) (by (repeat (first | with_reducible exact At.here | with_reducible apply At.there)))).1
          have h7 := (h6.alloc 3 #[.int .i64 x.index]).sub (L' := rowR 3 1 (.slice A2 k c2) k (((l.take k).map PU.index).map (Value.int .i64)) :: blkR w6.heap.size 3 #[.int .i64 x.index] :: rowR 3 1 (.slice A6 (k + 1) c6) (k + 1) (((l.take k).map PU.region).map (Value.int .i64) ++ [.int .i64 x.region]) :: growR 48 1 ByR (.slice A3 k c3) ((l.take k).map PU.data) :: persR (fun w' => (∀ j u, [.int .i64 x.region, .int .i64 x.index, .slice B4 x.data.length d4][j]? = some u → w'.cell? ((a4.add (k * 3)).add j) = some u) ∧ PutR w' [.int .i64 x.region, .int .i64 x.index, .slice B4 x.data.length d4] x) :: rowsR 3 PutR (.slice (some a4) n c4) l :: rowsR 3 PutR u l :: L) (by (repeat (first | with_reducible exact Sub.refl _ | (with_reducible apply Sub.take; focus (repeat (first | with_reducible exact At.here | with_reducible apply At.there))) | with_reducible apply Sub.drop)))
          have H7 := hide h7
          clear h6 h7 H2)
        | (
          refine St.app_step inti_row H7.out rfl _ _ rfl rfl (some ⟨w6.heap.size, 0, none⟩) 1 1 rfl [.int .i64 x.index] (sl_blkN (cs := [.int .i64 x.index]) (H7.out.blk 1 rfl)) (by intro u hu; simp at hu; subst hu; rfl) (by omega) (by omega) ?_
          intro A8 c8 w8 h8
          clear f0 f1 f2
          obtain ⟨f0, f1, f2⟩ := cells3 (h8.getA (Q := fun w' => (∀ j u, [.int .i64 x.region, .int .i64 x.index, .slice B4 x.data.length d4][j]? = some u → w'.cell? ((a4.add (k * 3)).add j) = some u) ∧ PutR w' [.int .i64 x.region, .int .i64 x.index, .slice B4 x.data.length d4] x) (by (repeat (first | with_reducible exact At.here | with_reducible apply At.there)))).1
          have h9 := ((h8.alloc 48 #[.slice B4 x.data.length d4]).sub (L' := persR (fun w' => (∀ j u, [.int .i64 x.region, .int .i64 x.index, .slice B4 x.data.length d4][j]? = some u → w'.cell? ((a4.add (k * 3)).add j) = some u) ∧ PutR w' [.int .i64 x.region, .int .i64 x.index, .slice B4 x.data.length d4] x) :: growR 48 1 ByR (.slice A3 k c3) ((l.take k).map PU.data) :: blkR w8.heap.size 48 #[.slice B4 x.data.length d4] :: rowR 3 1 (.slice A6 (k + 1) c6) (k + 1) (((l.take k).map PU.region).map (Value.int .i64) ++ [.int .i64 x.region]) :: rowR 3 1 (.slice A8 (k + 1) c8) (k + 1) (((l.take k).map PU.index).map (Value.int .i64) ++ [.int .i64 x.index]) :: rowsR 3 PutR (.slice (some a4) n c4) l :: rowsR 3 PutR u l :: L) (by (repeat (first | with_reducible exact Sub.refl _ | (with_reducible apply Sub.take; focus (repeat (first | with_reducible exact At.here | with_reducible apply At.there))) | with_reducible apply Sub.drop)))).pers1 (R' := fun w' => ByR w' [.slice B4 x.data.length d4] x.data) (fun w' hw => by
            obtain ⟨v, hv, hi⟩ := hw.2
            simp only [List.cons.injEq, and_true, true_and] at hv
            subst hv
            exact ⟨_, rfl, hi⟩)
          obtain ⟨vs, hq2, hxl, h10⟩ := (h9.sub (L' := growR 48 1 ByR (.slice A3 k c3) ((l.take k).map PU.data) :: blkR w8.heap.size 48 #[.slice B4 x.data.length d4] :: persR (fun w' => ByR w' [.slice B4 x.data.length d4] x.data) :: rowR 3 1 (.slice A6 (k + 1) c6) (k + 1) (((l.take k).map PU.region).map (Value.int .i64) ++ [.int .i64 x.region]) :: rowR 3 1 (.slice A8 (k + 1) c8) (k + 1) (((l.take k).map PU.index).map (Value.int .i64) ++ [.int .i64 x.index]) :: rowsR 3 PutR (.slice (some a4) n c4) l :: rowsR 3 PutR u l :: L) (by (repeat (first | with_reducible exact Sub.refl _ | (with_reducible apply Sub.take; focus (repeat (first | with_reducible exact At.here | with_reducible apply At.there))) | with_reducible apply Sub.drop)))).openGrowS
          have H10 := hide h10
          have HQ2 := hide hq2
          have HXL := hide hxl
          clear h8 h9 h10 hq2 hxl H7)
        | (
          refine St.app_step by_row H10.out rfl _ _ rfl rfl (some ⟨w8.heap.size, 0, none⟩) 1 1 rfl [.slice B4 x.data.length d4] (sl_blkN (cs := [.slice B4 x.data.length d4]) (H10.out.blk 2 rfl)) (by intro u hu; simp at hu; subst hu; rfl) (by omega) (by omega) ?_
          intro A9 c9 w9 h9
          have h11 := (h9.sub (L' := rowR 48 1 (.slice A9 (k + 1) c9) (k + 1) (vs ++ [.slice B4 x.data.length d4]) :: persR (fun w => ∀ (j : Nat) p, ((l.take k).map PU.data)[j]? = some p → ByR w ((vs.drop (j * 1)).take 1) p) :: persR (fun w' => ByR w' [.slice B4 x.data.length d4] x.data) :: rowR 3 1 (.slice A6 (k + 1) c6) (k + 1) (((l.take k).map PU.region).map (Value.int .i64) ++ [.int .i64 x.region]) :: rowR 3 1 (.slice A8 (k + 1) c8) (k + 1) (((l.take k).map PU.index).map (Value.int .i64) ++ [.int .i64 x.index]) :: rowsR 3 PutR (.slice (some a4) n c4) l :: rowsR 3 PutR u l :: L) (by (repeat (first | with_reducible exact Sub.refl _ | (with_reducible apply Sub.take; focus (repeat (first | with_reducible exact At.here | with_reducible apply At.there))) | with_reducible apply Sub.drop)))).snocGrow (size := 1) HQ2.out rfl HXL.out
          have H11 := hide h11
          clear h9 h11 H10))
      go_roundg (n - (k + 1))
      case measure => have := HG.out; omega
      case rel =>
        refine ⟨k + 1, A6, A8, A9, c6, c8, c9, rfl, by omega, rfl, rfl, rfl, by go_num, ?_⟩
        simp only [ET.out, List.map_append, List.map_cons, List.map_nil]
        exact H11.out.sub (by (repeat (first | with_reducible exact Sub.refl _ | (with_reducible apply Sub.take; focus (repeat (first | with_reducible exact At.here | with_reducible apply At.there))) | with_reducible apply Sub.drop)))
    · obtain rfl : k = n := by omega
      rw [List.take_of_length_le (by rw [← HN.out]; exact Nat.le_refl _)] at h
      have H := hide ((h.ints.sub (L' := rowR 3 1 (.slice A2 k c2) k ((l.map PU.index).map (Value.int .i64)) :: intsR .i64 (.slice A1 k c1) (l.map PU.region) :: growR 48 1 ByR (.slice A3 k c3) (l.map PU.data) :: rowsR 3 PutR (.slice A4 k c4) l :: rowsR 3 PutR u l :: L) (by (repeat (first | with_reducible exact Sub.refl _ | (with_reducible apply Sub.take; focus (repeat (first | with_reducible exact At.here | with_reducible apply At.there))) | with_reducible apply Sub.drop)))).ints.sub (L' := growR 48 1 ByR (.slice A3 k c3) (l.map PU.data) :: intsR .i64 (.slice A1 k c1) (l.map PU.region) :: intsR .i64 (.slice A2 k c2) (l.map PU.index) :: rowsR 3 PutR u l :: L) (by (repeat (first | with_reducible exact Sub.refl _ | (with_reducible apply Sub.take; focus (repeat (first | with_reducible exact At.here | with_reducible apply At.there))) | with_reducible apply Sub.drop)))).rowsGrow
      clear h HJ
      go_wp2_with fail
      refine (rsame_st _ _ _ u l _ (H.out.sub (L' := intsR .i64 (.slice A1 k c1) (l.map PU.region) :: intsR .i64 (.slice A2 k c2) (l.map PU.index) :: rowsR 1 ByR (.slice A3 k c3) (l.map PU.data) :: rowsR 3 PutR u l :: L) (by (repeat (first | with_reducible exact Sub.refl _ | (with_reducible apply Sub.take; focus (repeat (first | with_reducible exact At.here | with_reducible apply At.there))) | with_reducible apply Sub.drop))))).mono ?_
      rintro e w2 ⟨rfl, h2⟩
      have H2 := hide h2
      clear h2 H
      go_wp2_with fail
      go_ret
      exact ⟨rfl, H2.out⟩
end Go.Proofs.Ytbgknfdaaffeaaa
