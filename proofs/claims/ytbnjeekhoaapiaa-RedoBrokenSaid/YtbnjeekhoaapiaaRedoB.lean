/- Redo: the document's Parse. -/
import Derived.Test.YtbnjeekhoaapiaaRedoA
import Derived.Test.YtbnjeekhoaapiaaMixT
import Derived.Test.YtbnjeekhoaapiaaPackD
namespace Go.Proofs.Ytbnjeekhoaapiaa
open Go.RowKit

theorem results_cellT {fn : Func} {t k : Nat} {ty : TypeId} {P : Program} {w : World} {v : Value} {a : Addr} (h : fn.results = #[.cell t ty, .tmp k]) (tmps : Array Value) (ha : tmps.getD t undef = .pointer (some a)) (hl : (loadVar ty a).run P w = .ok v w) :
    (results fn tmps).run P w = .ok (.tuple #[v, tmps.getD k undef]) w := by
  have ha' : tmps[t]?.getD undef = .pointer (some a) := by simpa using ha
  simp [results, h, ha', asAddr, hl]
theorem first_byte {w : World} {A : Option Addr} {n c : Nat} {i : Int} {d : List Int} (h : Ints w .u8 (.slice A n c) (i :: d)) : ∃ ad, A = some ad ∧ n = d.length + 1 ∧ n ≤ c ∧ c ≤ 9223372036854775807 ∧ w.cell? ad = some (.int .u8 i) := by
  obtain ⟨hn, hc, hm, hs⟩ := h.sl
  have hn' : n = d.length + 1 := by simpa using hn
  obtain ⟨ad, u, rfl, _, _, hu, hx⟩ := hs.at_ (k := 0) (by omega)
  obtain rfl : Value.int .u8 i = u := by simpa using hu
  exact ⟨ad, rfl, hn', hc, hm, by simpa [Addr.add] using hx⟩
theorem Ints.behind1 {w : World} {A A' : Option Addr} {n c : Nat} {i : Int} {d : List Int} (h : Ints w .u8 (.slice A n c) (i :: d)) (hA : 1 < n → A' = A.map (·.add 1)) : Ints w .u8 (.slice A' (n - 1) (c - 1)) d := by
  obtain ⟨h0, h1, h2, h3⟩ := h.sl
  have hl : d.length = n - 1 := by simp at h0; omega
  refine ⟨A', c - 1, by rw [hl], by rw [hl]; omega, by unfold maxLen; omega, by rw [List.length_map]; omega, fun hp => ?_⟩
  rw [hl] at hp
  obtain ⟨ad, e, hq, hb, hc⟩ := h3.2 (by omega)
  subst e
  refine ⟨ad.add 1, by rw [hA (by omega)]; rfl, trivial, by rw [addr_block]; exact hb, fun j u hu => ?_⟩
  rw [addr_add]
  refine hc (1 + j) u ?_
  rw [Nat.add_comm]
  simpa using hu

set_option maxHeartbeats 1000000 in
set_option maxRecDepth 100000 in
theorem rpar_st {M0 : Imm} {L : List Res} (region : Int) (b : List Int) (A : Option Addr) (n c : Nat) (w : World) (hb : Bytes b) (h : St M0 w (intsR .u8 (.slice A n c) b :: L)) :
    Calls Try.prog 35 #[.int .i64 region, .slice A n c] w fun e w' => ∃ v, e = .returned (.tuple #[putV (parP region b) v, .int .i64 (parE b)]) ∧ St M0 w' (intsR .u8 v (parP region b).data :: L) := by
  have h1 := h.alloc 65 #[.int .i64 0, .int .i64 0, .slice none 0 0]
  clear h
  cases b with
  | nil =>
    obtain ⟨hn, _, _, _⟩ := (h1.get 1 rfl).sl
    obtain rfl : n = 0 := hn
    have y0 := (h1.blk 0 rfl).cell 0
    have y1 := (h1.blk 0 rfl).cell 1
    have y2 := (h1.blk 0 rfl).cell 2
    have H := hide h1
    clear h1
    go_enter Try.func35, Try.ntmps35
    go_wp2_with fail
    refine bodyPost_ret (v := .tuple #[.agg #[.int .i64 0, .int .i64 0, .slice none 0 0], .int .i64 10]) (results_cellT (fn := Try.f35) (t := 4) (k := 5) (ty := 65) rfl _ rfl ?_) rfl ⟨.slice none 0 0, ?_, ?_⟩
    · go_simp
    · rfl
    · exact H.out.tail.tail.pers0 (fun w' _ => Ints.none_ w' _)
  | cons i d =>
    obtain ⟨ad, rfl, hn, hc, hm, x0⟩ := first_byte (h1.get 1 rfl)
    have hi : 0 ≤ i ∧ i ≤ 255 := by have := hb i (by simp); unfold isByte at this; omega
    obtain ⟨i0, i1⟩ := hi
    have key : ∀ x, parE (i :: d) = x → Hid (parE (i :: d) = x) := fun _ h => h
    have hnz : ((n : Int) == 0) = false := isF (by omega)
    have n1 : (1 : Int) ≤ (n : Int) := by omega
    have n2 : (n : Int) ≤ (c : Int) := by omega
    have n0 : (0 : Int) < (n : Int) := by omega
    have nn : 0 < n := by omega
    have y0 := (h1.blk 0 rfl).cell 0
    have y1 := (h1.blk 0 rfl).cell 1
    have y2 := (h1.blk 0 rfl).cell 2
    have hbad : parE (i :: d) ≠ 0 → parP region (i :: d) = ⟨0, 0, []⟩ := fun h => if_neg h
    have H := hide h1
    have HN := hide hn
    clear h1
    by_cases h4 : 4 ≤ i
    · have E := key 101 (if_pos h4)
      have P0 := hide (hbad (by rw [E.out]; decide))
      have d1 : decide (3 < i) = true := decide_eq_true (by omega)
      clear key hbad h4
      go_enter Try.func35, Try.ntmps35
      go_wp2_with fail
      refine bodyPost_ret (v := .tuple #[.agg #[.int .i64 0, .int .i64 0, .slice none 0 0], .int .i64 101]) (results_cellT (fn := Try.f35) (t := 4) (k := 5) (ty := 65) rfl _ rfl ?_) rfl ⟨.slice none 0 0, ?_, ?_⟩
      · go_simp
      · rw [P0.out, E.out]; try rfl
      · rw [P0.out]; exact H.out.tail.tail.pers0 (fun w' _ => Ints.none_ w' _)
    have d1 : decide (3 < i) = false := decide_eq_false (by omega)
    by_cases hl : 24 < n
    · have E := key 2 ((if_neg h4).trans (if_pos (by omega)))
      have P0 := hide (hbad (by rw [E.out]; decide))
      have d2 : decide ((24 : Int) < (n : Int)) = true := decide_eq_true (by omega)
      clear key hbad h4 hl hn
      go_enter Try.func35, Try.ntmps35
      go_wp2_with fail
      refine bodyPost_ret (v := .tuple #[.agg #[.int .i64 0, .int .i64 0, .slice none 0 0], .int .i64 2]) (results_cellT (fn := Try.f35) (t := 4) (k := 5) (ty := 65) rfl _ rfl ?_) rfl ⟨.slice none 0 0, ?_, ?_⟩
      · go_simp
      · rw [P0.out, E.out]; try rfl
      · rw [P0.out]; exact H.out.tail.tail.pers0 (fun w' _ => Ints.none_ w' _)
    have E := key 0 ((if_neg h4).trans (if_neg (by omega)))
    have P0 := hide (show parP region (i :: d) = ⟨region, i, d⟩ from if_pos E.out)
    have d2 : decide ((24 : Int) < (n : Int)) = false := decide_eq_false (by omega)
    clear key hbad h4 hl hn
    go_enter Try.func35, Try.ntmps35
    go_wp2_with fail
    refine region_mix (fun W => W.cell? ad = some (.int .u8 i)) 9 [0, 1, 2, 3, 4, 5, 6, 7, 8] [9, 10] (by kernel_rfl) (by kernel_rfl) (fun d => by cases d <;> exact fun _ _ _ _ h => h) (fun W hW => ?_)
    have hS := hide (show St M0 W (blkR w.heap.size 65 #[.int .i64 0, .int .i64 0, .slice none 0 0] :: intsR .u8 (.slice (some ad) n c) (i :: d) :: L) by
      rw [hW]
      exact H.out.drew)
    clear hW H x0 y0 y1 y2
    refine ⟨?_, ?_⟩
    · obtain ⟨ad', e, _, _, _, x0⟩ := first_byte (hS.out.get 1 rfl)
      injection e with e
      subst e
      exact x0
    iterate 9 (refine take_run rfl rfl (fun W hW => by (go_simp; try rfl)) ?_; (simp only [Act.put, List.setIfInBounds_toArray, List.set_cons_succ, List.set_cons_zero]))
    refine take_nil ?_
    rw [IntWalk.i64_in i (by omega)]
    have hA : 1 < n → (if c = 1 then some ad else some ⟨ad.block, ad.off + 1, none⟩) = (some ad).map (·.add 1) := fun hlt => by rw [if_neg (by omega)]; rfl
    generalize (if c = 1 then some ad else some (⟨ad.block, ad.off + 1, none⟩ : Addr)) = A7 at hA ⊢
    have h2 := (hS.out.copy 1 rfl).pers1 (R' := fun w' => Ints w' .u8 (.slice A7 (n - 1) (c - 1)) d) (fun w' hi => hi.behind1 hA)
    have y0 := (hS.out.blk 0 rfl).cell 0
    have y1 := (hS.out.blk 0 rfl).cell 1
    have y2 := (hS.out.blk 0 rfl).cell 2
    have f := (hS.out.blk 0 rfl).frozen
    have h3 := ((h2.swap.set_ 0 (.int .i64 region)).set_ 1 (.int .i64 i)).set_ 2 (.slice A7 (n - 1) (c - 1))
    have H3 := hide h3
    clear h2 h3 hS hA
    refine seq_store rfl rfl 65 _ _ (.pointer (some ⟨w.heap.size, 0, none⟩)) (.agg #[.int .i64 region, .int .i64 i, .slice A7 (n - 1) (c - 1)]) rfl rfl rfl (by go_simp; try rfl) (fun h => absurd h (by decide)) ?_
    clear y0 y1 y2 f
    simp only [Act.put]
    refine seq_read rfl rfl (by (go_simp; try rfl)) (fun h => absurd h (by decide)) ?_
    (simp only [Act.put, List.setIfInBounds_toArray, List.set_cons_succ, List.set_cons_zero])
    refine seq_nil ?_
    generalize World.setCell _ _ _ = w5 at H3 ⊢
    have y0 : w5.cell? ⟨w.heap.size, 0, none⟩ = some (.int .i64 region) := (H3.out.blk 0 rfl).cell 0
    have y1 : w5.cell? ⟨w.heap.size, 1, none⟩ = some (.int .i64 i) := (H3.out.blk 0 rfl).cell 1
    have y2 : w5.cell? ⟨w.heap.size, 2, none⟩ = some (.slice A7 (n - 1) (c - 1)) := (H3.out.blk 0 rfl).cell 2
    go_wp2_with fail
    refine bodyPost_ret (v := .tuple #[.agg #[.int .i64 region, .int .i64 i, .slice A7 (n - 1) (c - 1)], .int .i64 0]) (results_cellT (fn := Try.f35) (t := 4) (k := 5) (ty := 65) rfl _ rfl ?_) rfl ⟨.slice A7 (n - 1) (c - 1), ?_, ?_⟩
    · go_simp
    · rw [P0.out, E.out]; try rfl
    · rw [P0.out]; exact H3.out.pick 3 [1]
end Go.Proofs.Ytbnjeekhoaapiaa
