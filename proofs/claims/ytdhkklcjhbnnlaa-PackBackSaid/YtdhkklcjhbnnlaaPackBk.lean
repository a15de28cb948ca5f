/- PackBack, the walk. -/
import Derived.Test.YtdhkklcjhbnnlaaPackAw
import Derived.Test.YtdhkklcjhbnnlaaPackLaw
namespace Go.Proofs.Ytdhkklcjhbnnlaa
open Go.RowKit

theorem int_row : ElemOf Try.prog 30 3 (.int .i64 0) 1 8 := ⟨Try.underlying30, by kernel_rfl, by kernel_rfl, by omega⟩
theorem map_take_snoc {α β : Type} (f : α → β) {l : List α} {k : Nat} {x : α} (h : l[k]? = some x) : (l.take (k + 1)).map f = (l.take k).map f ++ [f x] := by
  rw [List.take_add_one, h]
  simp

set_option maxRecDepth 100000 in
set_option maxHeartbeats 2000000 in
theorem back_st {M0 : Imm} {L : List Res} (v : Value) (fs : List Fld) (w : World) (hby : ∀ f ∈ fs, Bytes f.b) (h : St M0 w (rowsR 3 FldR v fs :: L)) :
    Calls Try.prog 6 #[v] w fun e w' => e = .returned (.bool true) ∧ St M0 w' (rowsR 3 FldR v fs :: L) := by
  obtain ⟨A, c, rfl, hc, hm⟩ := (h.getRows 0 rfl).slice
  have hn0 : ∀ f ∈ fs, 0 ≤ f.n := by
    intro f hf
    obtain ⟨i, hi⟩ := List.getElem?_of_mem hf
    obtain ⟨_, _, _, _, _, _, _, _, h0, _⟩ := (h.getRows 0 rfl).at_ hi
    exact h0
  have HN0 := hide hn0
  have HBY := hide hby
  have H := hide h
  clear h hn0 hby
  generalize hn : fs.length = n at *
  have HN := hide hn
  clear hn
  go_enter Try.func6, Try.ntmps6
  go_wp2_with fail
  refine (awake_st _ H.out).mono ?_
  rintro e w1 ⟨rfl, h⟩
  have H1 := hide h
  clear H h
  by_cases h40 : 40 < n
  · go_wp2_with fail
    go_ret
    exact ⟨rfl, H1.out⟩
  go_wp2_with fail
  refine (enc_st _ fs _ (by rw [HN.out]; omega) H1.out).mono ?_
  rintro e w2 ⟨x, rfl, h⟩
  obtain ⟨A2, c2, rfl⟩ := h.slice
  have H2 := hide h
  clear H1 h
  by_cases h0 : encE fs = 0
  · have HD := hide (dec_enc fs HN0.out h0)
    have HE0 := hide h0
    have hbb : Bytes (encB fs) := by
      unfold encB
      rw [if_pos h0]
      have : ∀ l : List Fld, (∀ f ∈ l, Bytes f.b) → Bytes (fldsB l) := by
        intro l
        induction l with
        | nil => intro _; exact Bytes.nil
        | cons f l ih =>
          intro hl
          have e : fldsB (f :: l) = fldB f ++ fldsB l := by simp [fldsB]
          rw [e]
          refine Bytes.append ?_ (ih (fun x hx => hl x (List.mem_cons_of_mem _ hx)))
          unfold fldB
          split
          · exact (numB_bytes _ _).append ((hl f List.mem_cons_self).take _)
          · exact numI_bytes _ _
      exact this fs HBY.out
    have hbl : (encB fs).length ≤ 200000 := by
      unfold encB
      rw [if_pos h0]
      have := fldsB_length fs
      rw [HN.out] at this
      omega
    have HBB := hide (And.intro hbb hbl)
    have H3 := hide H2.out.ints
    rw [h0]
    clear h0 hbb hbl H2
    generalize encB fs = bs at *
    go_wp2_with fail
    go_loopg [6, 7] n (fun gh y i wr => ∃ (k : Nat) (A' : Option Addr) (c' : Nat), gh = n - k ∧ k ≤ n ∧ i = .int .i64 k ∧ y = .slice A' k c' ∧ St M0 wr (rowR 3 1 (.slice A' k c') k (((fs.take k).map Fld.k).map (Value.int .i64)) :: intsR .u8 (.slice A2 bs.length c2) bs :: rowsR 3 FldR (.slice A n c) fs :: L))
    case atStart => exact ⟨0, none, 0, rfl, Nat.zero_le _, rfl, rfl, H3.out.nilRow _ _⟩
    case round =>
      clear H3
      obtain ⟨k, A', c', hgk, hk, rfl, rfl, h⟩ := hrel
      have HGK := hide hgk
      clear hgk
      by_cases hlt : k < n
      · have hx := List.getElem?_eq_getElem (l := fs) (i := k) (by rw [HN.out]; exact hlt)
        generalize fs[k]'(by rw [HN.out]; exact hlt) = f at hx
        obtain ⟨ad, cs, rfl, hl, hcs, vb, rfl, _, _, _⟩ := (h.getRows 2 rfl).at_ hx
        obtain ⟨k0, k1, k2⟩ := cells3 hcs
        have HM := hide (map_take_snoc Fld.k hx)
        have H := hide h
        clear hx h hcs hl
        go_wp2_with (at_builtin; refine St.app_step int_row (H.out.junk _) rfl _ _ rfl rfl (some ⟨wr.heap.size, 0, none⟩) 1 1 rfl [.int .i64 f.k] (sl_new1 _ _ _) (nums_oneCell .i64 [f.k]) (by omega) (by omega) ?_; intro A4 c4 w4 h4)
        go_roundg (n - (k + 1))
        case measure => have := HGK.out; omega
        case rel => exact ⟨k + 1, A4, c4, rfl, hlt, by go_num, rfl, by rw [HM.out, List.map_append]; exact h4⟩
      · obtain rfl : k = n := by omega
        have e : fs.take k = fs := List.take_of_length_le (by rw [HN.out]; exact Nat.le_refl _)
        rw [e] at h
        have hkl : (fs.map Fld.k).length = k := by rw [List.length_map, HN.out]
        have H := hide h.ints
        have HKL := hide hkl
        clear h e hkl
        go_wp2_with fail
        refine (dec_st _ _ (fs.map Fld.k) bs _ (by rw [HKL.out]; omega) HBB.out.1 (by have := HBB.out.2; omega) H.out).mono ?_
        rintro e w3 ⟨y, rfl, h⟩
        rw [HD.out.1]
        rw [HD.out.2] at h
        obtain ⟨A5, c5, rfl, _, hm5⟩ := (h.getRows 0 rfl).slice
        rw [List.length_map, HN.out] at h ⊢
        have H2 := hide h
        clear H h
        go_wp2_with fail
        have hk9 : ∀ f ∈ fs, isKind f.k = true := by
          have hk : allKinds fs = true := by
            cases hc : allKinds fs with
            | true => rfl
            | false => have := HE0.out; unfold encE at this; rw [hc] at this; simp at this
          exact fun f hf => List.all_eq_true.1 hk f hf
        have HK9 := hide hk9
        clear hk9
        go_loopw [10] (fun i wr => ∃ j : Nat, j ≤ k ∧ i = .int .i64 j ∧ St M0 wr (rowsR 3 FldR (.slice A5 k c5) (fs.map Fld.norm) :: rowsR 3 FldR (.slice A k c) fs :: L)) (fun i _ => k - (intOf i).toNat)
        case atStart => exact ⟨0, Nat.zero_le _, rfl, H2.out.del1.del1⟩
        case round =>
          clear H2
          obtain ⟨j, hj, rfl, h⟩ := hrel
          by_cases hlt2 : j < k
          · have hx := List.getElem?_eq_getElem (l := fs) (i := j) (by rw [HN.out]; exact hlt2)
            generalize fs[j]'(by rw [HN.out]; exact hlt2) = f at hx
            have hx2 : (fs.map Fld.norm)[j]? = some f.norm := by rw [List.getElem?_map, hx]; rfl
            obtain ⟨ad, cs, rfl, hl1, hcs, ⟨vb, rfl, hI, hn1, hn2⟩, h⟩ := h.elem 1 rfl hx
            obtain ⟨bd, cs2, rfl, hl2, hcs2, ub, rfl, hI2, _, _⟩ := (h.getRows 1 rfl).at_ hx2
            obtain ⟨k0, k1, k2⟩ := cells3 hcs
            obtain ⟨j0, j1, j2⟩ := cells3 hcs2
            obtain ⟨A6, c6, rfl, _, _, _⟩ := id hI
            obtain ⟨A7, c7, rfl, _, _, _⟩ := id hI2
            have HI := hide (fun m => hI.non ((Fr.refl _ _).drewN m))
            have HI2 := hide (fun m => hI2.non ((Fr.refl _ _).drewN m))
            have hkf := HK9.out f (List.mem_of_getElem? hx)
            have H2 := hide h.tail
            clear hx hx2 hcs hcs2 hl1 hl2 hI hI2 h
            rcases isKind_cases hkf with h9 | ⟨m, hm, hm1, hm8⟩
            · have e : f.norm = ⟨9, 0, f.b⟩ := by unfold Fld.norm; rw [if_pos h9]
              rw [e] at j0 j1 j2 HI2
              rw [h9] at k0
              clear e hkf h9
              go_wp2
              go_quiet ((go_at_call 19; exact Calls.quiet_of (same_eq _ _ f.b _ (HI2.out _) (HI.out _))))
              go_wp2
              go_roundw
              case rel => exact ⟨j + 1, by omega, by go_num, H2.out.drewN _⟩
              case measure => simp [intOf]; omega
            · have e : f.norm = ⟨f.k, f.n % 256 ^ m, []⟩ := by unfold Fld.norm; rw [if_neg (by omega), hm]; rfl
              rw [e] at j0 j1 j2
              simp only at j0 j1 j2
              rw [hm] at k0 j0
              have hm9 : ((m : Int) == 9) = false := isF (by omega)
              clear e hkf hm HI2 HI
              by_cases h8 : m < 8
              · have hp1 : (1 : Int) ≤ 256 ^ m := Int.pow_pos (by omega)
                have hp2 : (256 : Int) ^ m ≤ 72057594037927936 := by
                  have : ∀ k, k ≤ 7 → (256 : Int) ^ k ≤ 72057594037927936 := by decide
                  exact this m (by omega)
                have hsh : IntKind.u64.wrap (2 ^ (8 * m)) = 256 ^ m := by
                  have e : (2 : Int) ^ (8 * m) = 256 ^ m := by rw [Int.pow_mul]; rfl
                  rw [e, IntWalk.u64_in _ (by omega)]
                have w8 : IntKind.i64.wrap (8 * (m : Int)) = 8 * (m : Int) := IntWalk.i64_in _ (by omega)
                have w0 : (0 : Int) ≤ 8 * (m : Int) := by omega
                have wl : 8 * (m : Int) ≤ 64 := by omega
                have w2 : (8 * (m : Int)).toNat = 8 * m := by omega
                have hm8 : (m : Int) < 8 := by omega
                generalize (256 : Int) ^ m = p at *
                go_wp2
                go_quiet (fail)
                go_wp2
                go_roundw
                case rel => exact ⟨j + 1, by omega, by go_num, H2.out.drewN _⟩
                case measure => simp [intOf]; omega
              · obtain rfl : m = 8 := by omega
                rw [show f.n % 256 ^ 8 = f.n from Int.emod_eq_of_lt hn1 hn2] at j1
                go_wp2
                go_quiet (fail)
                go_wp2
                go_roundw
                case rel => exact ⟨j + 1, by omega, by go_num, H2.out.drewN _⟩
                case measure => simp [intOf]; omega
          · go_wp2
            go_ret
            exact ⟨rfl, h.tail⟩
  · have h0b := isN h0
    have e : encB fs = [] := by unfold encB; rw [if_neg h0]
    have he : (encB fs).length = 0 := by rw [e]; rfl
    have H3 := hide H2.out.tail
    rw [he]
    clear e he h0 H2
    generalize encE fs = ec at *
    go_wp2_with fail
    go_ret
    exact ⟨rfl, H3.out⟩

end Go.Proofs.Ytdhkklcjhbnnlaa
