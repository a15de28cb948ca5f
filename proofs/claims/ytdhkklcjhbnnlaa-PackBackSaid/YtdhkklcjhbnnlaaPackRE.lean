/- The document's answer: Encode. -/
import Derived.Test.YtdhkklcjhbnnlaaPackR
namespace Go.Proofs.Ytdhkklcjhbnnlaa
open Go.RowKit

set_option maxRecDepth 100000 in
set_option maxHeartbeats 1000000 in
theorem renc_st {M0 : Imm} {L : List Res} (v : Value) (fs : List Fld) (w : World) (hl : fs.length ≤ 100) (h : St M0 w (rowsR 3 FldR v fs :: L)) :
    Calls Try.prog 18 #[v] w fun e w' => ∃ u, e = .returned (.tuple #[u, .int .i64 (encE fs)]) ∧ St M0 w' (rowR 5 1 u (encB fs).length (bv (encB fs)) :: rowsR 3 FldR v fs :: L) := by
  obtain ⟨A, c, rfl, hc, hm⟩ := (h.getRows 0 rfl).slice
  generalize hn : fs.length = n at *
  have HN := hide hn
  have H := hide h
  clear hn h
  go_enter Try.func18, Try.ntmps18
  go_wp2_with fail
  go_loop [4] (fun i => ∃ k : Nat, k ≤ n ∧ i = .int .i64 k ∧ (∀ f ∈ fs.take k, isKind f.k = true)) (fun i => n - (intOf i).toNat)
  case atStart => exact ⟨0, Nat.zero_le _, rfl, by simp⟩
  case round =>
    obtain ⟨k, hk, rfl, he⟩ := hrel
    have HE := hide he
    clear he
    by_cases hlt : k < n
    · have hx := List.getElem?_eq_getElem (l := fs) (i := k) (by rw [HN.out]; exact hlt)
      generalize fs[k]'(by rw [HN.out]; exact hlt) = f at hx
      obtain ⟨ad, cs, rfl, hll, hcs, vb, rfl, hb, _, _⟩ := (H.out.getRows 0 rfl).at_ hx
      obtain ⟨k0, k1, k2⟩ := cells3 hcs
      have HX := hide hx
      clear hx hcs hll hb
      cases hb : isKind f.k with
      | true =>
        have HB := hide hb
        clear hb
        go_wp2_with (go_at_call 60; refine (rkind_any _ _).mono ?_; rintro e w' ⟨rfl, rfl⟩; rw [HB.out])
        go_round
        case rel => exact ⟨k + 1, by omega, by go_num, take_all HE.out HX.out HB.out⟩
        case measure => simp [intOf]; omega
      | false =>
        have HB := hide hb
        clear hb
        go_wp2_with (go_at_call 60; refine (rkind_any _ _).mono ?_; rintro e w' ⟨rfl, rfl⟩; rw [HB.out])
        go_ret2
        have e0 : allKinds fs = false := List.all_eq_false.2 ⟨f, List.mem_of_getElem? HX.out, by simp [HB.out]⟩
        have e1 : encE fs = 1 := by unfold encE; rw [e0]; rfl
        have e2 : encB fs = [] := by unfold encB; rw [e1]; rfl
        rw [e1, e2]
        exact ⟨_, rfl, H.out.nilRow _ _⟩
    · have hall : allKinds fs = true := by
        refine List.all_eq_true.2 (fun f hf => HE.out f ?_)
        rw [List.take_of_length_le (by rw [HN.out]; omega)]
        exact hf
      have HB := hide hall
      clear hall HE
      go_wp2_with fail
      go_loopg [6, 7] n (fun gh v i wr => ∃ (k : Nat) (A' : Option Addr) (c' q : Nat), gh = n - k ∧ k ≤ n ∧ i = .int .i64 k ∧ v = .slice A' q c' ∧ q = (fldsB (fs.take k)).length ∧ (∀ f ∈ fs.take k, tooLong f = false) ∧ St M0 wr (rowR 5 1 (.slice A' q c') q (bv (fldsB (fs.take k))) :: rowsR 3 FldR (.slice A n c) fs :: L))
      case atStart => exact ⟨0, none, 0, 0, rfl, Nat.zero_le _, rfl, rfl, rfl, by simp, H.out.nilRow _ _⟩
      case round =>
        clear H hk hlt
        obtain ⟨k, A', c', q, hgk, hk, rfl, rfl, hq, he, h⟩ := hrel
        have HGK := hide hgk
        have HE := hide he
        have hq2 : q ≤ 200000 := by
          have := fldsB_length (fs.take k)
          have h2 : (fs.take k).length ≤ k := List.length_take_le _ _
          have h3 := Nat.mul_le_mul_right 1002 h2
          omega
        have HQ := hide hq
        clear hgk he hq
        by_cases hlt : k < n
        · have hx := List.getElem?_eq_getElem (l := fs) (i := k) (by rw [HN.out]; exact hlt)
          generalize fs[k]'(by rw [HN.out]; exact hlt) = f at hx
          obtain ⟨ad, cs, rfl, hll, hcs, ⟨vb, rfl, _, hn0, hn1⟩, hf⟩ := h.elem 1 rfl hx
          obtain ⟨k0, k1, k2⟩ := cells3 hcs
          have HX := hide hx
          have H := hide ((hf.copy 0 rfl).pers1 (R' := fun w' => Ints w' .u8 vb f.b) (fun w' ⟨_, v', e, hi, _⟩ => by simp at e; rw [e]; exact hi))
          have HY := hide (fldsB_take hx)
          have hfl := fldB_length f
          clear hx h hcs hll hf
          obtain ⟨A2, c2, rfl, hl2, hm2, _⟩ := H.out.get 0 rfl
          unfold maxLen at hm2
          by_cases h9 : f.k = 9
          · have HF : Hid (fldB f = bytB f.b) := hide (by unfold fldB; rw [if_pos h9])
            rw [HF.out] at hfl
            rw [h9] at k0
            have H9 := hide h9
            clear h9
            by_cases hlo : 1000 < f.b.length
            · go_wp2_with fail
              go_ret2
              have hbad : fs.any tooLong = true := List.any_eq_true.2 ⟨f, List.mem_of_getElem? HX.out, by unfold tooLong; rw [H9.out]; simpa using hlo⟩
              have e1 : encE fs = 2 := by unfold encE; rw [HB.out, hbad]; rfl
              have e2 : encB fs = [] := by unfold encB; rw [e1]; rfl
              rw [e1, e2]
              exact ⟨_, rfl, H.out.tail.tail.tail.nilRow _ _⟩
            · go_wp2_with fail
              refine (rbyt_st _ f.b _ H.out.del1).mono ?_
              rintro e w2 ⟨u, rfl, h⟩
              obtain ⟨A3, c3, rfl⟩ := h.slice
              have H2 := hide h.ints
              generalize hz : (bytB f.b).length = z at *
              have HZ := hide hz
              clear H h hz
              go_wp2_with (at_builtin; refine St.app_step u8_row H2.out.up2 rfl _ _ rfl rfl A3 z c3 rfl (bv (bytB f.b)) (H2.out.get 0 rfl).sl.2.2.2 (bv_one _) (by omega) (by omega) ?_; intro A4 c4 w1 h1)
              go_roundg (n - (k + 1))
              case measure => have := HGK.out; omega
              case rel => exact ⟨k + 1, A4, c4, q + z, rfl, hlt, by go_num, rfl, by rw [HY.out, HF.out, List.length_append, ← HQ.out, HZ.out], take_all HE.out HX.out (by unfold tooLong; rw [decide_eq_false hlo, Bool.and_false]), by rw [HY.out, HF.out, bv_append]; exact h1.del1.del1⟩
          · have HF : Hid (fldB f = numI f.n f.k) := hide (by unfold fldB; rw [if_neg h9])
            rw [HF.out] at hfl
            have h9b := isF h9
            have H9 := hide h9
            clear h9
            go_wp2_with fail
            refine region_mix (fun W => W.cell? (ad.add (k * 3)) = some (.int .i64 f.k) ∧ W.cell? ⟨(ad.add (k * 3)).block, (ad.add (k * 3)).off + 1, none⟩ = some (.int .u64 f.n)) 13 [0, 1, 2, 3, 4, 5, 6, 7, 8, 9, 10] [11, 12, 13] (by kernel_rfl) (by kernel_rfl)
              (fun d => by cases d <;> exact fun _ _ _ _ h => h) (fun W hW => ?_)
            refine ⟨⟨by rw [hW]; exact k0, by rw [hW]; exact k1⟩, ?_⟩
            clear k0 k1 k2
            have H2 := hide (H.out.tail.grow (show Fr Non wr W by rw [hW]; exact (Fr.refl _ _).drew))
            clear H hW
            have i0 : (0 : Int) ≤ (k : Int) := by omega
            have i1 : (k : Int) < (n : Int) := by omega
            iterate 11 (refine take_run rfl rfl (fun W hW => by (rcases hW with ⟨_, _⟩; go_simp; try rfl)) ?_; simp only [Act.put, List.setIfInBounds_toArray, List.set_cons_succ, List.set_cons_zero])
            refine take_nil ?_
            refine seq_call (f := 27) (args := #[.int .u64 f.n, .int .i64 f.k]) rfl rfl (by go_simp) ((rnum_st f.n f.k _ hn0 hn1 H2.out).mono ?_)
            rintro e w2 ⟨u, rfl, h⟩
            obtain ⟨A3, c3, rfl⟩ := h.slice
            obtain ⟨k0, k1, k2⟩ := cells3 (h.get 1 rfl).1
            refine ⟨_, rfl, fun _ => ⟨k0, k1⟩, ?_⟩
            clear k0 k1 k2
            have H3 := hide h.ints
            generalize hz : (numI f.n f.k).length = z at *
            have HZ := hide hz
            clear H2 h hz
            (simp only [Act.put, List.setIfInBounds_toArray, List.set_cons_succ, List.set_cons_zero])
            refine seq_app u8_row H3.out.up2 rfl rfl _ _ rfl rfl A3 z c3 rfl (bv (numI f.n f.k)) (H3.out.get 0 rfl).sl.2.2.2 (bv_one _) (by omega) (by omega) (fun A4 c4 w1 h1 => ⟨fun _ => ⟨(cells3 (h1.get 2 rfl).1).1, (cells3 (h1.get 2 rfl).1).2.1⟩, ?_⟩)
            (simp only [Act.put, List.setIfInBounds_toArray, List.set_cons_succ, List.set_cons_zero])
            (refine seq_read rfl rfl (by (go_simp; try rfl)) (fun h => absurd h (by decide)) ?_; simp only [Act.put, List.setIfInBounds_toArray, List.set_cons_succ, List.set_cons_zero])
            refine seq_nil ?_
            go_wp2_with fail
            go_roundg (n - (k + 1))
            case measure => have := HGK.out; omega
            case rel => exact ⟨k + 1, A4, c4, q + z, rfl, hlt, by go_num, rfl, by rw [HY.out, HF.out, List.length_append, ← HQ.out, HZ.out], take_all HE.out HX.out (by unfold tooLong; rw [beq_eq_false_iff_ne.2 H9.out]; rfl), by rw [HY.out, HF.out, bv_append]; exact h1.del1.del1⟩
        · have e : fs.take k = fs := List.take_of_length_le (by rw [HN.out]; omega)
          rw [e] at h
          have hgood : fs.any tooLong = false := by
            have h := HE.out
            rw [e] at h
            exact List.any_eq_false.2 (fun f hf => by simp [h f hf])
          have hq3 := HQ.out
          rw [e] at hq3
          have HZ := hide hgood
          have HQ3 := hide hq3
          clear e hgood hq3
          go_wp2_with fail
          go_ret2
          have e1 : encE fs = 0 := by unfold encE; rw [HB.out, HZ.out]; rfl
          have e2 : encB fs = fldsB fs := by unfold encB; rw [e1]; rfl
          rw [e1, e2]
          exact ⟨_, rfl, by rw [← HQ3.out]; exact h⟩

end Go.Proofs.Ytdhkklcjhbnnlaa
