/- Redo: Four, Blocks. -/
import Derived.Test.YtbnjeekhoaapiaaRedoBr
import Derived.Test.YtbnjeekhoaapiaaRimA
import Derived.Test.YtbnjeekhoaapiaaEqSt
import Derived.Deep.LoopGhost
import Derived.Deep.DeepCutAuto
namespace Go.Proofs.Ytbnjeekhoaapiaa
open Go.RowKit

/-- a slice's value -/
structure SV where
  a : Option Addr
  n : Nat
  c : Nat
abbrev SV.v (s : SV) : Value := .slice s.a s.n s.c
abbrev fourV (s : Nat → SV) : Value := .agg #[.slice (s 0).a (s 0).n (s 0).c, .slice (s 1).a (s 1).n (s 1).c, .slice (s 2).a (s 2).n (s 2).c, .slice (s 3).a (s 3).n (s 3).c]
abbrev fourC (s : Nat → SV) : Array Value := #[.slice (s 0).a (s 0).n (s 0).c, .slice (s 1).a (s 1).n (s 1).c, .slice (s 2).a (s 2).n (s 2).c, .slice (s 3).a (s 3).n (s 3).c]
abbrev fourR (s : Nat → SV) (b : Nat → List Int) : Res := persR (fun w => ∀ j, j < 4 → Ints w .u8 (.slice (s j).a (s j).n (s j).c) (b j))
theorem fourC_at (s : Nat → SV) {k : Nat} (hk : k < 4) : (fourC s)[k]? = some (.slice (s k).a (s k).n (s k).c) := by
  rcases below4 hk with rfl | rfl | rfl | rfl <;> rfl
theorem fourC_set (s : Nat → SV) {k : Nat} (hk : k < 4) (u : SV) : (fourC s).setIfInBounds k (.slice u.a u.n u.c) = fourC (upd s k u) := by
  rcases below4 hk with rfl | rfl | rfl | rfl <;> rfl

set_option maxHeartbeats 2000000 in
set_option maxRecDepth 100000 in
theorem four_st {M0 : Imm} {L : List Res} (v u : Nat → SV) (a b : Nat → List Int) (w : World) (h : St M0 w (fourR v a :: fourR u b :: L)) :
    Calls Try.prog 38 #[fourV v, fourV u] w fun e w' => ∃ t : Bool, e = .returned (.bool t) ∧ (t = true ↔ ∀ j, j < 4 → a j = b j) ∧ St M0 w' (fourR v a :: fourR u b :: L) := by
  have h1 := (h.alloc 81 (fourC v)).alloc 81 (fourC u)
  rw [World.size_alloc] at h1
  have H := hide h1
  clear h h1
  go_enter Try.func38, Try.ntmps38
  go_wp2_with fail
  generalize w.heap.size = g at *
  go_loopg [5] 4 (fun gh i wr => ∃ k : Nat, gh = 4 - k ∧ k ≤ 4 ∧ i = .int .i64 (k : Nat) ∧ (∀ j, j < k → a j = b j) ∧ St M0 wr (blkR (g + 1) 81 (fourC u) :: blkR g 81 (fourC v) :: fourR v a :: fourR u b :: L))
  case atStart => exact ⟨0, rfl, by omega, rfl, fun j hj => by omega, H.out⟩
  case round =>
    clear H
    obtain ⟨k, hg, hk, rfl, hab, h⟩ := hrel
    have HG := hide hg
    have HAB := hide hab
    clear hg hab
    by_cases hlt : k < 4
    · have x0 : wr.cell? ⟨g, k, none⟩ = some (.slice (v k).a (v k).n (v k).c) := ((h.blk 1 rfl).cell k).trans (fourC_at v hlt)
      have y0 : wr.cell? ⟨g + 1, k, none⟩ = some (.slice (u k).a (u k).n (u k).c) := ((h.blk 0 rfl).cell k).trans (fourC_at u hlt)
      have hv := h.get 2 rfl k hlt
      have hu := h.get 3 rfl k hlt
      have HV := hide (fun m => hv.non ((Fr.refl _ _).drewN m))
      have HU := hide (fun m => hu.non ((Fr.refl _ _).drewN m))
      have HH := hide h
      clear h hv hu
      have i0 : (0 : Int) ≤ (k : Int) := by omega
      have i1 : (k : Int) < 4 := by omega
      by_cases he : a k = b k
      · have HE := hide he
        clear he
        go_wp2_with fail
        go_quiet ((go_at_call 31; exact Calls.quiet_of ((same_q _ _ _ _ _ (HV.out _) (HU.out _)).mono (fun e w' ⟨h1, h2⟩ => ⟨(by rw [h1, decide_eq_true HE.out] : e = .returned (.bool true)), h2⟩))))
        go_wp2_with fail
        go_roundg (4 - (k + 1))
        case measure => have := HG.out; omega
        case rel => exact ⟨k + 1, rfl, by omega, by go_num, (fun j hj => (Nat.lt_or_ge j k).elim (fun h => HAB.out j h) (fun h => (show j = k by omega) ▸ HE.out)), HH.out.drewN _⟩
      · have HE := hide he
        clear he
        have hlt' := hide hlt
        go_wp2_with fail
        go_quiet ((go_at_call 31; exact Calls.quiet_of ((same_q _ _ _ _ _ (HV.out _) (HU.out _)).mono (fun e w' ⟨h1, h2⟩ => ⟨(by rw [h1, decide_eq_false HE.out] : e = .returned (.bool false)), h2⟩))))
        go_wp2_with fail
        go_ret
        exact ⟨false, rfl, ⟨fun h => absurd h Bool.false_ne_true, fun h => absurd (h k hlt'.out) HE.out⟩, (HH.out.drewN _).tail.tail⟩
    · obtain rfl : k = 4 := by omega
      have H := hide h
      clear h
      go_wp2_with fail
      go_ret
      exact ⟨true, rfl, ⟨fun _ => HAB.out, fun _ => rfl⟩, H.out.tail.tail⟩
theorem results_cell1 {fn : Func} {t : Nat} {ty : TypeId} {P : Program} {w : World} {v : Value} {a : Addr} (h : fn.results = #[.cell t ty]) (tmps : Array Value) (ha : tmps.getD t undef = .pointer (some a)) (hl : (loadVar ty a).run P w = .ok v w) :
    (results fn tmps).run P w = .ok v w := by
  have ha' : tmps[t]?.getD undef = .pointer (some a) := by simpa using ha
  simp [results, h, ha', asAddr, hl]

set_option maxHeartbeats 2000000 in
set_option maxRecDepth 100000 in
theorem blocks_st {M0 : Imm} {L : List Res} (v : Nat → SV) (b : Nat → List Int) (l : List PU) (A : Option Addr) (n c d : Nat) (w : World) (hd : d ≤ 9223372036854775807) (hl : ∀ p ∈ l, 0 ≤ p.index ∧ p.index < 4)
    (h : St M0 w (fourR v b :: rowsR 3 PutR (.slice A n c) l :: L)) :
    Calls Try.prog 39 #[fourV v, .slice A n c, .int .i64 d] w fun e w' => ∃ u, e = .returned (fourV u) ∧ St M0 w' (fourR u (app b (l.take d)) :: L) := by
  obtain ⟨A', c', e, hc, hmc⟩ := (h.getRows 1 rfl).slice
  injection e with e1 e2 e3
  subst e1; subst e3
  have HN := hide e2
  have hn9 : n ≤ 9223372036854775807 := by omega
  have h1 := ((h.junk (.cells (fourC v) 81)).alloc 81 #[.slice none 0 0, .slice none 0 0, .slice none 0 0, .slice none 0 0]).alloc 81 (fourC v)
  simp only [World.size_alloc] at h1
  have H := hide h1
  have HL := hide hl
  clear h e2 hl h1
  go_enter Try.func39, Try.ntmps39
  go_wp2_with fail
  generalize w.heap.size = g at *
  go_loopg [8] (n + d) (fun gh i wr => ∃ (k : Nat) (u : Nat → SV), gh = n + d - k ∧ k ≤ n ∧ k ≤ d ∧ i = .int .i64 (k : Nat) ∧ St M0 wr (blkR (g + 1 + 1) 81 (fourC u) :: blkR (g + 1) 81 #[.slice none 0 0, .slice none 0 0, .slice none 0 0, .slice none 0 0] :: fourR u (app b (l.take k)) :: rowsR 3 PutR (.slice A n c) l :: L))
  case atStart => exact ⟨0, v, rfl, by omega, by omega, rfl, H.out⟩
  case round =>
    clear H
    obtain ⟨k, u, hg, hk, hkd, rfl, h⟩ := hrel
    have HG := hide hg
    clear hg
    have fin : l.take k = l.take d → ∀ W, St M0 W (blkR (g + 1 + 1) 81 (fourC u) :: blkR (g + 1) 81 #[.slice none 0 0, .slice none 0 0, .slice none 0 0, .slice none 0 0] :: fourR u (app b (l.take k)) :: rowsR 3 PutR (.slice A n c) l :: L) → St M0 (((((W.setCell ⟨g + 1, 0, none⟩ (.slice (u 0).a (u 0).n (u 0).c)).setCell ⟨g + 1, 1, none⟩ (.slice (u 1).a (u 1).n (u 1).c)).setCell ⟨g + 1, 2, none⟩ (.slice (u 2).a (u 2).n (u 2).c)).setCell ⟨g + 1, 3, none⟩ (.slice (u 3).a (u 3).n (u 3).c))) (blkR (g + 1) 81 (fourC u) :: fourR u (app b (l.take d)) :: L) := fun he W hW => by
      rw [he] at hW
      exact ((((hW.tail.set_ 0 (.slice (u 0).a (u 0).n (u 0).c)).set_ 1 (.slice (u 1).a (u 1).n (u 1).c)).set_ 2 (.slice (u 2).a (u 2).n (u 2).c)).set_ 3 (.slice (u 3).a (u 3).n (u 3).c)).pick 3 [0, 1]
    by_cases hd1 : k < d
    · have d1 : decide ((k : Int) < (d : Int)) = true := decide_eq_true (by omega)
      by_cases hlt : k < n
      · have hx := List.getElem?_eq_getElem (l := l) (i := k) (by rw [← HN.out]; exact hlt)
        generalize l[k]'(by rw [← HN.out]; exact hlt) = x at hx
        have hxi := HL.out x (List.mem_of_getElem? hx)
        have hstep : app b (l.take (k + 1)) = upd (app b (l.take k)) x.index.toNat x.data := by
          rw [List.take_add_one, hx, app_append]; rfl
        obtain ⟨ad, cs, rfl, _, hcs, ⟨va, rfl, hv⟩, h1⟩ := h.elem 3 rfl hx
        obtain ⟨X, xc, rfl, _, _, _⟩ := id hv
        obtain ⟨j, hj⟩ := Int.eq_ofNat_of_zero_le hxi.1
        have hj4 : j < 4 := by omega
        rw [hj] at hstep hcs h1
        have HST := hide hstep
        have H1 := hide (h1.pers1 (R' := fun w' => (∀ i y, [Value.int .i64 x.region, .int .i64 (j : Int), .slice X x.data.length xc][i]? = some y → w'.cell? ((ad.add (k * 3)).add i) = some y) ∧ Ints w' .u8 (.slice X x.data.length xc) x.data) (fun w' hr => ⟨hr.1, by obtain ⟨v', e, hv'⟩ := hr.2; injection e with _ e; injection e with _ e; injection e with e; subst e; exact hv'⟩))
        clear hx hxi hstep h h1 hcs hv hj fin
        have i0 : (0 : Int) ≤ (k : Int) := by omega
        have i1 : (k : Int) < (n : Int) := by omega
        have j0 : (0 : Int) ≤ (j : Int) := by omega
        have j1 : (j : Int) < 4 := by omega
        have d2 : decide ((k : Int) < (n : Int)) = true := decide_eq_true (by omega)
        go_wp2_with fail
        refine region_mix (fun W => W.cell? ⟨(ad.add (k * 3)).block, (ad.add (k * 3)).off + 1, none⟩ = some (.int .i64 (j : Int)) ∧ W.cell? ⟨(ad.add (k * 3)).block, (ad.add (k * 3)).off + 2, none⟩ = some (.slice X x.data.length xc)) 11 [0, 1, 2, 3, 4, 5, 6, 7, 8, 9, 10] [11, 12] (by kernel_rfl) (by kernel_rfl) (fun d => by cases d <;> exact fun _ _ _ _ h => h) (fun W hW => ?_)
        have hS : St M0 W _ := hW ▸ H1.out.drew
        have hS2 := hide hS
        have hcc := cells3 (hS.get 0 rfl).1
        clear hW H1 hS
        refine ⟨⟨hcc.2.1, hcc.2.2⟩, ?_⟩
        clear hcc
        iterate 11 (refine take_run rfl rfl (fun W hW => by (rcases hW with ⟨_, _⟩; go_simp; try rfl)) ?_; (simp only [Act.put, List.setIfInBounds_toArray, List.set_cons_succ, List.set_cons_zero]))
        refine take_nil ?_
        have f := (hS2.out.blk 1 rfl).frozen
        have hcell : W.cell? ⟨g + 1 + 1, j, none⟩ = some (.slice (u j).a (u j).n (u j).c) := ((hS2.out.blk 1 rfl).cell j).trans (fourC_at u hj4)
        have h2 := (hS2.out.swap.set_ j (.slice X x.data.length xc))
        rw [fourC_set u hj4 ⟨X, x.data.length, xc⟩] at h2
        have h3 := h2.pick (L' := persR (fun w' => (∀ i y, [Value.int .i64 x.region, .int .i64 (j : Int), .slice X x.data.length xc][i]? = some y → w'.cell? ((ad.add (k * 3)).add i) = some y) ∧ Ints w' .u8 (.slice X x.data.length xc) x.data) :: fourR u (app b (l.take k)) :: blkR (g + 1 + 1) 81 (fourC (upd u j ⟨X, x.data.length, xc⟩)) :: blkR (g + 1) 81 #[.slice none 0 0, .slice none 0 0, .slice none 0 0, .slice none 0 0] :: rowsR 3 PutR (.slice (some ad) n c) l :: L) 5 [1, 3, 0, 2, 4]
        have h4 := h3.pers2 (Q := fun w' => ∀ i, i < 4 → Ints w' .u8 (.slice ((upd u j ⟨X, x.data.length, xc⟩) i).a ((upd u j ⟨X, x.data.length, xc⟩) i).n ((upd u j ⟨X, x.data.length, xc⟩) i).c) (upd (app b (l.take k)) j x.data i)) (fun w' ha hb i hi => by
          by_cases he : i = j
          · subst he
            rw [upd_at, upd_at]
            exact ha.2
          · rw [upd_ne _ _ _ _ he, upd_ne _ _ _ _ he]
            exact hb i hi)
        have H4 := hide (h4.dn2)
        clear h2 h3 h4 hS2
        refine seq_read rfl rfl (by (go_simp; try rfl)) (fun h => absurd h (by decide)) ?_
        (simp only [Act.put, List.setIfInBounds_toArray, List.set_cons_succ, List.set_cons_zero])
        refine seq_store rfl rfl 60 _ _ (.pointer (some ⟨g + 1 + 1, j, none⟩)) (.slice X x.data.length xc) rfl rfl rfl (by go_simp; try rfl) (fun h => absurd h (by decide)) ?_
        simp only [Act.put]
        refine seq_nil ?_
        clear f hcell
        generalize World.setCell W _ _ = w5 at H4 ⊢
        go_wp2_with fail
        go_roundg (n + d - (k + 1))
        case measure => have := HG.out; omega
        case rel => exact ⟨k + 1, upd u j ⟨X, x.data.length, xc⟩, rfl, by omega, by omega, by go_num, by rw [HST.out]; exact H4.out⟩
      · obtain rfl : k = n := by omega
        have htk : l.take k = l.take d := by rw [List.take_of_length_le (by rw [← HN.out]; exact Nat.le_refl _), List.take_of_length_le (by rw [← HN.out]; omega)]
        have H := hide (fin htk _ h)
        have y0 := (h.blk 0 rfl).cell 0
        have y1 := (h.blk 0 rfl).cell 1
        have y2 := (h.blk 0 rfl).cell 2
        have y3 := (h.blk 0 rfl).cell 3
        have z0 := (h.blk 1 rfl).cell 0
        have z1 := (h.blk 1 rfl).cell 1
        have z2 := (h.blk 1 rfl).cell 2
        have z3 := (h.blk 1 rfl).cell 3
        have f := (h.blk 1 rfl).frozen
        clear h htk hlt fin
        go_wp2_with fail
        all_goals
          have u0 := (H.out.blk 0 rfl).cell 0
          have u1 := (H.out.blk 0 rfl).cell 1
          have u2 := (H.out.blk 0 rfl).cell 2
          have u3 := (H.out.blk 0 rfl).cell 3
          clear y0 y1 y2 y3 z0 z1 z2 z3 f
          refine bodyPost_ret (v := fourV u) (results_cell1 rfl _ rfl ?_) rfl ⟨u, rfl, H.out.tail⟩
          generalize World.setCell (World.setCell (World.setCell (World.setCell wr _ _) _ _) _ _) _ _ = w9 at *
          clear H
          go_simp
    · obtain rfl : k = d := by omega
      have H := hide (fin rfl _ h)
      have y0 := (h.blk 0 rfl).cell 0
      have y1 := (h.blk 0 rfl).cell 1
      have y2 := (h.blk 0 rfl).cell 2
      have y3 := (h.blk 0 rfl).cell 3
      have z0 := (h.blk 1 rfl).cell 0
      have z1 := (h.blk 1 rfl).cell 1
      have z2 := (h.blk 1 rfl).cell 2
      have z3 := (h.blk 1 rfl).cell 3
      have f := (h.blk 1 rfl).frozen
      clear h hd1 fin
      go_wp2_with fail
      all_goals
        have u0 := (H.out.blk 0 rfl).cell 0
        have u1 := (H.out.blk 0 rfl).cell 1
        have u2 := (H.out.blk 0 rfl).cell 2
        have u3 := (H.out.blk 0 rfl).cell 3
        clear y0 y1 y2 y3 z0 z1 z2 z3 f
        refine bodyPost_ret (v := fourV u) (results_cell1 rfl _ rfl ?_) rfl ⟨u, rfl, H.out.tail⟩
        generalize World.setCell (World.setCell (World.setCell (World.setCell wr _ _) _ _) _ _) _ _ = w9 at *
        clear H
        go_simp
end Go.Proofs.Ytbnjeekhoaapiaa
