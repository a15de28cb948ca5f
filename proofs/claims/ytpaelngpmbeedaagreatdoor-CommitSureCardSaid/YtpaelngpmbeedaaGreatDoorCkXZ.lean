/- vault.Load. -/
import Derived.Test.YtpaelngpmbeedaaGreatDoorCkVZ
namespace Go.Proofs.YtpaelngpmbeedaaGreatDoor
open Go.RowKit

/-! ### plain -/
def lvP (D : DS) (a ar : Int) (i : Nat) : PM := recM D (a + 2 + ar * 21 + (i : Nat))
def lvOk (p : PM) (i : Nat) (nu sz : Int) (len : Nat) : Bool := p.ok && !(p.q != ((i : Nat) : Int) + 1) && !(p.e != nu) && !((p.b.length : Int) != min 43 (sz - (len : Nat)))
def lvGo (D : DS) (a ar nu sz : Int) : Nat → Option (List Int)
  | 0 => some []
  | i + 1 => (lvGo D a ar nu sz i).bind fun out => if ((i : Nat) : Int) * 43 < sz then (if lvOk (lvP D a ar i) i nu sz out.length = true then some (out ++ (lvP D a ar i).b) else none) else some out
def vLoadO (D : DS) (a : Int) : Option (List Int) := if (markM D a).ok = false ∨ (markM D a).sz > 903 then none else lvGo D a (markM D a).ar (markM D a).nu (markM D a).sz 21
def vLoadE (D : DS) (a : Int) : Int := if (vLoadO D a).isSome = true then 0 else 41
def vLoadB (D : DS) (a : Int) : List Int := (vLoadO D a).getD []
theorem lvGo_none {D : DS} {a ar nu sz : Int} {i : Nat} (h : lvGo D a ar nu sz i = none) : ∀ j, lvGo D a ar nu sz (i + j) = none
  | 0 => h
  | j + 1 => by
    show (lvGo D a ar nu sz (i + j)).bind _ = none
    rw [lvGo_none h j]
    rfl
theorem lvGo_stop {D : DS} {a ar nu sz : Int} {i : Nat} (h : ¬ ((i : Nat) : Int) * 43 < sz) : ∀ j, lvGo D a ar nu sz (i + j) = lvGo D a ar nu sz i
  | 0 => rfl
  | j + 1 => by
    show (lvGo D a ar nu sz (i + j)).bind _ = _
    rw [lvGo_stop h j]
    cases lvGo D a ar nu sz i with
    | none => rfl
    | some out => exact if_neg (show ¬ (((i + j : Nat) : Int) * 43 < sz) by omega)
theorem lvGo_next {D : DS} {a ar nu sz : Int} {i : Nat} {out : List Int} (h : lvGo D a ar nu sz i = some out) (hi : ((i : Nat) : Int) * 43 < sz) : lvGo D a ar nu sz (i + 1) = if lvOk (lvP D a ar i) i nu sz out.length = true then some (out ++ (lvP D a ar i).b) else none := by
  show (lvGo D a ar nu sz i).bind _ = _
  rw [h]
  exact if_pos hi
set_option maxHeartbeats 4000000 in
set_option maxRecDepth 100000 in
theorem vLoad_st {M0 : Imm} {L : List Res} (hT : Tbl M0) (g k : Nat) (D : DS) (a : Int) (w : World) (hD : DsOk D k) (ha : 0 ≤ a ∧ a + 44 ≤ (D.n : Int)) (h : St M0 w (dsR g D :: L)) :
    Calls Tryz.prog 67 #[.pointer (some ⟨g, 0, none⟩), .int .i64 a, .int .i64 21] w fun e w' => ∃ A c, e = .returned (.tuple #[.slice A (vLoadB D a).length c, .int .i64 (vLoadE D a)]) ∧ St M0 w' (intsR .u8 (.slice A (vLoadB D a).length c) (vLoadB D a) :: dsR g D :: L) := by
  have HD := hide hD
  have HA := hide ha
  have hn5 := hD.ok.n2
  have H := hide h
  have MR := hide (markM_range hD.b a)
  have E0 := hide (show vLoadO D a = if (markM D a).ok = false ∨ (markM D a).sz > 903 then none else lvGo D a (markM D a).ar (markM D a).nu (markM D a).sz 21 from rfl)
  have E1 := hide (show vLoadE D a = if (vLoadO D a).isSome = true then 0 else 41 from rfl)
  have E2 := hide (show vLoadB D a = (vLoadO D a).getD [] from rfl)
  have ENone := hide (fun (hn : vLoadO D a = none) => (⟨E1.out.trans (by rw [hn]; rfl), E2.out.trans (by rw [hn]; rfl)⟩ : vLoadE D a = 41 ∧ vLoadB D a = []))
  clear h hD
  go_enter Tryz.func67, Tryz.ntmps67
  go_wp2_with fail
  refine (vRight_st g D a _ HA.out hn5 H.out).mono ?_
  rintro e w1 ⟨rfl, h⟩
  have H1 := hide h
  clear h H
  go_wp2_with fail
  refine (vRead_st hT g k D a _ HD.out (by have := HA.out; omega) H1.out).mono ?_
  rintro e w2 ⟨rfl, h⟩
  generalize markM D a = m at *
  obtain ⟨ar, nu, sz, ok⟩ := m
  have MR : Hid (0 ≤ ar ∧ ar ≤ 1 ∧ 0 ≤ nu ∧ nu < 4294967296 ∧ 0 ≤ sz ∧ sz < 65536) := MR
  have E0 : Hid (vLoadO D a = if ok = false ∨ sz > 903 then none else lvGo D a ar nu sz 21) := E0
  have h1 := h.alloc 147 #[.int .i64 ar, .int .u32 nu, .int .i64 sz]
  have c2 := (h1.blk 0 rfl).cell 2
  have H2 := hide h1
  clear h h1 H1
  by_cases hbad : ok = false ∨ sz > 903
  · have EN := hide (ENone.out (E0.out.trans (if_pos hbad)))
    obtain ⟨t2, ht2⟩ : ∃ t2, decide (sz > 903) = t2 := ⟨_, rfl⟩
    have ht2' : decide (903 < sz) = t2 := ht2
    have hbb : (!ok || t2) = true := by rw [← ht2]; simpa using hbad
    have H3 := hide (H2.out.tail.pers0 (R := fun w => Ints w .u8 (.slice none 0 0) []) (fun w' _ => Ints.none_ w' .u8))
    clear hbad
    cases ok
    case' true => cases t2
    case' true.false => exact absurd hbb (by decide)
    all_goals
      clear hbb
      go_wp2_with fail
      go_quiet ((go_at_call 79; exact Calls.quiet_of (room_q _)))
      go_wp2_with fail
      go_ret2
      rw [EN.out.1, EN.out.2]
      exact ⟨none, 0, rfl, H3.out.drewN _⟩
  · have EG := hide (E0.out.trans (if_neg hbad))
    have hok : ok = true := by cases ok with
      | true => rfl
      | false => exact absurd (.inl rfl) hbad
    subst hok
    have hsz : sz ≤ 903 := by
      rcases Int.lt_or_le 903 sz with h | h
      · exact absurd (.inr h) hbad
      · exact h
    have d2 : decide (sz > 903) = false := decide_eq_false (by omega)
    have d2' : decide (903 < sz) = false := d2
    clear hbad
    go_wp2_with fail
    go_quiet ((go_at_call 79; exact Calls.quiet_of (room_q _)))
    have h3 := (H2.out.drewN nq).nilRow 5 1
    obtain ⟨gm, hgm⟩ : ∃ gm, gm = w2.heap.size := ⟨_, rfl⟩
    rw [← hgm] at h3 ⊢
    have H3 := hide h3
    clear h3 H2 hgm c2
    go_wp2_with fail
    go_loopg [11, 12] 22 (fun gh ov iv wr => ∃ (i q : Nat) (A : Option Addr) (c : Nat) (out : List Int), gh = 22 - i ∧ i ≤ 21 ∧ iv = .int .i64 (i : Nat) ∧ ov = .slice A q c ∧ q = out.length ∧ q ≤ i * 43 ∧ lvGo D a ar nu sz i = some out ∧ St M0 wr (rowR 5 1 (.slice A q c) q (bv out) :: blkR gm 147 #[.int .i64 ar, .int .u32 nu, .int .i64 sz] :: dsR g D :: L))
    case atStart => exact ⟨0, 0, none, 0, [], rfl, by omega, rfl, rfl, rfl, by omega, rfl, H3.out⟩
    case round =>
      clear H3
      obtain ⟨i, q, A, c, out, hg, hi, rfl, rfl, hq, hqi, hgo, h⟩ := hrel
      have HG := hide hg
      have HQ := hide hq
      have HGO := hide hgo
      have c0 := (h.blk 1 rfl).cell 0
      have c2 := (h.blk 1 rfl).cell 2
      have H3 := hide h
      have v1 : IntKind.i64.wrap ((i : Int) * 43) = (i : Int) * 43 := IntWalk.i64_in _ (by omega)
      clear hg hq hgo h
      by_cases hlt : (i : Int) * 43 < sz
      · have hi20 : i ≤ 20 := by omega
        have v2 : IntKind.i64.wrap (a + 2) = a + 2 := IntWalk.i64_in _ (by have := HA.out; omega)
        have v3 : IntKind.i64.wrap (ar * 21) = ar * 21 := IntWalk.i64_in _ (by have := MR.out; omega)
        have v4 : IntKind.i64.wrap (a + 2 + ar * 21) = a + 2 + ar * 21 := IntWalk.i64_in _ (by have := MR.out; have := HA.out; omega)
        obtain ⟨ix, hix⟩ : ∃ ix, ix = a + 2 + ar * 21 + (i : Int) := ⟨_, rfl⟩
        have v5 : IntKind.i64.wrap (a + 2 + ar * 21 + (i : Int)) = ix := (IntWalk.i64_in _ (by have := MR.out; have := HA.out; omega)).trans hix.symm
        have v6 : IntKind.i64.wrap ((i : Int) + 1) = (i : Int) + 1 := IntWalk.i64_in _ (by omega)
        have v8 : IntKind.i64.wrap (sz - (q : Int)) = sz - (q : Int) := IntWalk.i64_in _ (by have := MR.out; omega)
        have HIX := hide hix
        have HN := hide (lvGo_next HGO.out hlt)
        have hp : lvP D a ar i = recM D ix := by rw [hix]; rfl
        rw [hp] at HN
        clear hp hix
        have d3 : decide ((i : Int) * 43 < sz) = true := decide_eq_true hlt
        clear hlt
        go_wp2_with fail
        refine (read_ints ix HD.out.ok (H3.out.front (X := dsR g D) (by (repeat (first | with_reducible exact At.here | with_reducible apply At.there))))).mono ?_
        rintro e w4 ⟨A1, c1, rfl, h⟩
        have H4 := hide h
        clear h H3 c0 c2
        go_wp2_with fail
        refine (parse_st hT A1 _ c1 _ _ (DS.read_bytes HD.out.b ix) (by have := DS.read_len D ix; omega) H4.out).mono ?_
        rintro e w5 ⟨A2, c2, rfl, h⟩
        have hpe : recM D ix = parseM (D.read ix) := rfl
        rw [← hpe] at h ⊢
        have PR := hide (parseM_range (DS.read_bytes HD.out.b ix))
        rw [← hpe] at PR
        generalize recM D ix = p at *
        obtain ⟨pq, pe, pb, pok⟩ := p
        have PR : Hid (0 ≤ pq ∧ pq < 4294967296 ∧ 0 ≤ pe ∧ pe < 4294967296 ∧ pb.length ≤ 43) := PR
        have HN : Hid (lvGo D a ar nu sz (i + 1) = if (pok && !(pq != ((i : Nat) : Int) + 1) && !(pe != nu) && !((pb.length : Int) != min 43 (sz - (out.length : Nat)))) = true then some (out ++ pb) else none) := HN
        rw [← HQ.out] at HN
        have H5 := hide (h.sub (L' := rowR 5 1 (.slice A q c) q (bv out) :: intsR .u8 (.slice A2 pb.length c2) pb :: blkR gm 147 #[.int .i64 ar, .int .u32 nu, .int .i64 sz] :: dsR g D :: L) (by (repeat (first | with_reducible exact Sub.refl _ | (with_reducible apply Sub.take; focus (repeat (first | with_reducible exact At.here | with_reducible apply At.there))) | with_reducible apply Sub.drop))))
        have c1 := (H5.out.blk 2 rfl).cell 1
        have c2' := (H5.out.blk 2 rfl).cell 2
        clear h hpe H4
        have v7 : IntKind.i64.wrap pq = pq := IntWalk.i64_in _ (by have := PR.out; omega)
        obtain ⟨t2, ht2⟩ : ∃ t2, (pq != (i : Int) + 1) = t2 := ⟨_, rfl⟩
        obtain ⟨t3, ht3⟩ : ∃ t3, (pe != nu) = t3 := ⟨_, rfl⟩
        rw [ht2, ht3] at HN
        cases pok
        case' true => cases t2
        case' true.true => skip
        case' true.false => cases t3
        case' true.false.true => skip
        case true.false.false =>
          have hpb := PR.out.2.2.2.2
          obtain ⟨pl, hpl⟩ : ∃ pl, pl = pb.length := ⟨_, rfl⟩
          rw [← hpl] at hpb H5 HN ⊢
          have HPL := hide hpl
          clear hpl
          by_cases hm : sz - (q : Int) < 43
          · have dm : decide (sz - (q : Int) < 43) = true := decide_eq_true hm
            rw [Int.min_eq_right (by omega)] at HN
            by_cases he : (pl : Int) = sz - (q : Int)
            · have b1 := isNF he
              rw [b1] at HN
              have HN2 := hide (HN.out.trans (if_pos rfl))
              clear he
              have HSL := hide (H5.out.get 1 rfl).sl.2.2.2
              go_wp2_with (at_builtin; refine St.app_step u8_row H5.out rfl _ _ rfl rfl A2 pl c2 rfl (bv pb) HSL.out (bv_one _) (by omega) (by omega) ?_; intro A' c' w6 h6; have H6 := hide h6; clear h6 H5)
              go_roundg (22 - (i + 1))
              case measure => have := HG.out; omega
              case rel => exact ⟨i + 1, q + pl, _, _, out ++ pb, rfl, by omega, by go_num, rfl, by rw [List.length_append, ← HQ.out, ← HPL.out], by omega, HN2.out, by rw [bv_append]; exact H6.out.sub (by (repeat (first | with_reducible exact Sub.refl _ | (with_reducible apply Sub.take; focus (repeat (first | with_reducible exact At.here | with_reducible apply At.there))) | with_reducible apply Sub.drop)))⟩
            · have b1 := isN he
              rw [b1] at HN
              have HN2 := hide (HN.out.trans (if_neg (by simp)))
              clear he
              have hnn := lvGo_none HN2.out (21 - (i + 1))
              rw [show i + 1 + (21 - (i + 1)) = 21 by omega] at hnn
              have EN := hide (ENone.out (EG.out.trans hnn))
              clear hnn
              have H6 := hide ((H5.out.sub (L' := dsR g D :: L) (by (repeat (first | with_reducible exact Sub.refl _ | (with_reducible apply Sub.take; focus (repeat (first | with_reducible exact At.here | with_reducible apply At.there))) | with_reducible apply Sub.drop)))).pers0 (R := fun w => Ints w .u8 (.slice none 0 0) []) (fun w' _ => Ints.none_ w' .u8))
              go_wp2_with fail
              go_ret2
              rw [EN.out.1, EN.out.2]
              exact ⟨none, 0, rfl, H6.out⟩
          · have dm : decide (sz - (q : Int) < 43) = false := decide_eq_false hm
            have hm2 : 43 ≤ sz - (q : Int) := by omega
            rw [Int.min_eq_left (by omega)] at HN
            by_cases he : (pl : Int) = 43
            · have b1 := isNF he
              rw [b1] at HN
              have HN2 := hide (HN.out.trans (if_pos rfl))
              clear he
              have HSL := hide (H5.out.get 1 rfl).sl.2.2.2
              go_wp2_with (at_builtin; refine St.app_step u8_row H5.out rfl _ _ rfl rfl A2 pl c2 rfl (bv pb) HSL.out (bv_one _) (by omega) (by omega) ?_; intro A' c' w6 h6; have H6 := hide h6; clear h6 H5)
              go_roundg (22 - (i + 1))
              case measure => have := HG.out; omega
              case rel => exact ⟨i + 1, q + pl, _, _, out ++ pb, rfl, by omega, by go_num, rfl, by rw [List.length_append, ← HQ.out, ← HPL.out], by omega, HN2.out, by rw [bv_append]; exact H6.out.sub (by (repeat (first | with_reducible exact Sub.refl _ | (with_reducible apply Sub.take; focus (repeat (first | with_reducible exact At.here | with_reducible apply At.there))) | with_reducible apply Sub.drop)))⟩
            · have b1 := isN he
              rw [b1] at HN
              have HN2 := hide (HN.out.trans (if_neg (by simp)))
              clear he
              have hnn := lvGo_none HN2.out (21 - (i + 1))
              rw [show i + 1 + (21 - (i + 1)) = 21 by omega] at hnn
              have EN := hide (ENone.out (EG.out.trans hnn))
              clear hnn
              have H6 := hide ((H5.out.sub (L' := dsR g D :: L) (by (repeat (first | with_reducible exact Sub.refl _ | (with_reducible apply Sub.take; focus (repeat (first | with_reducible exact At.here | with_reducible apply At.there))) | with_reducible apply Sub.drop)))).pers0 (R := fun w => Ints w .u8 (.slice none 0 0) []) (fun w' _ => Ints.none_ w' .u8))
              go_wp2_with fail
              go_ret2
              rw [EN.out.1, EN.out.2]
              exact ⟨none, 0, rfl, H6.out⟩
        all_goals
          have HN2 := hide (HN.out.trans (if_neg (by simp)))
          have hnn := lvGo_none HN2.out (21 - (i + 1))
          rw [show i + 1 + (21 - (i + 1)) = 21 by omega] at hnn
          have EN := hide (ENone.out (EG.out.trans hnn))
          clear hnn
          have H6 := hide ((H5.out.sub (L' := dsR g D :: L) (by (repeat (first | with_reducible exact Sub.refl _ | (with_reducible apply Sub.take; focus (repeat (first | with_reducible exact At.here | with_reducible apply At.there))) | with_reducible apply Sub.drop)))).pers0 (R := fun w => Ints w .u8 (.slice none 0 0) []) (fun w' _ => Ints.none_ w' .u8))
          go_wp2_with fail
          go_ret2
          rw [EN.out.1, EN.out.2]
          exact ⟨none, 0, rfl, H6.out⟩
      · have hst := lvGo_stop (D := D) (a := a) (ar := ar) (nu := nu) hlt (21 - i)
        rw [show i + (21 - i) = 21 by omega, HGO.out] at hst
        have EV := hide (EG.out.trans hst)
        have d3 : decide ((i : Int) * 43 < sz) = false := decide_eq_false hlt
        clear hlt hst
        have H4 := hide (St.ints (k := .u8) (xs := out) H3.out)
        go_wp2_with fail
        go_ret2
        rw [E1.out, E2.out, EV.out]
        refine ⟨A, c, ?_, ?_⟩
        · rw [HQ.out]; rfl
        · show St M0 _ (intsR .u8 (.slice A out.length c) out :: _)
          rw [← HQ.out]
          exact H4.out.sub (by (repeat (first | with_reducible exact Sub.refl _ | (with_reducible apply Sub.take; focus (repeat (first | with_reducible exact At.here | with_reducible apply At.there))) | with_reducible apply Sub.drop)))
end Go.Proofs.YtpaelngpmbeedaaGreatDoor
/- A range over a function whose rounds may return; slices.Chunk of bytes by 43. -/
namespace Go.Proofs.YtpaelngpmbeedaaGreatDoor
open Go.RowKit Go.Shelf
attribute [local go_sem] Oper.semAt_some

/-- the loop's record, with what is to be done behind it -/
abbrev recJ (fn : FuncId) (tmps : Array Value) (ps : Array Tmp) (assign body : Code) (D : Nat) (st : LoopState) (j : Option Code) : Loop := { state := st, pending := j, fn := fn, tmps := tmps, params := ps, assign := assign, body := body, defers := D }

theorem rangeFunc_st2 {P : Program} {g : Operand} {ps : Array Tmp} {assign body : Code} {Q : Exit → Act → World → Prop} {a : Act} {w : World} {M0 : Imm} {L : List Res} {gf : Nat} {lb : Array Value} {n : Nat}
    (hg : a.eval g = .func (.func gf) #[] lb) (eg : ∀ args w, (callFunc gf args).run P w = .ok (.enter gf args) w) (h : St M0 w L)
    (hit : ∀ (fn : FuncId) (lr D : Nat) (W1 : World) (rc : LoopState → Option Code → Loop), rc = (fun s j => recJ fn a.tmps ps assign body D s j) → St M0 W1 (objR lr (.loop (rc .ready none)) :: objR D (.deferred (some [])) :: L) →
      CallsIn Fence.wide (n - 1) P gf (#[.func (.yield lr) #[] #[]] ++ lb) W1 fun e W2 => (∃ v, e = .returned v) ∧ ∃ L' s j, s ≠ LoopState.busy ∧ St M0 W2 (objR lr (.loop (rc s j)) :: objR D (.deferred (some [])) :: L') ∧
        (∀ W3, St M0 W3 (objR D (.deferred (some [])) :: L') → match j with
          | none => Q .normal { a with defers := { target := .collected D, args := #[] } :: a.defers } W3
          | some c => c.wpIn Fence.wide n P Q { a with defers := { target := .collected D, args := #[] } :: a.defers } W3)) :
    (Code.rangeFunc g ps assign body).wpIn Fence.wide n P Q a w := by
  refine wpIn_rangeFunc ?_
  intro fn _
  have h1 := (h.allocO (.deferred (some []))).allocO (.loop (recJ fn a.tmps ps assign body w.heap.size .ready none))
  rw [World.size_alloc] at h1
  refine ⟨w.heap.size + 1, [{ target := .collected w.heap.size, args := #[] }], (w.alloc (.deferred (some []))).alloc (.loop (recJ fn a.tmps ps assign body w.heap.size .ready none)), { target := .fn (.func gf) lb, args := #[.func (.yield (w.heap.size + 1)) #[] #[]] }, (w.alloc (.deferred (some []))).alloc (.loop (recJ fn a.tmps ps assign body w.heap.size .ready none)), gf,
    #[.func (.yield (w.heap.size + 1)) #[] #[]] ++ lb, (w.alloc (.deferred (some []))).alloc (.loop (recJ fn a.tmps ps assign body w.heap.size .ready none)), ?_, ?_, ?_, ?_, fun hd => ?_, ?_⟩
  · exact run_enterLoop_outer _ _ _ _ _
  · simp only [resolve, hg]
    simp [go_sem]
  · intro f' _
    trivial
  · simp [invoke, go_sem, eg]
  · simp [Fence.wide] at hd
  · refine (hit fn (w.heap.size + 1) w.heap.size _ _ rfl h1).mono ?_
    rintro e W2 ⟨⟨v, rfl⟩, L', s, j, hs, h2, hq⟩
    have hl := h2.obj 0 rfl
    refine ⟨j, _, run_endLoop hl hs, ?_⟩
    cases j with
    | none => exact hq _ (h2.putO _).tail
    | some c => exact hq _ (h2.putO _).tail

/-- a round that goes on, or returns -/
theorem yield_st3 {P : Program} {lr D : Nat} {fn : FuncId} {tmps args : Array Value} {ps : Array Tmp} {assign body : Code} {M0 : Imm} {W : World} {L : List Res} {n : Nat} {rc : LoopState → Option Code → Loop} (hrc : rc = fun s j => recJ fn tmps ps assign body D s j) (L' : List Res) (Z : List Res → Prop) (a₁ : Act)
    (h : St M0 W (objR lr (.loop (rc .ready none)) :: L)) (hs : args.size = ps.size)
    (hassign : ∀ (W1 : World) (K : Act → World → Prop), K a₁ W1 → assign.wpIn (Fence.wide.inRound lr) n P (Exit.then K (fun _ _ _ => False)) { tmps := (ps.zip args).foldl (fun t (p, v) => t.setIfInBounds p v) tmps, defers := [] } W1)
    (hbody : ∀ W1, St M0 W1 (objR lr (.loop (rc .busy none)) :: L) → body.wpIn (Fence.wide.inRound lr) n P (fun e _ W2 => (e = .normal ∧ St M0 W2 (objR lr (.loop (rc .busy none)) :: L')) ∨ (e = .ret ∧ ∃ U, Z U ∧ St M0 W2 (objR lr (.loop (rc .busy none)) :: U))) a₁ W1) :
    YieldAt Fence.wide n P lr args W fun e W2 => (e = .returned (.bool true) ∧ St M0 W2 (objR lr (.loop (rc .ready none)) :: L')) ∨ (e = .returned (.bool false) ∧ ∃ U, Z U ∧ St M0 W2 (objR lr (.loop (rc .done (some .ret))) :: U)) := by
  subst hrc
  have hl := h.obj 0 rfl
  refine ⟨fn, _, assign, body, run_yield hl hs, roundIn_of_wpIn trivial (hassign W _ ⟨_, run_beginRound hl rfl, ?_⟩)⟩
  refine wpIn_mono (hbody _ (h.putO _)) ?_
  rintro e a3 W3 (⟨rfl, h3⟩ | ⟨rfl, U, hz, h3⟩)
  · have hl3 := h3.obj 0 rfl
    exact ⟨_, _, run_endRound none hl3, .inl ⟨rfl, h3.putO _⟩⟩
  · have hl3 := h3.obj 0 rfl
    exact ⟨_, _, run_endRound (some .ret) hl3, .inr ⟨rfl, U, hz, h3.putO _⟩⟩
theorem Ints.part {w : World} {k : IntKind} {A : Option Addr} {n c m p : Nat} {xs : List Int} (h : Ints w k (.slice A n c) xs) (hm : m + p ≤ n) (hp : 0 < p) : Ints w k (.slice (A.map (·.add m)) p p) ((xs.drop m).take p) := by
  obtain ⟨h0, h1, h2, h3⟩ := h.sl
  have h4 := h.drop (m := m) (by omega) (A.map (·.add m)) (fun _ => rfl)
  have h5 := h4.cut (m := p) (by omega)
  obtain ⟨e1, _, _, h6⟩ := h5.sl
  refine ⟨_, p, by rw [← e1], by rw [← e1]; exact Nat.le_refl _, by unfold maxLen; omega, by rw [← e1]; exact h6⟩

set_option maxHeartbeats 2000000 in
set_option maxRecDepth 100000 in
theorem bclo_st {M0 : Imm} (b : List Int) (A : Option Addr) (n c bs bn lr m : Nat) (T : Nat → List Res) (Z : List Res → Prop) (w : World) (hn : n ≤ 1000)
    (hY : ∀ (j : Nat) (W : World) (A' : Option Addr) (p : Nat), 43 * j < n → p = min 43 (n - 43 * j) → St M0 W (intsR .u8 (.slice A' p p) ((b.drop (43 * j)).take 43) :: blkR bs 34 #[.slice A n c] :: blkR bn 3 #[.int .i64 43] :: intsR .u8 (.slice A n c) b :: T j) →
      YieldAt Fence.wide (m - 1) Tryz.prog lr #[.slice A' p p] W fun e W' => (e = .returned (.bool true) ∧ St M0 W' (blkR bs 34 #[.slice A n c] :: blkR bn 3 #[.int .i64 43] :: intsR .u8 (.slice A n c) b :: T (j + 1))) ∨ (e = .returned (.bool false) ∧ ∃ U, Z U ∧ St M0 W' U))
    (h : St M0 w (blkR bs 34 #[.slice A n c] :: blkR bn 3 #[.int .i64 43] :: intsR .u8 (.slice A n c) b :: T 0)) :
    CallsIn Fence.wide m Tryz.prog 103 #[.func (.yield lr) #[] #[], .pointer (some ⟨bs, 0, none⟩), .pointer (some ⟨bn, 0, none⟩)] w fun e w' => (∃ v, e = .returned v) ∧ (St M0 w' (blkR bs 34 #[.slice A n c] :: blkR bn 3 #[.int .i64 43] :: intsR .u8 (.slice A n c) b :: T ((n + 42) / 43)) ∨ ∃ U, Z U ∧ St M0 w' U) := by
  obtain ⟨hnb, hnc, hcm, _⟩ := (h.get 2 rfl).sl
  have HN := hide hnb
  have HY := hide hY
  have H := hide h
  clear h hY hnb
  refine callsIn_of_wp Tryz.func103 rfl trivial ?_ rfl
  simp only [Tryz.ntmps103, List.size_toArray, List.length_cons, List.length_nil, Nat.reduceAdd, Nat.reduceSub, Array.replicate_succ, Array.replicate_zero, List.push_toArray, List.append_toArray, List.nil_append, List.cons_append]
  gi_wp2_with fail
  gi_loopw [4] (fun i wr => ∃ j k : Nat, k = 43 * j ∧ k < n + 43 ∧ i = .int .i64 (k : Nat) ∧ St M0 wr (blkR bs 34 #[.slice A n c] :: blkR bn 3 #[.int .i64 43] :: intsR .u8 (.slice A n c) b :: T j)) (fun i _ => n - (intOf i).toNat)
  case atStart => exact ⟨0, 0, rfl, by omega, rfl, H.out⟩
  case round =>
    obtain ⟨j, k, hk, hj, rfl, h⟩ := hrel
    have y0 := (h.blk 0 rfl).cell 0
    have y1 := (h.blk 1 rfl).cell 0
    have HYj := hide (fun W A' p => HY.out j W A' p)
    clear H
    have H := hide h
    clear h
    rw [← hk] at HYj
    have HK := hide hk
    clear hk
    by_cases hlt : k < n
    · gi_wp2_with fail
      refine wpIn_wide.2 ?_
      have i0 : (0 : Int) ≤ (k : Int) := by omega
      have i1 : (k : Int) ≤ (n : Int) := by omega
      have i2 : (n : Int) ≤ (c : Int) := by omega
      refine region_mix (fun W => W.cell? ⟨bs, 0, none⟩ = some (.slice A n c) ∧ W.cell? ⟨bn, 0, none⟩ = some (.int .i64 43)) 7 [0, 1, 2, 3, 4, 5, 6] [] (by kernel_rfl) (by kernel_rfl) (fun d => by cases d <;> exact fun _ _ _ _ h => h) (fun W hW => ?_)
      have hS := hide (show St M0 W (blkR bs 34 #[.slice A n c] :: blkR bn 3 #[.int .i64 43] :: intsR .u8 (.slice A n c) b :: T j) by
        rw [hW]
        exact H.out.drew)
      clear hW H y0 y1
      refine ⟨⟨(hS.out.blk 0 rfl).cell 0, (hS.out.blk 1 rfl).cell 0⟩, ?_⟩
      iterate 7 (refine take_run rfl rfl (fun W hW => by (rcases hW with ⟨_, _⟩; go_simp; try rfl)) ?_; simp only [Act.put, List.setIfInBounds_toArray, List.set_cons_succ, List.set_cons_zero])
      refine take_nil (seq_nil ?_)
      obtain ⟨p, hp⟩ : ∃ p, p = min 43 (n - k) := ⟨_, rfl⟩
      rw [show (if ((n - k : Nat) : Int) < 43 then ((n - k : Nat) : Int) else 43) = (p : Int) by split <;> omega]
      have y0 := (hS.out.blk 0 rfl).cell 0
      have y1 := (hS.out.blk 1 rfl).cell 0
      have p1 : 0 < p := by omega
      have p2 : (k : Int) + (p : Int) ≤ (c : Int) := by omega
      have p3 : (k : Int) ≤ (k : Int) + (p : Int) := by omega
      have p4 : (0 : Int) ≤ (k : Int) + (p : Int) := by omega
      have hkn : k + 43 < 2000 := by omega
      have hpp : p ≤ 43 := by omega
      obtain ⟨fn, tm, asg, bd, hy, hR⟩ := HYj.out W (A.map (·.add k)) p hlt hp (by
        have h1 := (hS.out.copy 2 rfl).pers1 (R' := fun w => Ints w .u8 (.slice (A.map (·.add k)) p p) ((b.drop k).take p)) (fun w' hi => hi.part (by omega) p1)
        rwa [show (b.drop k).take p = (b.drop k).take 43 by
          have := HN.out
          rcases Nat.le_total 43 (n - k) with h4 | h4
          · rw [show p = 43 by omega]
          · rw [List.take_of_length_le (by rw [List.length_drop]; omega), List.take_of_length_le (by rw [List.length_drop]; omega)]] at h1)
      clear hp hj
      gi_wp2_with fail
      refine ⟨fun hd => by simp [Fence.wide] at hd, hR.mono ?_⟩
      rintro e W3 (⟨rfl, h3⟩ | ⟨rfl, U, hz, h3⟩)
      · have y0 := (h3.blk 0 rfl).cell 0
        have y1 := (h3.blk 1 rfl).cell 0
        have H3 := hide h3
        clear h3 hR hS hy
        gi_wp2_with fail
        go_roundw
        case rel => exact ⟨j + 1, k + 43, by have := HK.out; omega, by omega, by go_num, H3.out⟩
        case measure => simp [intOf]; omega
      · have H3 := hide h3
        have HZ := hide hz
        clear h3 hR hS hy hz
        gi_wp2_with fail
        ((try simp only [Exit.inBlock, Exit.then]); refine bodyPost_ret (results_none rfl _ _ _) rfl ?_)
        exact ⟨⟨_, rfl⟩, .inr ⟨U, HZ.out, H3.out⟩⟩
    · gi_wp2_with fail
      go_end0
      refine ⟨⟨_, rfl⟩, .inl ?_⟩
      rw [show (n + 42) / 43 = j by have := HK.out; omega]
      exact H.out
theorem bchunk_st {M0 : Imm} {L : List Res} (A : Option Addr) (n c : Nat) (w : World) (h : St M0 w L) :
    Calls Tryz.prog 80 #[.slice A n c, .int .i64 43] w fun e w' => ∃ bs bn, e = .returned (.func (.func 103) #[] #[.pointer (some ⟨bs, 0, none⟩), .pointer (some ⟨bn, 0, none⟩)]) ∧ St M0 w' (blkR bs 34 #[.slice A n c] :: blkR bn 3 #[.int .i64 43] :: L) := by
  have H := hide ((h.alloc 34 #[.slice A n c]).alloc 3 #[.int .i64 43])
  clear h
  go_enter Tryz.func80, Tryz.ntmps80
  go_wp2_with fail
  go_ret
  exact ⟨_, _, rfl, by have h := H.out.swap; rwa [World.size_alloc] at h⟩
end Go.Proofs.YtpaelngpmbeedaaGreatDoor
