/- History: explain. Printed by gen_hix.py. -/
import Derived.Test.YtbgknfdaaffeaaaHiD
import Derived.WalkMore
namespace Go.Proofs.Ytbgknfdaaffeaaa
open Go.RowKit Go.Shelf

def FourCR (w : World) (cs : List Value) (b : BlH) : Prop := ∃ s : Nat → SV, cs = [.slice (s 0).a (s 0).n (s 0).c, .slice (s 1).a (s 1).n (s 1).c, .slice (s 2).a (s 2).n (s 2).c, .slice (s 3).a (s 3).n (s 3).c] ∧ ∀ j, j < 4 → Ints w .u8 (.slice (s j).a (s j).n (s j).c) (b j)
theorem four_elem : ElemOf Try.prog 203 142 (.agg #[.slice none 0 0, .slice none 0 0, .slice none 0 0, .slice none 0 0]) 4 96 := ⟨Try.underlying203, by kernel_rfl, by kernel_rfl, by omega⟩
theorem inti_row : ElemOf Try.prog 25 3 (.int .i64 0) 1 8 := ⟨Try.underlying25, by kernel_rfl, by kernel_rfl, by omega⟩
theorem four_build (w : World) (s : Nat → SV) : (Instr.buildSlice 203 1 #[(0, fourV s)]).run Try.prog w = .ok (.slice (some ⟨w.heap.size, 0, none⟩) 1 1) (w.alloc (.cells (fourC s) 142)) := by kernel_rfl
theorem four_one (s : Nat → SV) : ∀ u ∈ [Value.slice (s 0).a (s 0).n (s 0).c, .slice (s 1).a (s 1).n (s 1).c, .slice (s 2).a (s 2).n (s 2).c, .slice (s 3).a (s 3).n (s 3).c], u.oneCell' = true := by
  intro u hu
  simp only [List.mem_cons, List.not_mem_nil, or_false] at hu
  rcases hu with rfl | rfl | rfl | rfl <;> rfl
/-- the rest of a slice -/
theorem St.rowsTail {α : Type} {M0 : Imm} {w : World} {L R : List Res} {size : Nat} {Q : World → List Value → α → Prop} {A A' : Option Addr} {n c : Nat} {x : α} {r : List α} (h : St M0 w L) (hi : At (rowsR size Q (.slice A n c) (x :: r)) L R) (hA : ∀ ad, A = some ad → c ≠ 1 → A' = some (ad.add size)) : St M0 w (rowsR size Q (.slice A' (n - 1) (c - 1)) r :: L) := by
  have h1 := h.rowsCopy hi
  obtain ⟨css, h2⟩ := h1.openRows
  refine St.addEx (f := fun css => persR (fun w => RowsC w size Q (.slice A' (n - 1) (c - 1)) css r)) (fun i => css (i + 1)) (h2.pers1 (fun w' hw => ?_))
  obtain ⟨A2, c2, e, h3, h4, h5⟩ := hw
  injection e with e1 e2 e3
  subst e1; subst e2; subst e3
  refine ⟨A', c - 1, by simp, by simp at h3; omega, by omega, fun i y hy => ?_⟩
  obtain ⟨ad, hAd, h6, h7, h8⟩ := h5 (i + 1) y (by simpa using hy)
  have hlt := (List.getElem?_eq_some_iff.1 hy).1
  have hc1 : c ≠ 1 := by simp at h3; omega
  refine ⟨ad.add size, hA ad hAd hc1, h6, fun j u hu => ?_, h8⟩
  have := h7 j u hu
  rw [addr_add] at this ⊢
  rw [addr_add]
  rwa [show size + (i * size + j) = (i + 1) * size + j by rw [Nat.add_mul, Nat.one_mul]; omega]
/-- an element of a slice that still grows -/
theorem St.elemG {α : Type} {M0 : Imm} {w : World} {L : List Res} {e : TypeId} {size : Nat} {R : World → List Value → α → Prop} {A : Option Addr} {n c : Nat} {xs : List α} (h : St M0 w (growR e size R (.slice A n c) xs :: L)) (hs : 0 < size) {k : Nat} {x : α} (hk : xs[k]? = some x) :
    ∃ ad cs, A = some ad ∧ cs.length = size ∧ (∀ j u, cs[j]? = some u → w.cell? ((ad.add (k * size)).add j) = some u) ∧ R w cs x ∧ n = xs.length ∧ St M0 w (persR (fun w' => R w' cs x) :: growR e size R (.slice A n c) xs :: L) := by
  obtain ⟨vs, hn, hl, h1⟩ := h.openGrowS
  have hlt := (List.getElem?_eq_some_iff.1 hk).1
  have hle : (k + 1) * size ≤ n * size := Nat.mul_le_mul_right _ (by omega)
  rw [Nat.add_mul, Nat.one_mul] at hle
  have hsl := h1.sl
  have hr := h1.get 1 rfl k x hk
  obtain ⟨ad, hA, _, _, hc⟩ := hsl.2 (by omega)
  refine ⟨ad, (vs.drop (k * size)).take size, hA, by rw [List.length_take, List.length_drop]; omega, fun j u hu => ?_, hr, hn, ?_⟩
  · rw [addr_add]
    refine hc (k * size + j) u ?_
    rw [List.getElem?_take] at hu
    split at hu
    · rwa [List.getElem?_drop] at hu
    · cases hu
  · have h2 := (h1.copy 1 rfl).pers1 (R' := fun w' => R w' ((vs.drop (k * size)).take size) x) (fun w' hr => hr k x hk)
    have h3 := h2.dn2
    subst hn
    exact (St.addEx (f := fun vs => starR (rowR e size (.slice A xs.length c) xs.length vs) (persR (fun w => ∀ (i : Nat) x, xs[i]? = some x → R w ((vs.drop (i * size)).take size) x))) vs h3.addStar).swap
def keptE (o : Option (List Nat)) : List Int := (o.getD []).map Int.ofNat
theorem sl_blkM {w : World} {b : Nat} {t : TypeId} {cs : List Value} (h : Blk w b t cs.toArray) : Sl w Any cs.length (some ⟨b, 0, none⟩) 1 cs :=
  ⟨by simp, fun _ => ⟨_, rfl, trivial, h.lt, fun j u hu => by
    rw [show (⟨b, 0, none⟩ : Addr).add j = ⟨b, j, none⟩ by simp [Addr.add]; exact Eq.symm, h.cell]
    simpa using hu⟩⟩
theorem Ints.slice3 {w : World} {k : IntKind} {v : Value} {xs : List Int} (h : Ints w k v xs) : ∃ A c, v = .slice A xs.length c ∧ xs.length ≤ c := by
  obtain ⟨A, c, e, h1, _⟩ := h
  exact ⟨A, c, e, h1⟩
theorem explB_length (l : List SecH) (b : BlH) (ks : List Nat) (h : explB l b = some ks) : ks.length = l.length := by
  obtain ⟨w, _, rfl, _⟩ := (explB_spec l b).1 ks h
  exact wayB_length l w
/-- the first one that is one -/
theorem firstB_hit {α : Type} {f : Nat → Option α} {n k : Nat} {x : α} (hk : k < n) (h : ∀ q, q < k → (f q) = none) (hx : f k = some x) : firstB f n 0 = some x := by
  rw [firstB_skip (Nat.le_of_lt hk) h, show n - k = (n - k - 1) + 1 by omega]
  show (f k).or _ = _
  rw [hx]
  rfl
structure SecFit (x : SecX) : Prop where
  ok : SecOk x.s
  s0 : 0 ≤ x.s.s
  s1 : x.s.s ≤ (x.s.p.length : Int)
def ExplOk (M0 : Imm) (l : List SecX) : Prop := ∀ (L : List Res) (A : Option Addr) (n c : Nat) (s : Nat → SV) (b : BlH) (w : World), Byt4 b → St M0 w (rowsR 4 SecXR (.slice A n c) l :: fourR s b :: L) →
    Calls Try.prog 72 #[.slice A n c, fourV s] w fun e w' => ∃ v, e = .returned (.tuple #[v, .bool (explB (l.map SecX.s) b).isSome]) ∧ St M0 w' (intsR .i64 v (keptE (explB (l.map SecX.s) b)) :: L)
set_option maxHeartbeats 1000000 in
set_option maxRecDepth 100000 in
theorem expl_nil (M0 : Imm) : ExplOk M0 [] := by
  intro L A n c s b w _ h
  obtain ⟨A', c', e, hc, hm⟩ := (h.getRows 0 rfl).slice
  injection e with e1 e2 e3
  subst e1; subst e3
  have hn0 : n = 0 := e2
  subst hn0
  have H := hide ((h.alloc 142 (fourC s)).sub (L' := L) (by (repeat (first | with_reducible exact Sub.refl _ | (with_reducible apply Sub.take; focus (repeat (first | with_reducible exact At.here | with_reducible apply At.there))) | with_reducible apply Sub.drop))))
  clear h e2 hc
  go_enter Try.func72, Try.ntmps72
  go_wp2_with fail
  go_step3
  go_wp2_with fail
  rw [Exit.noGoto_ret]
  go_ret2
  exact ⟨_, rfl, H.out.pers0 (fun w' _ => Ints.none_ w' _)⟩
theorem add0 (ad : Addr) : ad.add (0 * 4) = ad := rfl
set_option maxHeartbeats 8000000 in
set_option maxRecDepth 100000 in
theorem expl_cons (M0 : Imm) (x : SecX) (r : List SecX) (hrl : r.length ≤ 99) (hfit : SecFit x) (ih : ExplOk M0 r) : ExplOk M0 (x :: r) := by
  intro L A n c s b w hb h
  obtain ⟨A', c', e, hc, hm⟩ := (h.getRows 0 rfl).slice
  injection e with e1 e2 e3
  subst e1; subst e3
  have hn1 : n = r.length + 1 := e2
  have hnc : n ≤ c := by rw [e2]; exact hc
  have HE := hide (show explB ((x :: r).map SecX.s) b = if bearsB x.s b then firstB (fun q => (explB (r.map SecX.s) (behB b (x.s.p.take (x.s.p.length - q)))).map ((x.s.p.length - q) :: ·)) x.s.ways 0 else none from rfl)
  have HF := hide hfit
  have HBY := hide hb
  have HIH := hide ih
  obtain ⟨ad, cs, rfl, _, hcs, ⟨rfl, _, _⟩, h1⟩ := h.elem 0 rfl (k := 0) (x := x) rfl
  rw [add0] at hcs h1
  have hQP := (h1.copy 0 rfl).pers1 (R' := fun w => RowsC w 2 PutHR (.slice x.pA x.s.p.length x.pc) x.pcs x.s.p) (fun w' hw => hw.2.2.1)
  have h2 : St M0 w (rowsR 2 PutHR (.slice x.pA x.s.p.length x.pc) x.s.p :: _) := St.addEx (f := fun css => persR (fun w => RowsC w 2 PutHR (.slice x.pA x.s.p.length x.pc) css x.s.p)) _ hQP
  have hQK := (h2.copy 1 rfl).pers1 (R' := fun w => RowsC w 3 LookHR (.slice x.kA x.s.k.length x.kc) x.kcs x.s.k) (fun w' hw => hw.2.2.2)
  have h3 : St M0 w (rowsR 3 LookHR (.slice x.kA x.s.k.length x.kc) x.s.k :: _) := St.addEx (f := fun css => persR (fun w => RowsC w 3 LookHR (.slice x.kA x.s.k.length x.kc) css x.s.k)) _ hQK
  have h4 := h3.alloc 142 (fourC s)
  obtain ⟨f0, f1, f2, f3⟩ := cells4 (h4.getA (At.there (At.there (At.there At.here)))).1
  generalize hgb : w.heap.size = gb at h4
  have h5 := h4.alloc 37 #[.int .u64 x.s.t, .slice x.pA x.s.p.length x.pc, .int .i64 x.s.s, .slice x.kA x.s.k.length x.kc]
  rw [World.size_alloc, hgb] at h5
  generalize hgs : gb + 1 = gs at h5
  have H5 := hide (h5.sub (L' := blkR gs 37 #[.int .u64 x.s.t, .slice x.pA x.s.p.length x.pc, .int .i64 x.s.s, .slice x.kA x.s.k.length x.kc] :: blkR gb 142 (fourC s) :: rowsR 2 PutHR (.slice x.pA x.s.p.length x.pc) x.s.p :: rowsR 3 LookHR (.slice x.kA x.s.k.length x.kc) x.s.k :: rowsR 4 SecXR (.slice (some ad) n c) (x :: r) :: fourR s b :: L) (by (repeat (first | with_reducible exact Sub.refl _ | (with_reducible apply Sub.take; focus (repeat (first | with_reducible exact At.here | with_reducible apply At.there))) | with_reducible apply Sub.drop))))
  have q0 := (h5.blk 0 rfl).cell 0
  have q1 := (h5.blk 0 rfl).cell 1
  have q2 := (h5.blk 0 rfl).cell 2
  have q3 := (h5.blk 0 rfl).cell 3
  have b0 := (h5.blk 1 rfl).cell 0
  have b1 := (h5.blk 1 rfl).cell 1
  have b2 := (h5.blk 1 rfl).cell 2
  have b3 := (h5.blk 1 rfl).cell 3
  have n1 : (0 : Int) < (n : Int) := by omega
  have n2 : ((n : Int) == 0) = false := isF (by omega)
  have HN1 := hide hn1
  clear hn1 h1 h2 h3 h4 h5 hQP hQK h hcs hc e2 hm hb ih hfit
  go_enter Try.func72, Try.ntmps72
  go_wp2_with fail
  go_step3
  go_wp2_with fail
  have h6 := ((H5.out.rowsCopy (size := 2) (Q := PutHR) (v := .slice x.pA x.s.p.length x.pc) (xs := x.s.p) (by (repeat (first | with_reducible exact At.here | with_reducible apply At.there)))).rowsCopy (size := 3) (Q := LookHR) (v := .slice x.kA x.s.k.length x.kc) (xs := x.s.k) (by (repeat (first | with_reducible exact At.here | with_reducible apply At.there)))).fourCopy (s := s) (b := b) (by (repeat (first | with_reducible exact At.here | with_reducible apply At.there)))
  refine (bears_st x s b _ HF.out.ok HBY.out (h6.sub (L' := fourR s b :: rowsR 2 PutHR (.slice x.pA x.s.p.length x.pc) x.s.p :: rowsR 3 LookHR (.slice x.kA x.s.k.length x.kc) x.s.k :: blkR gs 37 #[.int .u64 x.s.t, .slice x.pA x.s.p.length x.pc, .int .i64 x.s.s, .slice x.kA x.s.k.length x.kc] :: blkR gb 142 (fourC s) :: rowsR 2 PutHR (.slice x.pA x.s.p.length x.pc) x.s.p :: rowsR 3 LookHR (.slice x.kA x.s.k.length x.kc) x.s.k :: rowsR 4 SecXR (.slice (some ad) n c) (x :: r) :: fourR s b :: L) (by (repeat (first | with_reducible exact Sub.refl _ | (with_reducible apply Sub.take; focus (repeat (first | with_reducible exact At.here | with_reducible apply At.there))) | with_reducible apply Sub.drop))))).mono ?_
  rintro e w2 ⟨rfl, h⟩
  have H6 := hide h
  clear h h6 H5 q0 q1 q2 q3 b0 b1 b2 b3 f0 f1 f2 f3 n1 n2
  cases hbr : bearsB x.s b with
  | false =>
    have E := hide (show explB ((x :: r).map SecX.s) b = none by rw [HE.out, hbr]; rfl)
    clear hbr
    go_wp2_with fail
    try rw [Exit.noGoto_ret]
    go_ret2
    exact ⟨_, by rw [E.out]; try rfl, by rw [E.out]; exact (H6.out.sub (L' := L) (by (repeat (first | with_reducible exact Sub.refl _ | (with_reducible apply Sub.take; focus (repeat (first | with_reducible exact At.here | with_reducible apply At.there))) | with_reducible apply Sub.drop)))).pers0 (fun w' _ => Ints.none_ w' _)⟩
  | true =>
    have HE2 := hide (show explB ((x :: r).map SecX.s) b = firstB (fun q => (explB (r.map SecX.s) (behB b (x.s.p.take (x.s.p.length - q)))).map ((x.s.p.length - q) :: ·)) x.s.ways 0 by rw [HE.out, hbr]; rfl)
    clear hbr HE
    have q1 := (H6.out.blk 0 rfl).cell 1
    have q2 := (H6.out.blk 0 rfl).cell 2
    have H7 := hide (H6.out.nilGrow 142 4 FourCR)
    clear H6
    obtain ⟨pl, hpl⟩ : ∃ pl, pl = x.s.p.length := ⟨_, rfl⟩
    obtain ⟨wy, hwy⟩ : ∃ wy, wy = x.s.ways := ⟨_, rfl⟩
    have hwy2 : (wy : Int) = (pl : Int) - x.s.s + 1 := by
      have := HF.out.s0
      have := HF.out.s1
      rw [hwy, hpl]
      unfold SecH.ways
      omega
    have hpl1 : pl ≤ 100 := by rw [hpl]; exact HF.out.ok.pl
    have hs0 : 0 ≤ x.s.s := HF.out.s0
    rw [← hpl] at q1 H7 HE2 ⊢
    rw [← hwy] at HE2
    have HPL := hide hpl
    have HW := hide hwy
    clear hpl hwy
    go_wp2_with fail
    go_step3
    go_wp2_with fail
    clear q1 q2
    go_loopg [7, 8] wy (fun gh tv nv wr => ∃ (k : Nat) (C : Option Addr) (q ce : Nat) (ts : List BlH) (z : Int), gh = wy - k ∧ k ≤ wy ∧ tv = .slice C q ce ∧ nv = .int .i64 z ∧ z = (pl : Int) - k ∧ q = ts.length ∧ q ≤ k ∧ (∀ t ∈ ts, Byt4 t ∧ explB (r.map SecX.s) t = none) ∧ (∀ p, p < k → explB (r.map SecX.s) (behB b (x.s.p.take (pl - p))) = none) ∧ St M0 wr (growR 142 4 FourCR (.slice C q ce) ts :: blkR gs 37 #[.int .u64 x.s.t, .slice x.pA pl x.pc, .int .i64 x.s.s, .slice x.kA x.s.k.length x.kc] :: blkR gb 142 (fourC s) :: rowsR 2 PutHR (.slice x.pA pl x.pc) x.s.p :: rowsR 3 LookHR (.slice x.kA x.s.k.length x.kc) x.s.k :: rowsR 4 SecXR (.slice (some ad) n c) (x :: r) :: fourR s b :: L))
    case atStart => exact ⟨0, none, 0, 0, [], (pl : Int), rfl, by omega, rfl, rfl, by omega, rfl, by omega, fun t ht => by simp at ht, fun p hp => by omega, H7.out⟩
    case round =>
      clear H7
      obtain ⟨k, C, q, ce, ts, z, hg, hk, rfl, rfl, hz, hq, hqk, hts, hno, h⟩ := hrel
      have HG := hide hg
      have HQ := hide hq
      have HTS := hide hts
      have HNO := hide hno
      clear hg hq hts hno
      have q1 := (h.blk 1 rfl).cell 1
      have q2 := (h.blk 1 rfl).cell 2
      have b0 := (h.blk 2 rfl).cell 0
      have b1 := (h.blk 2 rfl).cell 1
      have b2 := (h.blk 2 rfl).cell 2
      have b3 := (h.blk 2 rfl).cell 3
      by_cases hge : x.s.s ≤ z
      · obtain ⟨m, rfl⟩ := Int.eq_ofNat_of_zero_le (by omega : 0 ≤ z)
        have hmp : m ≤ pl := by omega
        have hmk : m = pl - k := by omega
        have hkw : k < wy := by omega
        have d1 : decide (x.s.s ≤ (m : Int)) = true := decide_eq_true hge
        have d1' : decide ((m : Int) ≥ x.s.s) = true := d1
        have HZ := hide hz
        have HMK := hide hmk
        have H8 := hide h
        clear h hz hmk hge
        go_wp2_with fail
        have h9 := (H8.out.rowsCopy (size := 2) (Q := PutHR) (v := .slice x.pA pl x.pc) (xs := x.s.p) (by (repeat (first | with_reducible exact At.here | with_reducible apply At.there)))).fourCopy (s := s) (b := b) (by (repeat (first | with_reducible exact At.here | with_reducible apply At.there)))
        refine (behind_st s b x.s.p x.pA pl x.pc m _ hmp (h9.sub (L' := fourR s b :: rowsR 2 PutHR (.slice x.pA pl x.pc) x.s.p :: growR 142 4 FourCR (.slice C q ce) ts :: blkR gs 37 #[.int .u64 x.s.t, .slice x.pA pl x.pc, .int .i64 x.s.s, .slice x.kA x.s.k.length x.kc] :: blkR gb 142 (fourC s) :: rowsR 2 PutHR (.slice x.pA pl x.pc) x.s.p :: rowsR 3 LookHR (.slice x.kA x.s.k.length x.kc) x.s.k :: rowsR 4 SecXR (.slice (some ad) n c) (x :: r) :: fourR s b :: L) (by (repeat (first | with_reducible exact Sub.refl _ | (with_reducible apply Sub.take; focus (repeat (first | with_reducible exact At.here | with_reducible apply At.there))) | with_reducible apply Sub.drop))))).mono ?_
        rintro e w3 ⟨u, rfl, h3⟩
        have h10 := h3.alloc 142 (fourC u)
        generalize hgn : w3.heap.size = gn at h10
        obtain ⟨nb, hnb⟩ : ∃ nb, nb = behB b (x.s.p.take m) := ⟨_, rfl⟩
        rw [← hnb] at h10
        have HYN := hide (show Byt4 nb by rw [hnb]; exact HBY.out.beh (fun y hy => HF.out.ok.p y (List.mem_of_mem_take hy)))
        have HNB := hide hnb
        have HA := hide h10
        have n0 := (h10.blk 0 rfl).cell 0
        have n1 := (h10.blk 0 rfl).cell 1
        have n2 := (h10.blk 0 rfl).cell 2
        have n3 := (h10.blk 0 rfl).cell 3
        clear h9 h3 h10 H8 q1 q2 b0 b1 b2 b3 hnb
        go_wp2_with fail
        clear n0 n1 n2 n3
        go_loopg [40] q (fun gh jv wr => ∃ (j : Nat), gh = q - j ∧ j ≤ q ∧ jv = .int .i64 (j : Nat) ∧ St M0 wr (blkR gn 142 (fourC u) :: fourR u nb :: growR 142 4 FourCR (.slice C q ce) ts :: blkR gs 37 #[.int .u64 x.s.t, .slice x.pA pl x.pc, .int .i64 x.s.s, .slice x.kA x.s.k.length x.kc] :: blkR gb 142 (fourC s) :: rowsR 2 PutHR (.slice x.pA pl x.pc) x.s.p :: rowsR 3 LookHR (.slice x.kA x.s.k.length x.kc) x.s.k :: rowsR 4 SecXR (.slice (some ad) n c) (x :: r) :: fourR s b :: L))
        case atStart => exact ⟨0, rfl, by omega, rfl, HA.out⟩
        case round =>
          clear HA
          obtain ⟨j, hgj, hjq, rfl, h⟩ := hrel
          have HGJ := hide hgj
          clear hgj
          by_cases hlj : j < q
          · have hxj := List.getElem?_eq_getElem (l := ts) (i := j) (by rw [← HQ.out]; exact hlj)
            generalize ts[j]'(by rw [← HQ.out]; exact hlj) = t at hxj
            have htm := HTS.out t (List.mem_of_getElem? hxj)
            obtain ⟨ad2, cs2, rfl, _, hcs2, ⟨v, rfl, hv⟩, hql, h1⟩ := (h.front (X := growR 142 4 FourCR (.slice C q ce) ts) (by (repeat (first | with_reducible exact At.here | with_reducible apply At.there)))).elemG (by omega) hxj
            obtain ⟨f0, f1, f2, f3⟩ := cells4 hcs2
            have h2 := (h1.pers1 (R' := fun w' => ∀ j, j < 4 → Ints w' .u8 (.slice (v j).a (v j).n (v j).c) (t j)) (fun w' hw => by
              obtain ⟨v', hv', hi⟩ := hw
              simp only [List.cons.injEq, Value.slice.injEq, and_true] at hv'
              obtain ⟨⟨a0, a1, a2⟩, ⟨c0, c1, c2⟩, ⟨g0, g1, g2⟩, ⟨k0, k1, k2⟩⟩ := hv'
              intro i hi4
              have := hi i hi4
              rcases lt4 hi4 with rfl | rfl | rfl | rfl
              · rw [a0, a1, a2]; exact this
              · rw [c0, c1, c2]; exact this
              · rw [g0, g1, g2]; exact this
              · rw [k0, k1, k2]; exact this)).alloc 142 (fourC v)
            have HT := hide htm
            have i0 : (0 : Int) ≤ (j : Int) := by omega
            have i1 : (j : Int) < (q : Int) := by omega
            have n0 := (h2.blkA (g := gn) (t := 142) (cs := fourC u) (by (repeat (first | with_reducible exact At.here | with_reducible apply At.there)))).cell 0
            have n1 := (h2.blkA (g := gn) (t := 142) (cs := fourC u) (by (repeat (first | with_reducible exact At.here | with_reducible apply At.there)))).cell 1
            have n2 := (h2.blkA (g := gn) (t := 142) (cs := fourC u) (by (repeat (first | with_reducible exact At.here | with_reducible apply At.there)))).cell 2
            have n3 := (h2.blkA (g := gn) (t := 142) (cs := fourC u) (by (repeat (first | with_reducible exact At.here | with_reducible apply At.there)))).cell 3
            have H2 := hide h2
            clear hxj htm hcs2 hv hql h1 h2 h
            go_wp2_with fail
            refine (sameB_st v u t nb _ HT.out.1 HYN.out ((H2.out.fourCopy (s := u) (b := nb) (by (repeat (first | with_reducible exact At.here | with_reducible apply At.there)))).sub (L' := fourR v t :: fourR u nb :: blkR gn 142 (fourC u) :: fourR u nb :: growR 142 4 FourCR (.slice (some ad2) q ce) ts :: blkR gs 37 #[.int .u64 x.s.t, .slice x.pA pl x.pc, .int .i64 x.s.s, .slice x.kA x.s.k.length x.kc] :: blkR gb 142 (fourC s) :: rowsR 2 PutHR (.slice x.pA pl x.pc) x.s.p :: rowsR 3 LookHR (.slice x.kA x.s.k.length x.kc) x.s.k :: rowsR 4 SecXR (.slice (some ad) n c) (x :: r) :: fourR s b :: L) (by (repeat (first | with_reducible exact Sub.refl _ | (with_reducible apply Sub.take; focus (repeat (first | with_reducible exact At.here | with_reducible apply At.there))) | with_reducible apply Sub.drop))))).mono ?_
            rintro e w4 ⟨tt, rfl, htt, h3⟩
            have H3 := hide h3
            clear h3 H2 f0 f1 f2 f3 n0 n1 n2 n3
            cases tt with
            | true =>
              have HNO2 := hide (show ∀ p, p < k + 1 → explB (r.map SecX.s) (behB b (x.s.p.take (pl - p))) = none from fun p hp => by
                rcases Nat.lt_succ_iff_lt_or_eq.1 hp with h | rfl
                · exact HNO.out p h
                · rw [← HMK.out, ← HNB.out, ← explB_congr _ _ _ (htt.1 rfl)]
                  exact HT.out.2)
              clear htt
              go_wp2_with fail
              go_roundg (wy - (k + 1))
              case measure => have := HG.out; have := HW.out; omega
              case rel => exact ⟨k + 1, some ad2, q, ce, ts, (m : Int) - 1, rfl, by omega, rfl, by go_num, by have := HZ.out; omega, HQ.out, by omega, HTS.out, HNO2.out, H3.out.sub (by (repeat (first | with_reducible exact Sub.refl _ | (with_reducible apply Sub.take; focus (repeat (first | with_reducible exact At.here | with_reducible apply At.there))) | with_reducible apply Sub.drop)))⟩
            | false =>
              clear htt
              go_wp2_with fail
              go_roundg (q - (j + 1))
              case measure => have := HGJ.out; omega
              case rel => exact ⟨j + 1, rfl, by omega, by go_num, H3.out.sub (by (repeat (first | with_reducible exact Sub.refl _ | (with_reducible apply Sub.take; focus (repeat (first | with_reducible exact At.here | with_reducible apply At.there))) | with_reducible apply Sub.drop)))⟩
          · obtain rfl : q = j := by omega
            have n0 := (h.blk 0 rfl).cell 0
            have n1 := (h.blk 0 rfl).cell 1
            have n2 := (h.blk 0 rfl).cell 2
            have n3 := (h.blk 0 rfl).cell 3
            have H4 := hide h
            clear h
            go_wp2_with fail
            have htail : ∃ A', (∀ ad', some ad = some ad' → c ≠ 1 → A' = some (ad'.add 4)) ∧ A' = (if c = 1 then some ad else some (ad.add 4)) := ⟨_, fun ad' e hc => by injection e with e; subst e; rw [if_neg hc], rfl⟩
            obtain ⟨A', hA', hAe⟩ := htail
            have H5 := hide ((H4.out.rowsTail (A' := A') (by (repeat (first | with_reducible exact At.here | with_reducible apply At.there))) hA').fourCopy (s := u) (b := nb) (by (repeat (first | with_reducible exact At.here | with_reducible apply At.there))))
            clear H4
            obtain ⟨EX, hEX⟩ : ∃ EX, EX = explB (r.map SecX.s) nb := ⟨_, rfl⟩
            have HEX := hide hEX
            have h0 := H5.out.sub (L' := rowsR 4 SecXR (.slice A' (n - 1) (c - 1)) r :: fourR u nb :: blkR gn 142 (fourC u) :: growR 142 4 FourCR (.slice C q ce) ts :: fourR u nb :: blkR gs 37 #[.int .u64 x.s.t, .slice x.pA pl x.pc, .int .i64 x.s.s, .slice x.kA x.s.k.length x.kc] :: blkR gb 142 (fourC s) :: rowsR 2 PutHR (.slice x.pA pl x.pc) x.s.p :: rowsR 3 LookHR (.slice x.kA x.s.k.length x.kc) x.s.k :: rowsR 4 SecXR (.slice (some ad) n c) (x :: r) :: fourR s b :: L) (by (repeat (first | with_reducible exact Sub.refl _ | (with_reducible apply Sub.take; focus (repeat (first | with_reducible exact At.here | with_reducible apply At.there))) | with_reducible apply Sub.drop)))
            have nge : (1 : Int) ≤ (n : Int) := by have := HN1.out; omega
            clear hEX H5 n0 n1 n2 n3
            refine region_flow (M0 := M0) (L0 := growR 142 4 FourCR (.slice C q ce) ts :: fourR u nb :: blkR gs 37 #[.int .u64 x.s.t, .slice x.pA pl x.pc, .int .i64 x.s.s, .slice x.kA x.s.k.length x.kc] :: blkR gb 142 (fourC s) :: rowsR 2 PutHR (.slice x.pA pl x.pc) x.s.p :: rowsR 3 LookHR (.slice x.kA x.s.k.length x.kc) x.s.k :: rowsR 4 SecXR (.slice (some ad) n c) (x :: r) :: fourR s b :: L) [⟨none, some 3, fun e => rowsR 4 SecXR (.slice A' (n - 1) (c - 1)) r⟩, ⟨none, some 3, fun e => fourR u nb⟩, ⟨none, none, fun e => blkR gn 142 (fourC u)⟩, ⟨some 3, none, fun e => persR (fun w => Ints w .i64 (e 3).v (keptE EX))⟩] [[], [0], [], [0, 1, 2], [0, 1, 2, 3], [0, 1, 2, 3, 4], [0, 1, 2, 3, 4], [0, 1, 2, 3, 4, 5], [0, 1, 2, 3, 4, 5, 6, 7]] [0, 1, 2, 3, 4, 5, 6, 7, 8] rfl (by kernel_rfl) (by kernel_rfl) (by kernel_rfl) (by rfl) (fun _ => rfl) (show St M0 _ (rowsR 4 SecXR (.slice A' (n - 1) (c - 1)) r :: fourR u nb :: blkR gn 142 (fourC u) :: growR 142 4 FourCR (.slice C q ce) ts :: fourR u nb :: blkR gs 37 #[.int .u64 x.s.t, .slice x.pA pl x.pc, .int .i64 x.s.s, .slice x.kA x.s.k.length x.kc] :: blkR gb 142 (fourC s) :: rowsR 2 PutHR (.slice x.pA pl x.pc) x.s.p :: rowsR 3 LookHR (.slice x.kA x.s.k.length x.kc) x.s.k :: rowsR 4 SecXR (.slice (some ad) n c) (x :: r) :: fourR s b :: L) from h0) ?_
            refine flow_run _ rfl (fun _ => rfl) (fun e wx Lx h => by (go_simp; try rfl)) (by intro e; rfl) (by intro e; rfl) (by intro e x; rfl) ?_
            (simp only [Act.put, List.setIfInBounds_toArray, List.set_cons_succ, List.set_cons_zero])
            refine flow_run (fun e => .slice A' (n - 1) (c - 1)) rfl (fun _ => rfl) (fun e wx Lx h => by (go_simp; try (rw [hAe]; rfl))) (by intro e; rfl) (by intro e; rfl) (by intro e x; rfl) ?_
            (simp only [Act.put, List.setIfInBounds_toArray, List.set_cons_succ, List.set_cons_zero])
            refine flow_run _ rfl (fun _ => rfl) (fun e wx Lx h => by (have h : St M0 wx (rowsR 4 SecXR (.slice A' (n - 1) (c - 1)) r :: fourR u nb :: blkR gn 142 (fourC u) :: Lx) := h; have n0 := (h.blkA (g := gn) (t := 142) (cs := fourC u) (by (repeat (first | with_reducible exact At.here | with_reducible apply At.there)))).cell 0; have n1 := (h.blkA (g := gn) (t := 142) (cs := fourC u) (by (repeat (first | with_reducible exact At.here | with_reducible apply At.there)))).cell 1; have n2 := (h.blkA (g := gn) (t := 142) (cs := fourC u) (by (repeat (first | with_reducible exact At.here | with_reducible apply At.there)))).cell 2; have n3 := (h.blkA (g := gn) (t := 142) (cs := fourC u) (by (repeat (first | with_reducible exact At.here | with_reducible apply At.there)))).cell 3; go_simp; try rfl)) (by intro e; rfl) (by intro e; rfl) (by intro e x; rfl) ?_
            (simp only [Act.put, List.setIfInBounds_toArray, List.set_cons_succ, List.set_cons_zero])
            refine flow_call 72 (fun e => #[.slice A' (n - 1) (c - 1), fourV u]) (fun e => .tuple #[(e 3).v, .bool EX.isSome]) rfl (fun _ => rfl) (by intro e; rfl) (fun e wx => by (go_simp; try rfl)) (fun e wx Lx h => by (
              have h : St M0 wx (rowsR 4 SecXR (.slice A' (n - 1) (c - 1)) r :: fourR u nb :: blkR gn 142 (fourC u) :: Lx) := h
              refine (HIH.out _ A' (n - 1) (c - 1) u nb _ HYN.out h).mono ?_
              rintro u wy ⟨v, rfl, h1⟩
              rw [← HEX.out] at h1 ⊢
              have hk : St M0 wy (blkR gn 142 (fourC u) :: persR (fun w => Ints w .i64 v (keptE EX)) :: Lx) := h1.sub (by (repeat (first | with_reducible exact Sub.refl _ | (with_reducible apply Sub.take; focus (repeat (first | with_reducible exact At.here | with_reducible apply At.there))) | with_reducible apply Sub.drop)))
              exact ⟨⟨none, 0, v⟩, rfl, hk⟩)) ?_
            (simp only [Act.put, List.setIfInBounds_toArray, List.set_cons_succ, List.set_cons_zero])
            refine flow_run _ rfl (fun _ => rfl) (fun e wx Lx h => by (go_simp; try rfl)) (by intro e; rfl) (by intro e; rfl) (by intro e x; rfl) ?_
            (simp only [Act.put, List.setIfInBounds_toArray, List.set_cons_succ, List.set_cons_zero])
            refine flow_run _ rfl (fun _ => rfl) (fun e wx Lx h => by (go_simp; try rfl)) (by intro e; rfl) (by intro e; rfl) (by intro e x; rfl) ?_
            (simp only [Act.put, List.setIfInBounds_toArray, List.set_cons_succ, List.set_cons_zero])
            refine flow_run _ rfl (fun _ => rfl) (fun e wx Lx h => by (go_simp; try rfl)) (by intro e; rfl) (by intro e; rfl) (by intro e x; rfl) ?_
            (simp only [Act.put, List.setIfInBounds_toArray, List.set_cons_succ, List.set_cons_zero])
            refine flow_run _ rfl (fun _ => rfl) (fun e wx Lx h => by (go_simp; try rfl)) (by intro e; rfl) (by intro e; rfl) (by intro e x; rfl) ?_
            (simp only [Act.put, List.setIfInBounds_toArray, List.set_cons_succ, List.set_cons_zero])
            refine flow_run _ rfl (fun _ => rfl) (fun e wx Lx h => by (go_simp; try rfl)) (by intro e; rfl) (by intro e; rfl) (by intro e x; rfl) ?_
            (simp only [Act.put, List.setIfInBounds_toArray, List.set_cons_succ, List.set_cons_zero])
            refine flow_nil ?_
            intro e w1 h
            have h : St M0 w1 (blkR gn 142 (fourC u) :: persR (fun w => Ints w .i64 (e 3).v (keptE EX)) :: growR 142 4 FourCR (.slice C q ce) ts :: fourR u nb :: blkR gs 37 #[.int .u64 x.s.t, .slice x.pA pl x.pc, .int .i64 x.s.s, .slice x.kA x.s.k.length x.kc] :: blkR gb 142 (fourC s) :: rowsR 2 PutHR (.slice x.pA pl x.pc) x.s.p :: rowsR 3 LookHR (.slice x.kA x.s.k.length x.kc) x.s.k :: rowsR 4 SecXR (.slice (some ad) n c) (x :: r) :: fourR s b :: L) := h
            clear h0 nge hAe hA'
            cases EX with
            | none =>
              have HNO2 := hide (show ∀ p, p < k + 1 → explB (r.map SecX.s) (behB b (x.s.p.take (pl - p))) = none from fun p hp => by
                rcases Nat.lt_succ_iff_lt_or_eq.1 hp with h | rfl
                · exact HNO.out p h
                · rw [← HMK.out, ← HNB.out]
                  exact HEX.out.symm)
              have n0 := (h.blkA (g := gn) (t := 142) (cs := fourC u) (by (repeat (first | with_reducible exact At.here | with_reducible apply At.there)))).cell 0
              have n1 := (h.blkA (g := gn) (t := 142) (cs := fourC u) (by (repeat (first | with_reducible exact At.here | with_reducible apply At.there)))).cell 1
              have n2 := (h.blkA (g := gn) (t := 142) (cs := fourC u) (by (repeat (first | with_reducible exact At.here | with_reducible apply At.there)))).cell 2
              have n3 := (h.blkA (g := gn) (t := 142) (cs := fourC u) (by (repeat (first | with_reducible exact At.here | with_reducible apply At.there)))).cell 3
              have h2 := (((h.fourCopy (s := u) (b := nb) (by (repeat (first | with_reducible exact At.here | with_reducible apply At.there)))).sub (L' := growR 142 4 FourCR (.slice C q ce) ts :: fourR u nb :: blkR gs 37 #[.int .u64 x.s.t, .slice x.pA pl x.pc, .int .i64 x.s.s, .slice x.kA x.s.k.length x.kc] :: blkR gb 142 (fourC s) :: rowsR 2 PutHR (.slice x.pA pl x.pc) x.s.p :: rowsR 3 LookHR (.slice x.kA x.s.k.length x.kc) x.s.k :: rowsR 4 SecXR (.slice (some ad) n c) (x :: r) :: fourR s b :: L) (by (repeat (first | with_reducible exact Sub.refl _ | (with_reducible apply Sub.take; focus (repeat (first | with_reducible exact At.here | with_reducible apply At.there))) | with_reducible apply Sub.drop)))).alloc 142 (fourC u)).front (X := growR 142 4 FourCR (.slice C q ce) ts) (by (repeat (first | with_reducible exact At.here | with_reducible apply At.there)))
              obtain ⟨vs, hq2, hxl, h3⟩ := h2.openGrowS
              have HX := hide h3
              have HQ2 := hide hq2
              have HXL := hide hxl
              have HTS2 := hide (show ∀ t ∈ ts ++ [nb], Byt4 t ∧ explB (r.map SecX.s) t = none from fun t ht => by
                rcases List.mem_append.1 ht with ht | ht
                · exact HTS.out t ht
                · rw [List.mem_singleton] at ht
                  rw [ht]
                  exact ⟨HYN.out, HEX.out.symm⟩)
              clear h h2 h3 hq2 hxl
              go_wp2_with (at_builtin; refine St.app_step four_elem HX.out rfl _ _ rfl rfl (some ⟨w1.heap.size, 0, none⟩) 1 1 rfl [.slice (u 0).a (u 0).n (u 0).c, .slice (u 1).a (u 1).n (u 1).c, .slice (u 2).a (u 2).n (u 2).c, .slice (u 3).a (u 3).n (u 3).c] (sl_blkM (cs := [.slice (u 0).a (u 0).n (u 0).c, .slice (u 1).a (u 1).n (u 1).c, .slice (u 2).a (u 2).n (u 2).c, .slice (u 3).a (u 3).n (u 3).c]) (HX.out.blkA (by (repeat (first | with_reducible exact At.here | with_reducible apply At.there))))) (four_one _) (by omega) (by omega) ?_; intro A6 c6 w7 h9)
              have h10 := (h9.fourCopy (s := u) (b := nb) (by (repeat (first | with_reducible exact At.here | with_reducible apply At.there)))).pers1 (R' := fun w => FourCR w [.slice (u 0).a (u 0).n (u 0).c, .slice (u 1).a (u 1).n (u 1).c, .slice (u 2).a (u 2).n (u 2).c, .slice (u 3).a (u 3).n (u 3).c] nb) (fun w' hw => ⟨u, rfl, hw⟩)
              have h11 := (h10.sub (L' := rowR 142 4 (.slice A6 (q + 1) c6) (q + 1) (vs ++ [.slice (u 0).a (u 0).n (u 0).c, .slice (u 1).a (u 1).n (u 1).c, .slice (u 2).a (u 2).n (u 2).c, .slice (u 3).a (u 3).n (u 3).c]) :: persR (fun w => ∀ (i : Nat) x, ts[i]? = some x → FourCR w ((vs.drop (i * 4)).take 4) x) :: persR (fun w => FourCR w [.slice (u 0).a (u 0).n (u 0).c, .slice (u 1).a (u 1).n (u 1).c, .slice (u 2).a (u 2).n (u 2).c, .slice (u 3).a (u 3).n (u 3).c] nb) :: blkR gs 37 #[.int .u64 x.s.t, .slice x.pA pl x.pc, .int .i64 x.s.s, .slice x.kA x.s.k.length x.kc] :: blkR gb 142 (fourC s) :: rowsR 2 PutHR (.slice x.pA pl x.pc) x.s.p :: rowsR 3 LookHR (.slice x.kA x.s.k.length x.kc) x.s.k :: rowsR 4 SecXR (.slice (some ad) n c) (x :: r) :: fourR s b :: L) (by (repeat (first | with_reducible exact Sub.refl _ | (with_reducible apply Sub.take; focus (repeat (first | with_reducible exact At.here | with_reducible apply At.there))) | with_reducible apply Sub.drop)))).snocGrow HQ2.out rfl HXL.out
              have H11 := hide h11
              clear h9 h10 h11
              go_wp2_with fail
              go_roundg (wy - (k + 1))
              case measure => have := HG.out; have := HW.out; omega
              case rel => exact ⟨k + 1, A6, q + 1, c6, ts ++ [nb], (m : Int) - 1, rfl, by omega, rfl, by go_num, by have := HZ.out; omega, by rw [List.length_append, ← HQ.out]; rfl, by omega, HTS2.out, HNO2.out, H11.out⟩
            | some ks =>
              have hkl : (keptE (some ks)).length ≤ 99 := by
                unfold keptE
                rw [List.length_map]
                have := explB_length _ _ _ HEX.out.symm
                rw [List.length_map] at this
                simp only [Option.getD_some]
                omega
              obtain ⟨A3, c3, hv, hv2⟩ := Ints.slice3 (h.getA (Q := fun w => Ints w .i64 (e 3).v (keptE (some ks))) (by (repeat (first | with_reducible exact At.here | with_reducible apply At.there))))
              rw [hv] at h
              have E := hide (show explB ((x :: r).map SecX.s) b = some (m :: ks) by
                rw [HE2.out]
                exact firstB_hit (by omega) (fun q hq => by rw [HNO.out q hq]; rfl) (by rw [← HMK.out, ← HNB.out, ← HEX.out]; rfl))
              have H1 := hide (((h.sub (L' := persR (fun w => Ints w .i64 (.slice A3 (keptE (some ks)).length c3) (keptE (some ks))) :: L) (by (repeat (first | with_reducible exact Sub.refl _ | (with_reducible apply Sub.take; focus (repeat (first | with_reducible exact At.here | with_reducible apply At.there))) | with_reducible apply Sub.drop)))).litRow 3 1 1 [.int .i64 m] rfl (by omega) w1.heap.size rfl))
              have HS := hide (H1.out.get 1 rfl).sl.2.2.2
              clear h hv2
              go_wp2_with (at_builtin; refine St.app_step inti_row H1.out rfl _ _ rfl rfl A3 (keptE (some ks)).length c3 hv ((keptE (some ks)).map (.int .i64)) HS.out (by intro u hu; obtain ⟨z, _, rfl⟩ := List.mem_map.1 hu; rfl) (by omega) (by omega) ?_; intro A6 c6 w7 h9)
              have H10 := hide (St.ints (xs := (m : Int) :: keptE (some ks)) (h9.sub (L' := rowR 3 1 (.slice A6 (1 + (keptE (some ks)).length) c6) (1 + (keptE (some ks)).length) ([.int .i64 m] ++ (keptE (some ks)).map (.int .i64)) :: L) (by (repeat (first | with_reducible exact Sub.refl _ | (with_reducible apply Sub.take; focus (repeat (first | with_reducible exact At.here | with_reducible apply At.there))) | with_reducible apply Sub.drop)))))
              clear h9
              go_wp2_with fail
              try rw [Exit.noGoto_ret]
              go_ret2
              exact ⟨_, by rw [E.out]; try rfl, by rw [E.out]; exact H10.out⟩
      · obtain rfl : k = wy := by omega
        have E := hide (show explB ((x :: r).map SecX.s) b = none by
          rw [HE2.out]
          exact (firstB_none _ _).2 (fun p hp => by rw [Nat.zero_add, HNO.out p hp]; rfl))
        have d1 : decide (x.s.s ≤ z) = false := decide_eq_false hge
        have d1' : decide (z ≥ x.s.s) = false := d1
        have H8 := hide (h.sub (L' := L) (by (repeat (first | with_reducible exact Sub.refl _ | (with_reducible apply Sub.take; focus (repeat (first | with_reducible exact At.here | with_reducible apply At.there))) | with_reducible apply Sub.drop))))
        clear h hz hge
        go_wp2_with fail
        try rw [Exit.noGoto_ret]
        go_ret2
        exact ⟨_, by rw [E.out]; try rfl, by rw [E.out]; exact H8.out.pers0 (fun w' _ => Ints.none_ w' _)⟩
end Go.Proofs.Ytbgknfdaaffeaaa
