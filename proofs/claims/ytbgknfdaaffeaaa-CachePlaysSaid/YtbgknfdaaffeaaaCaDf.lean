/- Cache: slices.DeleteFunc over a row that is owned, by a function that may keep something. -/
import Derived.Test.YtbgknfdaaffeaaaCaDi
namespace Go.Proofs.Ytbgknfdaaffeaaa
open Go.RowKit Go.Shelf

set_option maxHeartbeats 1000000 in
set_option maxRecDepth 100000 in
theorem indexC_st {M0 : Imm} {σ : Type} (T : σ → List Res) (f : FuncId) (caps : Array Value) (p : σ → PU → Bool × σ) (s0 : σ) (l : List PU) (A : Option Addr) (n c : Nat) (w : World)
    (hC : ∀ (args : Array Value) (W : World), Sem.run Try.prog (callFunc f args) W = .ok (.enter f args) W)
    (hF : ∀ (X : Res) (s : σ) (x : PU) (v : Value) (W : World), x ∈ l → St M0 W (X :: T s) → Calls Try.prog f (#[putV x v] ++ caps) W fun e W' => e = .returned (.bool (p s x).1) ∧ St M0 W' (X :: T (p s x).2))
    (h : St M0 w (growR 153 3 PutR (.slice A n c) l :: T s0)) :
    Calls Try.prog 133 #[.slice A n c, .func (.func f) #[] caps] w fun e w' => e = .returned (.int .i64 (idxS p s0 0 l).1) ∧ St M0 w' (growR 153 3 PutR (.slice A n c) l :: T (idxS p s0 0 l).2) := by
  obtain ⟨A', c', e, hc, hm⟩ := h.growLen
  injection e with e1 e2 e3
  subst e1; subst e3
  have HN := hide e2
  have hnc : n ≤ c := by omega
  have hcm : (c : Int) ≤ 9223372036854775807 := by unfold maxLen at hm; omega
  have H := hide h
  have HF := hide hF
  have HC := hide hC
  have hI := hide (show idxS p s0 0 l = idxS p s0 0 (l.drop 0) from rfl)
  clear h e2 hF hC hm hc
  go_enter Try.func133, Try.ntmps133
  go_wp2_with fail
  go_loopg [8] n (fun gh i wr => ∃ (k : Nat) (s : σ), gh = n - k ∧ k ≤ n ∧ i = .int .i64 (k : Nat) ∧ idxS p s0 0 l = idxS p s k (l.drop k) ∧ St M0 wr (growR 153 3 PutR (.slice A n c) l :: T s))
  case atStart => exact ⟨0, s0, rfl, by omega, rfl, hI.out, H.out⟩
  case round =>
    clear H hI
    obtain ⟨k, s, hg, hk, rfl, hi, h⟩ := hrel
    have HG := hide hg
    clear hg
    by_cases hlt : k < n
    · have hx := List.getElem?_eq_getElem (l := l) (i := k) (by rw [← HN.out]; exact hlt)
      have hdr := List.drop_eq_getElem_cons (l := l) (i := k) (by rw [← HN.out]; exact hlt)
      generalize l[k]'(by rw [← HN.out]; exact hlt) = x at hx hdr
      have hs : idxS p s k (l.drop k) = if (p s x).1 = true then ((k : Int), (p s x).2) else idxS p (p s x).2 (k + 1) (l.drop (k + 1)) := by rw [hdr]; rfl
      have HM := hide (List.mem_of_getElem? hx)
      obtain ⟨ad, cs, rfl, _, hcs, ⟨v, rfl, hv⟩, -, h1⟩ := h.elemG (by omega) hx
      obtain ⟨B, d, rfl, _, _, _⟩ := id hv
      obtain ⟨e0, e1, e2⟩ := cells3 hcs
      have HI := hide (hi.trans hs)
      have H1 := hide h
      clear hx h h1 hv hcs hdr hs hi
      have i0 : (0 : Int) ≤ (k : Int) := by omega
      have i1 : (k : Int) < (n : Int) := by omega
      go_wp2_with fail
      rw [HC.out, Oper.upon_enter]
      refine (HF.out _ s x (.slice B x.data.length d) _ HM.out H1.out).mono ?_
      rintro e w2 ⟨rfl, hf⟩
      have H2 := hide hf
      clear H1 hf e0 e1 e2
      cases hp : (p s x).1 with
      | true =>
        have E := hide (HI.out.trans (if_pos hp))
        go_wp2_with fail
        go_ret
        exact ⟨by rw [E.out]; try rfl, by rw [E.out]; exact H2.out⟩
      | false =>
        have E := hide (HI.out.trans (if_neg (by rw [hp]; exact Bool.false_ne_true)))
        go_wp2_with fail
        go_roundg (n - (k + 1))
        case measure => have := HG.out; omega
        case rel => exact ⟨k + 1, (p s x).2, rfl, by omega, by go_num, E.out, H2.out⟩
    · obtain rfl : k = n := by omega
      have E := hide (hi.trans (show idxS p s k (l.drop k) = (-1, s) by rw [List.drop_of_length_le (by rw [← HN.out]; exact Nat.le_refl _)]; rfl))
      have H := hide h
      clear h hi
      go_wp2_with fail
      go_ret
      exact ⟨by rw [E.out]; try rfl, by rw [E.out]; exact H.out⟩

theorem idxS_spec {σ : Type} (p : σ → PU → Bool × σ) (l : List PU) : ∀ (s : σ) (i : Nat), ((idxS p s i l).1 = -1 ∧ keepS p s l = l ∧ lastS p s l = (idxS p s i l).2) ∨
    ∃ k, k < l.length ∧ (idxS p s i l).1 = ((i + k : Nat) : Int) ∧ keepS p s l = l.take k ++ keepS p (idxS p s i l).2 (l.drop (k + 1)) ∧ lastS p s l = lastS p (idxS p s i l).2 (l.drop (k + 1)) := by
  induction l with
  | nil => exact fun s i => .inl ⟨rfl, rfl, rfl⟩
  | cons x r ih =>
    intro s i
    cases hp : (p s x).1 with
    | true =>
      have e : idxS p s i (x :: r) = ((i : Int), (p s x).2) := by simp [idxS, hp]
      rw [e]
      exact .inr ⟨0, by simp, by simp, by simp [keepS, hp], rfl⟩
    | false =>
      have e : idxS p s i (x :: r) = idxS p (p s x).2 (i + 1) r := by simp [idxS, hp]
      have ek : keepS p s (x :: r) = x :: keepS p (p s x).2 r := by simp [keepS, hp]
      rw [e, ek]
      rcases ih (p s x).2 (i + 1) with ⟨h1, h2, h3⟩ | ⟨k, hk, h1, h2, h3⟩
      · exact .inl ⟨h1, by rw [h2], h3⟩
      · refine .inr ⟨k + 1, by simp; omega, by rw [h1]; omega, ?_, h3⟩
        rw [h2]
        rfl
section
variable {α : Type} {M0 : Imm} {w : World} {L : List Res} {e : TypeId} {size : Nat} {R : World → List Value → α → Prop}
theorem St.zAt {b n c j : Nat} {zs : List (List Value × α)} {cs : List Value} {x : α} (h : St M0 w (rowR e size (.slice (some ⟨b, 0, none⟩) n c) n (flatZ zs) :: persR (allZ R zs) :: L)) (hs : sized size zs) (hz : zs[j]? = some (cs, x)) :
    cs.length = size ∧ R w cs x ∧ ∀ q u, cs[q]? = some u → w.cell? ⟨b, j * size + q, none⟩ = some u := by
  have hm := List.mem_of_getElem? hz
  refine ⟨hs _ hm, h.get 1 rfl _ hm, fun q u hu => ?_⟩
  have hf := flatZ_at zs hs j (cs, x) hz
  have hq := (List.getElem?_eq_some_iff.1 hu).1
  rw [show cs = ((flatZ zs).drop (j * size)).take size from hf.symm, List.getElem?_take, if_pos (by rw [← hs _ hm]; exact hq), List.getElem?_drop] at hu
  have := (h.row 0 rfl).cells (g := b) rfl _ u hu
  rwa [show (⟨b, 0, none⟩ : Addr).add (j * size + q) = ⟨b, j * size + q, none⟩ by (generalize j * size + q = m; simp [Addr.add]; exact Eq.symm)] at this
theorem St.zThere {b n c j : Nat} {zs : List (List Value × α)} (h : St M0 w (rowR e size (.slice (some ⟨b, 0, none⟩) n c) n (flatZ zs) :: L)) (hj : j < n) : w.there b (j * size) size := by
  have hle : (j + 1) * size ≤ n * size := Nat.mul_le_mul_right _ hj
  rw [Nat.add_mul, Nat.one_mul] at hle
  exact own_there (h.row 0 rfl) (j * size) size (by omega)
theorem St.zSet {b n c i : Nat} {zs : List (List Value × α)} {cs : List Value} {x : α} (h : St M0 w (rowR e size (.slice (some ⟨b, 0, none⟩) n c) n (flatZ zs) :: persR (allZ R zs) :: persR (fun w => R w cs x) :: L)) (hs : sized size zs) (hc : cs.length = size) (hi : i < n) (hn : zs.length = n) :
    sized size (zs.set i (cs, x)) ∧ St M0 (w.setCells b (i * size) cs) (rowR e size (.slice (some ⟨b, 0, none⟩) n c) n (flatZ (zs.set i (cs, x))) :: persR (allZ R (zs.set i (cs, x))) :: L) := by
  have hle : (i + 1) * size ≤ n * size := Nat.mul_le_mul_right _ hi
  rw [Nat.add_mul, Nat.one_mul] at hle
  have h2 := h.rowSplice (i * size) cs (by omega)
  have e1 := flatZ_splice zs [(cs, x)] hs (fun p hp => by obtain rfl : p = (cs, x) := by simpa using hp
                                                          exact hc) i (by simp; omega)
  rw [show flatZ [(cs, x)] = cs by simp [flatZ], splice_set zs i (cs, x) (by omega)] at e1
  rw [e1] at h2
  refine ⟨fun p hp => ?_, (h2.dn2.pers2 (Q := allZ R (zs.set i (cs, x))) (fun w' h1 h2 p hp => ?_)).swap⟩
  · rcases List.mem_or_eq_of_mem_set hp with hp | rfl
    · exact hs p hp
    · exact hc
  · rcases List.mem_or_eq_of_mem_set hp with hp | rfl
    · exact h1 p hp
    · exact h2
end
theorem set_snoc {α : Type} (zs : List α) (i : Nat) (z : α) (h : i < zs.length) : (zs.set i z).take (i + 1) = zs.take i ++ [z] := by
  rw [List.take_add_one, List.getElem?_set_self (by omega), List.take_set_of_le (Nat.le_refl i)]
  rfl
set_option maxHeartbeats 2000000 in
set_option maxRecDepth 100000 in
theorem delF_st {M0 : Imm} {σ : Type} (T : σ → List Res) (f : FuncId) (caps : Array Value) (p : σ → PU → Bool × σ) (s0 : σ) (l : List PU) (A : Option Addr) (n c : Nat) (w : World)
    (hC : ∀ (args : Array Value) (W : World), Sem.run Try.prog (callFunc f args) W = .ok (.enter f args) W)
    (hF : ∀ (X : Res) (s : σ) (x : PU) (v : Value) (W : World), x ∈ l → St M0 W (X :: T s) → Calls Try.prog f (#[putV x v] ++ caps) W fun e W' => e = .returned (.bool (p s x).1) ∧ St M0 W' (X :: T (p s x).2))
    (h : St M0 w (growR 153 3 PutR (.slice A n c) l :: T s0)) :
    Calls Try.prog 82 #[.slice A n c, .func (.func f) #[] caps] w fun e w' => ∃ v, e = .returned v ∧ St M0 w' (growR 153 3 PutR v (keepS p s0 l) :: T (lastS p s0 l)) := by
  have HI := hide (indexC_st T f caps p s0 l A n c w hC hF h)
  obtain ⟨A', c', e, hc, hm⟩ := h.growLen
  injection e with e1 e2 e3
  subst e1; subst e3
  have HN := hide e2
  have hnc : n ≤ c := by omega
  have hcm : (c : Int) ≤ 9223372036854775807 := by unfold maxLen at hm; omega
  have HF := hide hF
  have HC := hide hC
  have HS := idxS_spec p l s0 0
  generalize idxS p s0 0 l = z at HI HS
  obtain ⟨z1, z2⟩ := z
  have HS : (z1 = -1 ∧ keepS p s0 l = l ∧ lastS p s0 l = z2) ∨ ∃ k, k < l.length ∧ z1 = ((0 + k : Nat) : Int) ∧ keepS p s0 l = l.take k ++ keepS p z2 (l.drop (k + 1)) ∧ lastS p s0 l = lastS p z2 (l.drop (k + 1)) := HS
  have HI : Hid (Calls Try.prog 133 #[.slice A n c, .func (.func f) #[] caps] w fun e w' => e = .returned (.int .i64 z1) ∧ St M0 w' (growR 153 3 PutR (.slice A n c) l :: T z2)) := HI
  clear h e2 hF hC hm hc
  rcases HS with ⟨rfl, hk, hl⟩ | ⟨k, hkn, hk1, hk, hl⟩
  · have EK := hide hk
    have EL := hide hl
    clear hk hl
    go_enter Try.func82, Try.ntmps82
    go_wp2_with fail
    refine HI.out.mono ?_
    rintro e w2 ⟨rfl, h⟩
    have H := hide h
    clear h HI
    go_wp2_with fail
    go_ret
    exact ⟨_, rfl, by rw [EK.out, EL.out]; exact H.out⟩
  · rw [Nat.zero_add] at hk1
    subst hk1
    have EK := hide hk
    have EL := hide hl
    have hkn' : k < n := by have := HN.out; omega
    have k0 : (0 : Int) ≤ (k : Int) := by omega
    have kne : ((k : Int) == -1) = false := isF (by omega)
    obtain ⟨j, hj⟩ : ∃ j, j = k + 1 := ⟨_, rfl⟩
    have jw : IntKind.i64.wrap ((k : Int) + 1) = (j : Int) := by rw [hj, IntWalk.i64_in _ (by omega)]; omega
    have HJ := hide hj
    clear hk hl hkn hj
    go_enter Try.func82, Try.ntmps82
    go_wp2_with fail
    refine HI.out.mono ?_
    rintro e w2 ⟨rfl, h⟩
    obtain ⟨zs, hz, hn, hs, h1⟩ := h.growZ
    obtain ⟨b, rfl⟩ := own_form (h1.row 0 rfl) (by omega)
    have HZ := hide hz
    have HZN := hide hn
    have HS := hide hs
    have H := hide h1
    clear h h1 HI hn hs hz
    go_wp2_with fail
    go_loopg [5, 6] (n - j) (fun gh v u wr => ∃ (i j : Nat) (s : σ) (zs : List (List Value × PU)), gh = n - j ∧ i < j ∧ j ≤ n ∧ v = .int .i64 (i : Nat) ∧ u = .int .i64 (j : Nat) ∧ zs.length = n ∧ sized 3 zs ∧ (zs.drop j).map Prod.snd = l.drop j ∧
      keepS p s0 l = (zs.take i).map Prod.snd ++ keepS p s (l.drop j) ∧ lastS p s0 l = lastS p s (l.drop j) ∧ St M0 wr (rowR 153 3 (.slice (some ⟨b, 0, none⟩) n c) n (flatZ zs) :: persR (allZ PutR zs) :: T s))
    case atStart =>
      have hj := HJ.out
      refine ⟨k, j, z2, zs, rfl, by omega, by omega, rfl, rfl, HZN.out.symm, HS.out, by rw [List.map_drop, HZ.out], ?_, ?_, H.out⟩
      · rw [EK.out, List.map_take, HZ.out, hj]
      · rw [EL.out, hj]
    case round =>
      clear H HZ HZN HS EK EL HJ jw k0 kne hkn'
      clear zs
      obtain ⟨i, j, s, zs, hg, hij, hj, rfl, rfl, hzn, hs, hz, hK, hL, h⟩ := hrel
      have HG := hide hg
      have HS := hide hs
      have HZN := hide hzn
      have i0 : (0 : Int) ≤ (i : Int) := by omega
      have j0 : (0 : Int) ≤ (j : Int) := by omega
      clear hg hs
      by_cases hlt : j < n
      · have i1 : (i : Int) < (n : Int) := by omega
        have j1 : (j : Int) < (n : Int) := by omega
        have hx := List.getElem?_eq_getElem (l := l) (i := j) (by rw [← HN.out]; exact hlt)
        have hdr := List.drop_eq_getElem_cons (l := l) (i := j) (by rw [← HN.out]; exact hlt)
        generalize l[j]'(by rw [← HN.out]; exact hlt) = x at hx hdr
        have hzx := List.getElem?_eq_getElem (l := zs) (i := j) (by rw [hzn]; exact hlt)
        have hzd := List.drop_eq_getElem_cons (l := zs) (i := j) (by rw [hzn]; exact hlt)
        generalize zs[j]'(by rw [hzn]; exact hlt) = z at hzx hzd
        obtain ⟨cs, x'⟩ := z
        have hzz := hz
        rw [hdr, hzd, List.map_cons] at hzz
        injection hzz with hzx1 hzz
        subst hzx1
        obtain ⟨hcl, ⟨v, rfl, hv⟩, hcc⟩ := h.zAt HS.out hzx
        obtain ⟨X, xc, rfl, _, _, _⟩ := id hv
        have e0 : wr.cell? ⟨b, j * 3, none⟩ = some (.int .i64 x'.region) := hcc 0 _ rfl
        have e1 : wr.cell? ⟨b, j * 3 + 1, none⟩ = some (.int .i64 x'.index) := hcc 1 _ rfl
        have e2 : wr.cell? ⟨b, j * 3 + 2, none⟩ = some (.slice X x'.data.length xc) := hcc 2 _ rfl
        have hks : keepS p s (l.drop j) = if (p s x').1 = true then keepS p (p s x').2 (l.drop (j + 1)) else x' :: keepS p (p s x').2 (l.drop (j + 1)) := by rw [hdr]; rfl
        have hls : lastS p s (l.drop j) = lastS p (p s x').2 (l.drop (j + 1)) := by rw [hdr]; rfl
        have HM := hide (List.mem_of_getElem? hx)
        have HZX := hide hzx
        have HZD := hide hzz
        have HK := hide (hK.trans (congrArg _ hks))
        have HL := hide (hL.trans hls)
        have H := hide h
        have H1 := hide ((h.copy 1 rfl).pers1 (R' := fun w' => PutR w' [.int .i64 x'.region, .int .i64 x'.index, .slice X x'.data.length xc] x') (fun w' hp => hp _ (List.mem_of_getElem? hzx)))
        clear hx hdr hzx hzd hz hzz hcl hv hcc hks hls hK hL h H hzn
        go_wp2_with fail
        have h2 := (H1.out.alloc 153 #[.int .i64 x'.region, .int .i64 x'.index, .slice X x'.data.length xc]).pick (L' := rowR 153 3 (.slice (some ⟨b, 0, none⟩) n c) n (flatZ zs) :: persR (allZ PutR zs) :: persR (fun w' => PutR w' [.int .i64 x'.region, .int .i64 x'.index, .slice X x'.data.length xc] x') :: blkR wr.heap.size 153 #[.int .i64 x'.region, .int .i64 x'.index, .slice X x'.data.length xc] :: T s) 4 [2, 3, 1, 0]
        generalize wr.heap.size = y at h2 ⊢
        have h3 := (h2.dn2.addStar.swap.addStar).swap.addStar
        have H3 := hide h3
        clear h2 h3 H1 e0 e1 e2
        generalize wr.alloc _ = w3 at H3 ⊢
        rw [HC.out, Oper.upon_enter]
        refine (HF.out _ s x' (.slice X x'.data.length xc) _ HM.out H3.out).mono ?_
        rintro e w4 ⟨rfl, h4⟩
        have h5 := h4.star.swap.star.swap.star.pick (L' := rowR 153 3 (.slice (some ⟨b, 0, none⟩) n c) n (flatZ zs) :: persR (allZ PutR zs) :: persR (fun w' => PutR w' [.int .i64 x'.region, .int .i64 x'.index, .slice X x'.data.length xc] x') :: blkR y 153 #[.int .i64 x'.region, .int .i64 x'.index, .slice X x'.data.length xc] :: T (p s x').2) 4 [2, 0, 1, 3]
        clear h4 H3
        have jw : IntKind.i64.wrap ((j : Int) + 1) = ((j + 1 : Nat) : Int) := by rw [IntWalk.i64_in _ (by omega)]; omega
        cases hp : (p s x').1 with
        | true =>
          have EK := hide (HK.out.trans (by rw [if_pos hp]))
          have H5 := hide (h5.pick (L' := rowR 153 3 (.slice (some ⟨b, 0, none⟩) n c) n (flatZ zs) :: persR (allZ PutR zs) :: T (p s x').2) 4 [0, 1])
          clear h5 HK
          go_wp2_with fail
          go_roundg (n - (j + 1))
          case measure => have := HG.out; omega
          case rel => exact ⟨i, j + 1, (p s x').2, zs, rfl, by omega, by omega, rfl, by go_num, HZN.out, HS.out, HZD.out, EK.out, HL.out, H5.out⟩
        | false =>
          have EK := hide (HK.out.trans (by rw [if_neg (by rw [hp]; exact Bool.false_ne_true)]))
          have y0 := (h5.blk 3 rfl).cell 0
          have y1 := (h5.blk 3 rfl).cell 1
          have y2 := (h5.blk 3 rfl).cell 2
          have iw : IntKind.i64.wrap ((i : Int) + 1) = ((i + 1 : Nat) : Int) := by rw [IntWalk.i64_in _ (by omega)]; omega
          have hrun := run_store_put w4 b (i * 3) (h5.zThere (by omega)) x'.region x'.index X x'.data.length xc
          obtain ⟨hs2, h6⟩ := h5.zSet (i := i) HS.out rfl (by omega) HZN.out
          have H6 := hide (h6.pick (L' := rowR 153 3 (.slice (some ⟨b, 0, none⟩) n c) n (flatZ (zs.set i ([.int .i64 x'.region, .int .i64 x'.index, .slice X x'.data.length xc], x'))) :: persR (allZ PutR (zs.set i ([.int .i64 x'.region, .int .i64 x'.index, .slice X x'.data.length xc], x'))) :: T (p s x').2) 3 [0, 1])
          have HS2 := hide hs2
          have HIJ := hide hij
          clear h5 h6 hs2 HK
          go_wp2_with (refine at_storeR 153 rfl rfl rfl rfl hrun ?_)
          go_roundg (n - (j + 1))
          case measure => have := HG.out; omega
          case rel => exact ⟨i + 1, j + 1, (p s x').2, _, rfl, by have := HIJ.out; omega, by omega, by go_num, by go_num, by rw [List.length_set]; exact HZN.out, HS2.out, by rw [List.drop_set_of_lt (by have := HIJ.out; omega)]; exact HZD.out, by
            rw [EK.out, set_snoc _ _ _ (by have := HZN.out; omega), List.map_append, List.append_assoc]; rfl, HL.out, H6.out⟩
      · obtain rfl : j = n := by omega
        have i1 : (i : Int) < (j : Int) := by omega
        have q1 : (i : Int) ≤ (j : Int) := by omega
        have q2 : (i : Int) ≤ (c : Int) := by omega
        have q3 : ¬ c = i := by omega
        have q4 : (j : Int) ≤ (c : Int) := by omega
        have hnil : l.drop j = [] := List.drop_of_length_le (by rw [← HN.out]; exact Nat.le_refl _)
        rw [hnil] at hK hL
        have EK := hide (hK.trans (List.append_nil _))
        have EL := hide (hL.trans (show lastS p s [] = s from rfl))
        have HIJ := hide hij
        obtain ⟨w3, ys, hr3, hy, h3⟩ := St.run_clear put_elem put_zero (by decide) h i j (c - i) ⟨b, i * 3, none⟩ (fun _ => rfl) (by omega) (by omega)
        have hcl := hr3 0
        have H3 := hide h3
        have HY := hide hy
        clear h hr3 hy h3 hK hL hij hz hzn
        go_wp2_with fail
        go_ret
        refine ⟨_, rfl, ?_⟩
        rw [EK.out, EL.out]
        have h4 := H3.out.rowLess (m := i) (by have := HIJ.out; omega)
        have e : (splice (flatZ zs) (i * 3) ys).take (i * 3) = flatZ (zs.take i) := by
          have h1 := HIJ.out
          have h2 := HZN.out
          unfold splice
          rw [flatZ_take zs HS.out i (by omega), List.append_assoc, List.take_left']
          rw [flatZ_length _ (HS.out.take i), List.length_take, Nat.min_eq_left (by omega)]
        rw [e] at h4
        refine (h4.swap.pers1 (fun w' hr p hp => hr p (List.mem_of_mem_take hp))).swap.zGrow (HS.out.take i) rfl ?_
        have h1 := HIJ.out
        have h2 := HZN.out
        rw [List.length_take]
        omega
end Go.Proofs.Ytbgknfdaaffeaaa
