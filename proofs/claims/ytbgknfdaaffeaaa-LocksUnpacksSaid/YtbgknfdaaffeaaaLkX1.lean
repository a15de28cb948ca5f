/- Locks, the document: the table in memory; Holds, Wants, bears. -/
import Derived.Test.YtbgknfdaaffeaaaLkK
import Derived.Test.YtbgknfdaaffeaaaLkUm
namespace Go.Proofs.Ytbgknfdaaffeaaa
open Go.RowKit Go.Shelf

abbrev docC (now last : Int) (vs : Nat → RegV) : Array Value := #[.int .u64 now, .int .u64 last,
  .slice (vs 0).h.a (vs 0).h.n (vs 0).h.c, .slice (vs 1).h.a (vs 1).h.n (vs 1).h.c, .slice (vs 2).h.a (vs 2).h.n (vs 2).h.c, .slice (vs 3).h.a (vs 3).h.n (vs 3).h.c,
  .slice (vs 0).w.a (vs 0).w.n (vs 0).w.c, .slice (vs 1).w.a (vs 1).w.n (vs 1).w.c, .slice (vs 2).w.a (vs 2).w.n (vs 2).w.c, .slice (vs 3).w.a (vs 3).w.n (vs 3).w.c]
theorem docC_h (now last : Int) (vs : Nat → RegV) {i : Nat} (hi : i < 4) : (docC now last vs)[2 + i]? = some (.slice (vs i).h.a (vs i).h.n (vs i).h.c) := by
  rcases lt4T hi with rfl | rfl | rfl | rfl <;> rfl
theorem docC_w (now last : Int) (vs : Nat → RegV) {i : Nat} (hi : i < 4) : (docC now last vs)[6 + i]? = some (.slice (vs i).w.a (vs i).w.n (vs i).w.c) := by
  rcases lt4T hi with rfl | rfl | rfl | rfl <;> rfl
theorem docC_seth (now last : Int) (vs : Nat → RegV) {i : Nat} (hi : i < 4) (u : SlV) : (docC now last vs).setIfInBounds (2 + i) (.slice u.a u.n u.c) = docC now last (upd vs i ⟨u, (vs i).w⟩) := by
  rcases lt4T hi with rfl | rfl | rfl | rfl <;> rfl
theorem docC_setw (now last : Int) (vs : Nat → RegV) {i : Nat} (hi : i < 4) (u : SlV) : (docC now last vs).setIfInBounds (6 + i) (.slice u.a u.n u.c) = docC now last (upd vs i ⟨(vs i).h, u⟩) := by
  rcases lt4T hi with rfl | rfl | rfl | rfl <;> rfl
abbrev docB (g : Nat) (now last : Int) (vs : Nat → RegV) : Res := blkR g 135 (docC now last vs)
/-- all slices, which stay -/
def docP (vs : Nat → RegV) (r : Nat → RegM) (w : World) : Prop := ∀ i, i < 4 → FlatP holdC 4 w (.slice (vs i).h.a (vs i).h.n (vs i).h.c) (r i).h ∧ FlatP wantC 2 w (.slice (vs i).w.a (vs i).w.n (vs i).w.c) (r i).w
abbrev docS (vs : Nat → RegV) (r : Nat → RegM) : Res := persR (docP vs r)
def docR (g : Nat) (T : TabM) : Res := exR fun vs => starR (docB g T.now T.last vs) (docS vs T.r)
section
variable {M0 : Imm} {w : World} {L : List Res} {g : Nat}
theorem St.docO {T : TabM} (h : St M0 w (docR g T :: L)) : ∃ vs, St M0 w (docB g T.now T.last vs :: docS vs T.r :: L) := by
  obtain ⟨vs, h1⟩ := h.ex
  exact ⟨vs, h1.star⟩
theorem St.docCl {now last : Int} {r : Nat → RegM} {vs : Nat → RegV} (h : St M0 w (docB g now last vs :: docS vs r :: L)) : St M0 w (docR g ⟨now, last, r⟩ :: L) :=
  St.addEx (f := fun vs => starR (docB g now last vs) (docS vs r)) vs h.addStar
theorem St.newDoc (h : St M0 w L) : St M0 (w.alloc (.cells (docC 0 0 fun _ => ⟨⟨none, 0, 0⟩, ⟨none, 0, 0⟩⟩) 135)) (docR w.heap.size ⟨0, 0, fun _ => ⟨[], []⟩⟩ :: L) :=
  St.docCl ((h.pers0 (R := docP (fun _ => ⟨⟨none, 0, 0⟩, ⟨none, 0, 0⟩⟩) fun _ => ⟨[], []⟩) (fun w' _ _ _ => ⟨FlatP.none_ w', FlatP.none_ w'⟩)).alloc 135 _)
end
/-- one element as a slice of its own -/
theorem FlatP.one {α : Type} {C : α → List Value} {size : Nat} {w : World} {xs : List α} (hC : ∀ x, (C x).length = size) {ad : Addr} {n c k : Nat} {x : α} (h : FlatP C size w (.slice (some ad) n c) xs) (hk : xs[k]? = some x) : FlatP C size w (.slice (some (ad.add (k * size))) 1 (c - k)) [x] := by
  obtain ⟨h0, h1, h2, hs⟩ := h.sl
  have hlt := (List.getElem?_eq_some_iff.1 hk).1
  obtain ⟨ad', e, _, hb, hc⟩ := hs.2 (by omega)
  cases e
  refine ⟨_, c - k, rfl, by simp; omega, by unfold maxLen; omega, by simp [hC], fun _ => ⟨_, rfl, trivial, by rw [addr_block]; exact hb, fun j u hu => ?_⟩⟩
  rw [addr_add]
  refine hc _ u ?_
  simp only [List.flatMap_cons, List.flatMap_nil, List.append_nil] at hu
  rw [flatC_at hC xs k x hk j (by rw [← hC x]; exact (List.getElem?_eq_some_iff.1 hu).1)]
  exact hu
set_option maxHeartbeats 1000000 in
set_option maxRecDepth 100000 in
theorem holdsEq_st {M0 : Imm} {L : List Res} (A B : Option Addr) (n c d : Nat) (l : List HoldM) (w : World) (hV : ∀ W, St M0 W L → FlatP holdC 4 W (.slice A n c) l) (hU : ∀ W, St M0 W L → FlatP holdC 4 W (.slice B n d) l) (h : St M0 w L) :
    Calls Try.prog 120 #[.slice A n c, .slice B n d] w fun e w' => e = .returned (.bool true) ∧ St M0 w' L := by
  obtain ⟨hn, hnc, hcm, _⟩ := (hV w h).sl
  obtain ⟨_, hnd, hdm, _⟩ := (hU w h).sl
  have HN := hide hn
  have HV := hide hV
  have HU := hide hU
  have H := hide h
  clear h hV hU hn
  go_enter Try.func120, Try.ntmps120
  go_wp2_with fail
  go_loopg [5] n (fun gh iv wr => ∃ (k : Nat), gh = n - k ∧ k ≤ n ∧ iv = .int .i64 (k : Nat) ∧ St M0 wr L)
  case atStart => exact ⟨0, rfl, by omega, rfl, H.out⟩
  case round =>
    clear H
    obtain ⟨k, hg, hk, rfl, h⟩ := hrel
    have HG := hide hg
    clear hg
    by_cases hlt : k < n
    · have hx := List.getElem?_eq_getElem (l := l) (i := k) (by rw [← HN.out]; exact hlt)
      generalize l[k]'(by rw [← HN.out]; exact hlt) = x at hx
      obtain ⟨ad, rfl, hcs⟩ := (HV.out _ h).at_ holdC_len hx
      obtain ⟨ad2, rfl, hcs2⟩ := (HU.out _ h).at_ holdC_len hx
      obtain ⟨e0, e1, e2, e3⟩ := cells4F hcs
      obtain ⟨f0, f1, f2, f3⟩ := cells4F hcs2
      have k0 : (0 : Int) ≤ (k : Int) := by omega
      have k1 : (k : Int) < (n : Int) := by omega
      have H1 := hide h
      clear h hx hcs hcs2
      go_wp2_with fail
      go_quiet (fail)
      go_wp2_with fail
      go_roundg (n - (k + 1))
      case measure => have := HG.out; omega
      case rel => exact ⟨k + 1, rfl, by omega, by go_num, H1.out.drewN _⟩
    · obtain rfl : n = k := by omega
      have H1 := hide h
      clear h
      go_wp2_with fail
      go_ret
      exact ⟨rfl, H1.out⟩
set_option maxHeartbeats 1000000 in
set_option maxRecDepth 100000 in
theorem wantsEq_st {M0 : Imm} {L : List Res} (A B : Option Addr) (n c d : Nat) (l : List WantM) (w : World) (hV : ∀ W, St M0 W L → FlatP wantC 2 W (.slice A n c) l) (hU : ∀ W, St M0 W L → FlatP wantC 2 W (.slice B n d) l) (h : St M0 w L) :
    Calls Try.prog 121 #[.slice A n c, .slice B n d] w fun e w' => e = .returned (.bool true) ∧ St M0 w' L := by
  obtain ⟨hn, hnc, hcm, _⟩ := (hV w h).sl
  obtain ⟨_, hnd, hdm, _⟩ := (hU w h).sl
  have HN := hide hn
  have HV := hide hV
  have HU := hide hU
  have H := hide h
  clear h hV hU hn
  go_enter Try.func121, Try.ntmps121
  go_wp2_with fail
  go_loopg [5] n (fun gh iv wr => ∃ (k : Nat), gh = n - k ∧ k ≤ n ∧ iv = .int .i64 (k : Nat) ∧ St M0 wr L)
  case atStart => exact ⟨0, rfl, by omega, rfl, H.out⟩
  case round =>
    clear H
    obtain ⟨k, hg, hk, rfl, h⟩ := hrel
    have HG := hide hg
    clear hg
    by_cases hlt : k < n
    · have hx := List.getElem?_eq_getElem (l := l) (i := k) (by rw [← HN.out]; exact hlt)
      generalize l[k]'(by rw [← HN.out]; exact hlt) = x at hx
      obtain ⟨ad, rfl, hcs⟩ := (HV.out _ h).at_ wantC_len hx
      obtain ⟨ad2, rfl, hcs2⟩ := (HU.out _ h).at_ wantC_len hx
      obtain ⟨e0, e1⟩ := cells2F hcs
      obtain ⟨f0, f1⟩ := cells2F hcs2
      have k0 : (0 : Int) ≤ (k : Int) := by omega
      have k1 : (k : Int) < (n : Int) := by omega
      have H1 := hide h
      clear h hx hcs hcs2
      go_wp2_with fail
      go_quiet (fail)
      go_wp2_with fail
      go_roundg (n - (k + 1))
      case measure => have := HG.out; omega
      case rel => exact ⟨k + 1, rfl, by omega, by go_num, H1.out.drewN _⟩
    · obtain rfl : n = k := by omega
      have H1 := hide h
      clear h
      go_wp2_with fail
      go_ret
      exact ⟨rfl, H1.out⟩
def softB (m : Int) (h : HoldM) : Bool := (h.m != 1) || (m != 1)
theorem softB_hard {m : Int} {h : HoldM} (h1 : modeB h.m = true) (h2 : modeB m = true) : softB m h = hardB m h := by
  unfold modeB at h1 h2
  unfold softB hardB
  simp at h1 h2
  rcases h1 with h1 | h1 <;> rcases h2 with h2 | h2 <;> rw [h1, h2] <;> decide
set_option maxHeartbeats 1000000 in
set_option maxRecDepth 100000 in
theorem bearsR_st {M0 : Imm} {L : List Res} (A : Option Addr) (n c : Nat) (l : List HoldM) (m : Int) (w : World) (hV : ∀ W, St M0 W L → FlatP holdC 4 W (.slice A n c) l) (h : St M0 w L) :
    Calls Try.prog 152 #[.slice A n c, .int .i64 m] w fun e w' => e = .returned (.bool (!l.any (softB m))) ∧ St M0 w' L := by
  obtain ⟨hn, hnc, hcm, _⟩ := (hV w h).sl
  have HN := hide hn
  have HV := hide hV
  have H := hide h
  clear h hV hn
  go_enter Try.func152, Try.ntmps152
  go_wp2_with fail
  go_loopg [5] n (fun gh iv wr => ∃ (k : Nat), gh = n - k ∧ k ≤ n ∧ iv = .int .i64 (k : Nat) ∧ (l.take k).any (softB m) = false ∧ St M0 wr L)
  case atStart => exact ⟨0, rfl, by omega, rfl, by simp, H.out⟩
  case round =>
    clear H
    obtain ⟨k, hg, hk, rfl, hno, h⟩ := hrel
    have HG := hide hg
    have HNO := hide hno
    clear hg hno
    by_cases hlt : k < n
    · have hx := List.getElem?_eq_getElem (l := l) (i := k) (by rw [← HN.out]; exact hlt)
      generalize l[k]'(by rw [← HN.out]; exact hlt) = x at hx
      obtain ⟨ad, rfl, hcs⟩ := (HV.out _ h).at_ holdC_len hx
      obtain ⟨e0, e1, e2, e3⟩ := cells4F hcs
      have k0 : (0 : Int) ≤ (k : Int) := by omega
      have k1 : (k : Int) < (n : Int) := by omega
      have H1 := hide h
      have HX := hide hx
      clear h hx hcs
      obtain ⟨b1, hb1⟩ : ∃ b1, (x.m != 1) = b1 := ⟨_, rfl⟩
      obtain ⟨b2, hb2⟩ : ∃ b2, (m != 1) = b2 := ⟨_, rfl⟩
      have HB := hide (show softB m x = (b1 || b2) by unfold softB; rw [hb1, hb2])
      cases hb : (b1 || b2) with
      | true =>
        have E := hide (show (!l.any (softB m)) = false by
          rw [List.any_eq_true.2 ⟨x, List.mem_of_getElem? HX.out, by rw [HB.out, hb]⟩]
          rfl)
        cases b1 <;> cases b2 <;> first | cases hb | skip
        all_goals
          go_wp2_with fail
          go_ret
          exact ⟨by rw [E.out]; try rfl, H1.out⟩
      | false =>
        have HN2 := hide (show (l.take (k + 1)).any (softB m) = false by
          rw [List.take_add_one, HX.out, List.any_append, HNO.out]
          simp [HB.out, hb])
        cases b1 <;> cases b2 <;> first | cases hb | skip
        go_wp2_with fail
        go_roundg (n - (k + 1))
        case measure => have := HG.out; omega
        case rel => exact ⟨k + 1, rfl, by omega, by go_num, HN2.out, H1.out⟩
    · obtain rfl : n = k := by omega
      have E := hide (show (!l.any (softB m)) = true by
        rw [← List.take_of_length_le (l := l) (i := n) (by rw [← HN.out]; exact Nat.le_refl _), HNO.out]
        rfl)
      have H1 := hide h
      clear h
      go_wp2_with fail
      go_ret
      exact ⟨by rw [E.out]; try rfl, H1.out⟩
end Go.Proofs.Ytbgknfdaaffeaaa
/- Locks, the document: Asked. -/
namespace Go.Proofs.Ytbgknfdaaffeaaa
open Go.RowKit Go.Shelf

theorem there_no {r : Int} (h : ¬ (0 ≤ r ∧ r ≤ 3)) : thereB r = false := by
  unfold thereB
  cases h1 : decide (0 ≤ r) <;> cases h2 : decide (r < 4) <;> simp at h1 h2 ⊢
  omega
set_option maxHeartbeats 4000000 in
set_option maxRecDepth 100000 in
theorem rasked_st {M0 : Imm} {L : List Res} (g : Nat) (T : TabM) (r : Int) (w : World) (hok : ∀ i, i < 4 → RegOk (T.r i)) (h : St M0 w (docR g T :: L)) :
    Calls Try.prog 122 #[.pointer (some ⟨g, 0, none⟩), .int .i64 r] w fun e w' => ∃ v, e = .returned v ∧ St M0 w' (intsR .i64 v (T.asked r) :: docR g T :: L) := by
  by_cases hr : 0 ≤ r ∧ r ≤ 3
  · obtain ⟨i, rfl⟩ := Int.eq_ofNat_of_zero_le hr.1
    have hi4 : i < 4 := by omega
    have E0 := hide (show T.asked (i : Int) = match (T.r i).w with
      | [] => []
      | w :: _ => ((T.r i).h.filter (hardB w.m)).map HoldM.c from if_pos (by unfold thereB; simp; omega))
    have d1 : decide ((i : Int) < 0) = false := decide_eq_false (by omega)
    have d2 : decide ((i : Int) > 3) = false := decide_eq_false (by omega)
    have d2' : decide ((3 : Int) < (i : Int)) = false := d2
    have i0 : (0 : Int) ≤ (i : Int) := by omega
    have i1 : (i : Int) < 4 := by omega
    have HOK := hide (hok i hi4)
    obtain ⟨vs, h3⟩ := h.docO
    obtain ⟨⟨A, n, c⟩, ⟨B, m, d⟩, hvi⟩ : ∃ hv wv, vs i = ⟨hv, wv⟩ := ⟨_, _, rfl⟩
    have HVI := hide hvi
    have HTH := hide (show (docC T.now T.last vs)[2 + i]? = some (.slice A n c) by refine (docC_h T.now T.last vs hi4).trans ?_; rw [hvi])
    have HTW := hide (show (docC T.now T.last vs)[6 + i]? = some (.slice B m d) by refine (docC_w T.now T.last vs hi4).trans ?_; rw [hvi])
    have cw : w.cell? ⟨g, 6 + i, none⟩ = some (.slice B m d) := ((h3.blk 0 rfl).cell (6 + i)).trans HTW.out
    have ch : w.cell? ⟨g, 2 + i, none⟩ = some (.slice A n c) := ((h3.blk 0 rfl).cell (2 + i)).trans HTH.out
    obtain ⟨hs, hhs⟩ : ∃ hs, hs = (T.r i).h := ⟨_, rfl⟩
    obtain ⟨wl, hwl⟩ : ∃ wl, wl = (T.r i).w := ⟨_, rfl⟩
    have hV : ∀ W, docP vs T.r W → FlatP holdC 4 W (.slice A n c) hs ∧ FlatP wantC 2 W (.slice B m d) wl := fun W hW => by
      have := hW i hi4
      rw [hvi, ← hhs, ← hwl] at this
      exact this
    have HV := hide hV
    have hf := hV _ (h3.get 1 rfl)
    obtain ⟨hn0, hnc, hcm, _⟩ := hf.1.sl
    obtain ⟨hm0, hmd, hdm, _⟩ := hf.2.sl
    have hn : n = hs.length := hn0
    have hm : m = wl.length := hm0
    have hn4 : n ≤ 4 := by have := HOK.out.hl; rw [← hhs] at this; omega
    have HN := hide hn
    have HM := hide hm
    have HHS := hide hhs
    have HWL := hide hwl
    have HOKH := hide (show ∀ x ∈ hs, modeB x.m = true by rw [hhs]; exact fun x hx => (HOK.out.h x hx).2.1)
    have HOKW := hide (show ∀ x ∈ wl, modeB x.m = true by rw [hwl]; exact fun x hx => (HOK.out.w x hx).2)
    have H3 := hide h3
    clear h h3 hok hvi hf hn0 hm0 hn hm hhs hwl hV hr
    go_enter Try.func122, Try.ntmps122
    cases hws : wl with
    | nil =>
      have hm0 : m = 0 := by have := HM.out; rw [hws] at this; exact this
      subst hm0
      have E := hide (E0.out.trans (by rw [← HWL.out, hws]))
      clear hws E0
      go_wp2_with fail
      go_ret
      exact ⟨_, rfl, by rw [E.out]; exact (H3.out.docCl).pers0 (fun w' _ => Ints.none_ w' _)⟩
    | cons x ws =>
      have hm1 : m = ws.length + 1 := by have := HM.out; rw [hws] at this; exact this
      have m0 : (0 : Int) < (m : Int) := by omega
      have m1 : ((m : Int) == 0) = false := isF (by omega)
      have HE := hide (E0.out.trans (show _ = (hs.filter (hardB x.m)).map HoldM.c by rw [← HWL.out, hws, ← HHS.out]))
      have HXM := hide (show modeB x.m = true from HOKW.out x (by rw [hws]; simp))
      have HX0 := hide (show wl[0]? = some x by rw [hws]; rfl)
      have H4 := hide (H3.out.nilRow 3 1)
      clear H3 E0 hws hm1
      go_wp2_with fail
      clear ch cw
      go_loopg [5, 6] n (fun gh ov iv wr => ∃ (k q : Nat) (C : Option Addr) (ce : Nat) (xs : List Int), gh = n - k ∧ k ≤ n ∧ ov = .slice C q ce ∧ iv = .int .i64 (k : Nat) ∧ q = xs.length ∧ q ≤ k ∧ xs = ((hs.take k).filter (hardB x.m)).map HoldM.c ∧
        St M0 wr (rowR 3 1 (.slice C q ce) q (xs.map (.int .i64)) :: docB g T.now T.last vs :: docS vs T.r :: L))
      case atStart => exact ⟨0, 0, none, 0, [], rfl, by omega, rfl, rfl, rfl, by omega, rfl, H4.out⟩
      case round =>
        clear H4
        obtain ⟨k, q, C, ce, xs, hg, hk, rfl, rfl, hq, hqk, hxs, h⟩ := hrel
        have HG := hide hg
        have HQ := hide hq
        have HXS := hide hxs
        have ch : wr.cell? ⟨g, 2 + i, none⟩ = some (.slice A n c) := ((h.blk 1 rfl).cell (2 + i)).trans HTH.out
        clear hg hq hxs
        by_cases hlt : k < n
        · have hx := List.getElem?_eq_getElem (l := hs) (i := k) (by rw [← HN.out]; exact hlt)
          generalize hs[k]'(by rw [← HN.out]; exact hlt) = z at hx
          have cw : wr.cell? ⟨g, 6 + i, none⟩ = some (.slice B m d) := ((h.blk 1 rfl).cell (6 + i)).trans HTW.out
          have hf := HV.out _ (h.get 2 rfl)
          obtain ⟨adB, hB, hcB⟩ := hf.2.at_ wantC_len HX0.out
          rw [addW0] at hcB
          obtain ⟨f0, f1⟩ := cells2F hcB
          obtain ⟨ad2, hA, hcs⟩ := hf.1.at_ holdC_len hx
          subst hB
          subst hA
          obtain ⟨e0, e1, e2, e3⟩ := cells4F hcs
          have HT := hide (show ((hs.take (k + 1)).filter (hardB x.m)).map HoldM.c = xs ++ if hardB x.m z = true then [z.c] else [] by
            rw [List.take_add_one, hx, List.filter_append, List.map_append, ← HXS.out]
            show xs ++ (List.filter (hardB x.m) [z]).map HoldM.c = _
            cases hb : hardB x.m z <;> simp [List.filter, hb])
          have HSB := hide (softB_hard (HOKH.out z (List.mem_of_getElem? hx)) HXM.out)
          have HX := hide hx
          have k0 : (0 : Int) ≤ (k : Int) := by omega
          have k1 : (k : Int) < (n : Int) := by omega
          have kw : IntKind.i64.wrap ((k : Int) + 1) = (k : Int) + 1 := IntWalk.i64_in _ (by omega)
          have k2 : (k : Int) + 1 ≤ (c : Int) := by omega
          have k3 : (k : Int) ≤ (k : Int) + 1 := by omega
          have m2 : 0 < m := by omega
          have hck : ¬ c = k := by omega
          have H5 := hide h
          clear h hx hcs hcB hf
          go_wp2_with fail
          refine region_tail 19 (by kernel_rfl) (by kernel_rfl) (fun W hW => ?_)
          have H6 := hide (H5.out.drew)
          rw [← hW] at H6
          have g0 : W.cell? ⟨g, 2 + i, none⟩ = some (.slice (some ad2) n c) := by rw [hW]; exact ch
          have g1 : W.cell? ⟨g, 6 + i, none⟩ = some (.slice (some adB) m d) := by rw [hW]; exact cw
          have g2 : W.cell? ⟨adB.block, adB.off + 1, none⟩ = some (.int .i64 x.m) := by rw [hW]; exact f1
          clear hW H5 ch cw e0 e1 e2 e3 f0 f1
          simp only [List.take_succ_cons, List.take_zero, List.drop_succ_cons, List.drop_zero]
          repeat still_step
          try refine wpStill_nil ?_
          go_wp2_with fail
          have HFO := hide (fun (W' : World) (hw : St M0 W' (rowR 3 1 (.slice C q ce) q (xs.map (.int .i64)) :: docB g T.now T.last vs :: docS vs T.r :: L)) => ((HV.out _ (hw.get 2 rfl)).1).one holdC_len HX.out)
          refine (bearsR_st (some (ad2.add (k * 4))) 1 (c - k) [z] x.m _ HFO.out H6.out).mono ?_
          rintro e w5 ⟨rfl, h⟩
          rw [show (!([z] : List HoldM).any (softB x.m)) = !hardB x.m z by rw [← HSB.out]; simp]
          obtain ⟨ad3, hae, hcs⟩ := (HV.out _ (h.get 2 rfl)).1.at_ holdC_len HX.out
          cases hae
          obtain ⟨e0, e1, e2, e3⟩ := cells4F hcs
          have ch : w5.cell? ⟨g, 2 + i, none⟩ = some (.slice (some ad2) n c) := ((h.blk 1 rfl).cell (2 + i)).trans HTH.out
          cases hb : hardB x.m z with
          | true =>
            have HT2 := hide (show ((hs.take (k + 1)).filter (hardB x.m)).map HoldM.c = xs ++ [z.c] by rw [HT.out, hb]; rfl)
            have h5 := (h.alloc 3 #[.int .i64 z.c]).swap
            have HB := hide (h5.blk 1 rfl)
            have H7 := hide h5
            clear h h5 H6 g0 g1 g2 hcs HT
            go_wp2_with (at_builtin; refine St.app_step intK_row H7.out rfl _ _ rfl rfl (some ⟨w5.heap.size, 0, none⟩) 1 1 rfl [.int .i64 z.c] (sl_blkT (cs := [.int .i64 z.c]) HB.out) (by intro u hu; simp at hu; subst hu; rfl) (by omega) (by omega) ?_; intro A6 c6 w7 h9)
            have h10 := h9.sub (L' := rowR 3 1 (.slice A6 (q + 1) c6) (q + 1) (xs.map (.int .i64) ++ [.int .i64 z.c]) :: docB g T.now T.last vs :: docS vs T.r :: L) (by (repeat (first | with_reducible exact Sub.refl _ | (with_reducible apply Sub.take; focus (repeat (first | with_reducible exact At.here | with_reducible apply At.there))) | with_reducible apply Sub.drop)))
            rw [show xs.map (Value.int .i64) ++ [.int .i64 z.c] = (xs ++ [z.c]).map (.int .i64) by rw [List.map_append]; rfl] at h10
            have H10 := hide h10
            clear h9 h10 H7 HB ch e0 e1 e2 e3
            go_wp2_with fail
            go_roundg (n - (k + 1))
            case measure => have := HG.out; omega
            case rel => exact ⟨k + 1, q + 1, A6, c6, xs ++ [z.c], rfl, by omega, rfl, by go_num, by rw [List.length_append, ← HQ.out]; rfl, by omega, HT2.out.symm, H10.out⟩
          | false =>
            have HT2 := hide (show ((hs.take (k + 1)).filter (hardB x.m)).map HoldM.c = xs by rw [HT.out, hb]; exact List.append_nil _)
            have H7 := hide h
            clear h H6 g0 g1 g2 hcs HT ch e0 e1 e2 e3
            go_wp2_with fail
            go_roundg (n - (k + 1))
            case measure => have := HG.out; omega
            case rel => exact ⟨k + 1, q, C, ce, xs, rfl, by omega, rfl, by go_num, HQ.out, by omega, HT2.out.symm, H7.out⟩
        · obtain rfl : n = k := by omega
          have E := hide (HE.out.trans (show _ = xs by rw [HXS.out, List.take_of_length_le (by rw [← HN.out]; exact Nat.le_refl _)]))
          have H5 := hide ((St.ints (xs := xs) h).sub (L' := docB g T.now T.last vs :: docS vs T.r :: intsR .i64 (.slice C q ce) xs :: L) (by (repeat (first | with_reducible exact Sub.refl _ | (with_reducible apply Sub.take; focus (repeat (first | with_reducible exact At.here | with_reducible apply At.there))) | with_reducible apply Sub.drop)))).docCl.swap
          clear h
          go_wp2_with fail
          go_ret
          exact ⟨_, rfl, by rw [E.out]; exact H5.out⟩
  · have E := hide (show T.asked r = [] from if_neg (by rw [there_no hr]; exact Bool.false_ne_true))
    have H := hide h
    obtain ⟨b1, hb1⟩ : ∃ b1, decide (r < 0) = b1 := ⟨_, rfl⟩
    obtain ⟨b2, hb2⟩ : ∃ b2, decide (r > 3) = b2 := ⟨_, rfl⟩
    have hb2' : decide (3 < r) = b2 := hb2
    have hbb : (b1 || b2) = true := by
      rw [← hb1, ← hb2]
      simp
      omega
    clear h hr hok
    go_enter Try.func122, Try.ntmps122
    cases b1 <;> cases b2 <;> first | (exact absurd hbb (by decide)) | skip
    all_goals
      clear hbb
      go_wp2_with fail
      go_ret
      exact ⟨_, rfl, by rw [E.out]; exact H.out.pers0 (fun w' _ => Ints.none_ w' _)⟩
end Go.Proofs.Ytbgknfdaaffeaaa
/- Locks, the document: fine. -/
namespace Go.Proofs.Ytbgknfdaaffeaaa
open Go.RowKit Go.Shelf

theorem Ints.at_ {w : World} {k : IntKind} {A : Option Addr} {n c j : Nat} {x : Int} {xs : List Int} (h : Ints w k (.slice A n c) xs) (hj : xs[j]? = some x) : ∃ ad, A = some ad ∧ w.cell? (ad.add j) = some (.int k x) := by
  obtain ⟨h0, _, _, hs⟩ := h.sl
  have hlt := (List.getElem?_eq_some_iff.1 hj).1
  obtain ⟨ad, u, e, _, _, hu, hc⟩ := hs.at_ (k := j) (by omega)
  rw [List.getElem?_map, hj] at hu
  obtain rfl : Value.int k x = u := by simpa using hu
  exact ⟨ad, e, hc⟩
set_option maxHeartbeats 8000000 in
set_option maxRecDepth 100000 in
theorem fine_st {M0 : Imm} {L : List Res} (g i : Nat) (now last : Int) (vs : Nat → RegV) (r : Nat → RegM) (w : World) (hi4 : i < 4) (h : St M0 w (docB g now last vs :: docS vs r :: L)) :
    Calls Try.prog 117 #[.pointer (some ⟨g, 0, none⟩), .int .i64 (i : Nat)] w fun e w' => e = .returned (.bool (fineB last (r i))) ∧ St M0 w' (docB g now last vs :: docS vs r :: L) := by
  have i0 : (0 : Int) ≤ (i : Int) := by omega
  have i1 : (i : Int) < 4 := by omega
  obtain ⟨⟨A, n, c⟩, ⟨B, m, d⟩, hvi⟩ : ∃ hv wv, vs i = ⟨hv, wv⟩ := ⟨_, _, rfl⟩
  obtain ⟨hs, ws, hri⟩ : ∃ hs ws, r i = ⟨hs, ws⟩ := ⟨_, _, rfl⟩
  have HTH := hide (show (docC now last vs)[2 + i]? = some (.slice A n c) by refine (docC_h now last vs hi4).trans ?_; rw [hvi])
  have HTW := hide (show (docC now last vs)[6 + i]? = some (.slice B m d) by refine (docC_w now last vs hi4).trans ?_; rw [hvi])
  have cw : w.cell? ⟨g, 6 + i, none⟩ = some (.slice B m d) := ((h.blk 0 rfl).cell (6 + i)).trans HTW.out
  have ch : w.cell? ⟨g, 2 + i, none⟩ = some (.slice A n c) := ((h.blk 0 rfl).cell (2 + i)).trans HTH.out
  have hV : ∀ W, docP vs r W → FlatP holdC 4 W (.slice A n c) hs ∧ FlatP wantC 2 W (.slice B m d) ws := fun W hW => by
    have := hW i hi4
    rw [hvi, hri] at this
    exact this
  have HV := hide hV
  have hf := hV _ (h.get 1 rfl)
  obtain ⟨hn0, hnc, hcm, _⟩ := hf.1.sl
  obtain ⟨hm0, hmd, hdm, _⟩ := hf.2.sl
  have hn : n = hs.length := hn0
  have hm : m = ws.length := hm0
  rw [hri]
  obtain ⟨many, hmany⟩ : ∃ many, decide (1 < n) = many := ⟨_, rfl⟩
  have HC0 := hide (show fineB last ⟨hs, ws⟩ = (decide (n ≤ 4) && decide (m ≤ 4) && hs.all (holdFine many last) && ws.all wantFine && whoOk (hs.map HoldM.c ++ ws.map WantM.c)) by rw [← hmany, hn, hm]; rfl)
  obtain ⟨fb, hfb⟩ : ∃ fb, fb = fineB last ⟨hs, ws⟩ := ⟨_, rfl⟩
  rw [← hfb] at HC0 ⊢
  have HN := hide hn
  have HM := hide hm
  have H := hide h
  clear h hvi hri hV hf hn0 hm0 hn hm hfb
  go_enter Try.func117, Try.ntmps117
  by_cases hn4 : n ≤ 4
  case' neg =>
    have d1 : decide ((n : Int) > 4) = true := decide_eq_true (by omega)
    have d1' : decide ((4 : Int) < (n : Int)) = true := d1
    have E := hide (show fb = false by rw [HC0.out, decide_eq_false hn4]; rfl)
    clear hn4
    go_wp2_with fail
    go_ret
    exact ⟨by rw [E.out]; try rfl, H.out⟩
  case pos =>
    have d1 : decide ((n : Int) > 4) = false := decide_eq_false (by omega)
    have d1' : decide ((4 : Int) < (n : Int)) = false := d1
    by_cases hm4 : m ≤ 4
    case' neg =>
      have d2 : decide ((m : Int) > 4) = true := decide_eq_true (by omega)
      have d2' : decide ((4 : Int) < (m : Int)) = true := d2
      have E := hide (show fb = false by rw [HC0.out, decide_eq_false hm4, Bool.and_false]; rfl)
      clear hm4
      go_wp2_with fail
      go_ret
      exact ⟨by rw [E.out]; try rfl, H.out⟩
    case pos =>
      have d2 : decide ((m : Int) > 4) = false := decide_eq_false (by omega)
      have d2' : decide ((4 : Int) < (m : Int)) = false := d2
      have HC := hide (show fb = (hs.all (holdFine many last) && ws.all wantFine && whoOk (hs.map HoldM.c ++ ws.map WantM.c)) by rw [HC0.out, decide_eq_true hn4, decide_eq_true hm4]; simp)
      have H1 := hide (H.out.nilRow 3 1)
      obtain ⟨d4, hd4⟩ : ∃ d4, decide ((n : Int) > 1) = d4 := ⟨_, rfl⟩
      have hd4' : decide ((1 : Int) < (n : Int)) = d4 := hd4
      have HMD := hide (show many = d4 by rw [← hmany, ← hd4]; exact decide_eq_decide.2 (by omega))
      clear H HC0 hmany
      go_wp2_with fail
      clear ch cw d1 d1' d2 d2'
      go_loopg [5, 6] n (fun gh sv iv wr => ∃ (k q : Nat) (C : Option Addr) (ce : Nat) (xs : List Int), gh = n - k ∧ k ≤ n ∧ sv = .slice C q ce ∧ iv = .int .i64 (k : Nat) ∧ q = xs.length ∧ q ≤ k ∧ xs = (hs.take k).map HoldM.c ∧ (hs.take k).all (holdFine many last) = true ∧
        St M0 wr (rowR 3 1 (.slice C q ce) q (xs.map (.int .i64)) :: docB g now last vs :: docS vs r :: L))
      case atStart => exact ⟨0, 0, none, 0, [], rfl, by omega, rfl, rfl, rfl, by omega, rfl, by simp, H1.out⟩
      case round =>
        clear H1
        obtain ⟨k, q, C, ce, xs, hg, hk, rfl, rfl, hq, hqk, hxs, hall, h⟩ := hrel
        have HG := hide hg
        have HQ := hide hq
        have HXS := hide hxs
        have HALL := hide hall
        clear hg hq hxs hall
        have ch : wr.cell? ⟨g, 2 + i, none⟩ = some (.slice A n c) := ((h.blk 1 rfl).cell (2 + i)).trans HTH.out
        by_cases hlt : k < n
        · have hx := List.getElem?_eq_getElem (l := hs) (i := k) (by rw [← HN.out]; exact hlt)
          generalize hs[k]'(by rw [← HN.out]; exact hlt) = z at hx
          obtain ⟨ad, hA, hcs⟩ := (HV.out _ (h.get 2 rfl)).1.at_ holdC_len hx
          subst hA
          obtain ⟨e0, e1, e2, e3⟩ := cells4F hcs
          obtain ⟨d1, hd1⟩ : ∃ d1, decide (z.m < 1) = d1 := ⟨_, rfl⟩
          obtain ⟨d2, hd2⟩ : ∃ d2, decide (z.m > 2) = d2 := ⟨_, rfl⟩
          have hd2' : decide (2 < z.m) = d2 := hd2
          obtain ⟨b3, hb3⟩ : ∃ b3, (z.m == 2) = b3 := ⟨_, rfl⟩
          obtain ⟨b5, hb5⟩ : ∃ b5, (z.t == 0) = b5 := ⟨_, rfl⟩
          obtain ⟨d6, hd6⟩ : ∃ d6, decide (z.t > last) = d6 := ⟨_, rfl⟩
          have hd6' : decide (last < z.t) = d6 := hd6
          have HF := hide (show holdFine many last z = (!d1 && !d2 && !(b3 && d4) && !b5 && !d6) by unfold holdFine; rw [hd1, hd2, hb3, HMD.out, hb5, hd6])
          have HE := hide (show holdFine many last z = false → fb = false from fun hz => by
            rw [HC.out]
            have : hs.all (holdFine many last) = false := by
              rw [List.all_eq_false]
              exact ⟨z, List.mem_of_getElem? hx, by rw [hz]; exact Bool.false_ne_true⟩
            rw [this]
            rfl)
          have HX2 := hide (show (hs.take (k + 1)).map HoldM.c = xs ++ [z.c] by rw [HXS.out, List.take_add_one, hx]; simp)
          have HA2 := hide (show holdFine many last z = true → (hs.take (k + 1)).all (holdFine many last) = true from fun hz => by rw [List.take_add_one, hx, List.all_append, HALL.out]; simp [hz])
          have k0 : (0 : Int) ≤ (k : Int) := by omega
          have k1 : (k : Int) < (n : Int) := by omega
          have h4 := h.alloc 91 #[.int .i64 z.c, .int .i64 z.m, .int .u64 z.t, .int .u64 z.u]
          generalize hy : wr.heap.size = y at h4
          have HY := hide hy
          have H4 := hide h4
          clear h h4 hx hcs hy
          go_wp2_with fail
          rw [HY.out]
          clear e0 e1 e2 e3 ch HY
          have hg4 := H4.out
          have y0 := (hg4.blk 0 rfl).cell 0
          have y1 := (hg4.blk 0 rfl).cell 1
          have y2 := (hg4.blk 0 rfl).cell 2
          have cl := (hg4.blk 2 rfl).cell 1
          have ch := ((hg4.blk 2 rfl).cell (2 + i)).trans HTH.out
          clear hg4
          cases d1
          case' false => cases d2
          case' false.false => cases b3
          case' false.false.true => cases d4
          case' false.false.false => cases b5
          case' false.false.false.false => cases d6
          case' false.false.true.false => cases b5
          case' false.false.true.false.false => cases d6
          case' false.false.false.false.false => have HGO := hide (HA2.out HF.out)
          case' false.false.true.false.false.false => have HGO := hide (HA2.out HF.out)
          case true =>
            have E := hide (HE.out HF.out)
            clear HA2 HE
            go_wp2_with fail
            go_quiet (fail)
            go_wp2_with fail
            go_ret
            exact ⟨by rw [E.out]; try rfl, (H4.out.tail.tail.drewN _)⟩
          case false.true =>
            have E := hide (HE.out HF.out)
            clear HA2 HE
            go_wp2_with fail
            go_quiet (fail)
            go_wp2_with fail
            go_ret
            exact ⟨by rw [E.out]; try rfl, (H4.out.tail.tail.drewN _)⟩
          case false.false.true.true =>
            have E := hide (HE.out HF.out)
            clear HA2 HE
            go_wp2_with fail
            go_quiet (fail)
            go_wp2_with fail
            go_ret
            exact ⟨by rw [E.out]; try rfl, (H4.out.tail.tail.drewN _)⟩
          case false.false.false.true =>
            have E := hide (HE.out HF.out)
            clear HA2 HE
            go_wp2_with fail
            go_quiet (fail)
            go_wp2_with fail
            go_ret
            exact ⟨by rw [E.out]; try rfl, (H4.out.tail.tail.drewN _)⟩
          case false.false.false.false.true =>
            have E := hide (HE.out HF.out)
            clear HA2 HE
            go_wp2_with fail
            go_quiet (fail)
            go_wp2_with fail
            go_ret
            exact ⟨by rw [E.out]; try rfl, (H4.out.tail.tail.drewN _)⟩
          case false.false.true.false.true =>
            have E := hide (HE.out HF.out)
            clear HA2 HE
            go_wp2_with fail
            go_quiet (fail)
            go_wp2_with fail
            go_ret
            exact ⟨by rw [E.out]; try rfl, (H4.out.tail.tail.drewN _)⟩
          case false.false.true.false.false.true =>
            have E := hide (HE.out HF.out)
            clear HA2 HE
            go_wp2_with fail
            go_quiet (fail)
            go_wp2_with fail
            go_ret
            exact ⟨by rw [E.out]; try rfl, (H4.out.tail.tail.drewN _)⟩
          all_goals
            clear HE HA2
            go_wp2_with fail
            go_quiet (fail)
            have h5 := H4.out.drewN nq
            clear y0 y1 y2 cl ch H4
            generalize hwd : World.drewN _ nq = wd at h5 ⊢
            clear hwd
            have y0 := (h5.blk 0 rfl).cell 0
            have h7 := ((h5.front (X := rowR 3 1 (.slice C q ce) q (xs.map (.int .i64))) (by (repeat (first | with_reducible exact At.here | with_reducible apply At.there)))).alloc 3 #[.int .i64 z.c]).swap
            have HB := hide (h7.blk 1 rfl)
            have H7 := hide h7
            clear h7 h5
            go_wp2_with (at_builtin; refine St.app_step intK_row H7.out rfl _ _ rfl rfl (some ⟨wd.heap.size, 0, none⟩) 1 1 rfl [.int .i64 z.c] (sl_blkT (cs := [.int .i64 z.c]) HB.out) (by intro u hu; simp at hu; subst hu; rfl) (by omega) (by omega) ?_; intro A6 c6 w7 h9)
            have h10 := h9.sub (L' := rowR 3 1 (.slice A6 (q + 1) c6) (q + 1) (xs.map (.int .i64) ++ [.int .i64 z.c]) :: docB g now last vs :: docS vs r :: L) (by (repeat (first | with_reducible exact Sub.refl _ | (with_reducible apply Sub.take; focus (repeat (first | with_reducible exact At.here | with_reducible apply At.there))) | with_reducible apply Sub.drop)))
            rw [show xs.map (Value.int .i64) ++ [.int .i64 z.c] = (xs ++ [z.c]).map (.int .i64) by rw [List.map_append]; rfl] at h10
            have H10 := hide h10
            clear h9 h10 H7 HB y0
            go_wp2_with fail
            go_roundg (n - (k + 1))
            case measure => have := HG.out; omega
            case rel => exact ⟨k + 1, q + 1, A6, c6, xs ++ [z.c], rfl, by omega, rfl, by go_num, by rw [List.length_append, ← HQ.out]; rfl, by omega, HX2.out.symm, HGO.out, H10.out⟩
        · obtain rfl : n = k := by omega
          have HAH := hide (show hs.all (holdFine many last) = true by rw [← List.take_of_length_le (l := hs) (i := n) (by rw [← HN.out]; exact Nat.le_refl _)]; exact HALL.out)
          have HXH := hide (show xs = hs.map HoldM.c by rw [HXS.out, List.take_of_length_le (by rw [← HN.out]; exact Nat.le_refl _)])
          have hqn : q = n := by rw [HQ.out, HXH.out, List.length_map, ← HN.out]
          have cw : wr.cell? ⟨g, 6 + i, none⟩ = some (.slice B m d) := ((h.blk 1 rfl).cell (6 + i)).trans HTW.out
          have H5 := hide h
          clear h HXS HALL HG
          go_wp2_with fail
          clear ch cw
          go_loopg [5, 8] m (fun gh sv iv wr => ∃ (k q : Nat) (C : Option Addr) (ce : Nat) (xs : List Int), gh = m - k ∧ k ≤ m ∧ sv = .slice C q ce ∧ iv = .int .i64 (k : Nat) ∧ q = xs.length ∧ q ≤ 4 + k ∧ xs = hs.map HoldM.c ++ (ws.take k).map WantM.c ∧ (ws.take k).all wantFine = true ∧
            St M0 wr (rowR 3 1 (.slice C q ce) q (xs.map (.int .i64)) :: docB g now last vs :: docS vs r :: L))
          case atStart => exact ⟨0, q, C, ce, xs, rfl, by omega, rfl, rfl, HQ.out, by omega, by rw [HXH.out]; simp, by simp, H5.out⟩
          case round =>
            clear H5 HXH HQ hqn hqk
            clear q C ce xs
            obtain ⟨k, q, C, ce, xs, hg, hk, rfl, rfl, hq, hqk, hxs, hall, h⟩ := hrel
            have HG := hide hg
            have HQ := hide hq
            have HXS := hide hxs
            have HALL := hide hall
            clear hg hq hxs hall
            have cw : wr.cell? ⟨g, 6 + i, none⟩ = some (.slice B m d) := ((h.blk 1 rfl).cell (6 + i)).trans HTW.out
            by_cases hlt : k < m
            · have hx := List.getElem?_eq_getElem (l := ws) (i := k) (by rw [← HM.out]; exact hlt)
              generalize ws[k]'(by rw [← HM.out]; exact hlt) = z at hx
              obtain ⟨ad, hA, hcs⟩ := (HV.out _ (h.get 2 rfl)).2.at_ wantC_len hx
              subst hA
              obtain ⟨e0, e1⟩ := cells2F hcs
              obtain ⟨d1, hd1⟩ : ∃ d1, decide (z.m < 1) = d1 := ⟨_, rfl⟩
              obtain ⟨d2, hd2⟩ : ∃ d2, decide (z.m > 2) = d2 := ⟨_, rfl⟩
              have hd2' : decide (2 < z.m) = d2 := hd2
              have HF := hide (show wantFine z = (!d1 && !d2) by unfold wantFine; rw [hd1, hd2])
              have HE := hide (show wantFine z = false → fb = false from fun hz => by
                rw [HC.out]
                have : ws.all wantFine = false := by
                  rw [List.all_eq_false]
                  exact ⟨z, List.mem_of_getElem? hx, by rw [hz]; exact Bool.false_ne_true⟩
                rw [this, Bool.and_false]
                rfl)
              have HX2 := hide (show hs.map HoldM.c ++ (ws.take (k + 1)).map WantM.c = xs ++ [z.c] by rw [HXS.out, List.take_add_one, hx]; simp)
              have HA2 := hide (show wantFine z = true → (ws.take (k + 1)).all wantFine = true from fun hz => by rw [List.take_add_one, hx, List.all_append, HALL.out]; simp [hz])
              have k0 : (0 : Int) ≤ (k : Int) := by omega
              have k1 : (k : Int) < (m : Int) := by omega
              have h4 := h.alloc 87 #[.int .i64 z.c, .int .i64 z.m]
              generalize hy : wr.heap.size = y at h4
              have HY := hide hy
              have H4 := hide h4
              clear h h4 hx hcs hy
              cases d1 with
              | true =>
                have E := hide (HE.out HF.out)
                go_wp2_with fail
                go_ret
                exact ⟨by rw [E.out]; try rfl, H4.out.tail.tail⟩
              | false =>
               cases d2 with
               | true =>
                have E := hide (HE.out HF.out)
                go_wp2_with fail
                go_ret
                exact ⟨by rw [E.out]; try rfl, H4.out.tail.tail⟩
               | false =>
                have HGO := hide (HA2.out HF.out)
                have h7 := ((H4.out.front (X := rowR 3 1 (.slice C q ce) q (xs.map (.int .i64))) (by (repeat (first | with_reducible exact At.here | with_reducible apply At.there)))).alloc 3 #[.int .i64 z.c]).swap
                rw [World.size_alloc, HY.out] at h7
                have HB := hide (h7.blk 1 rfl)
                have H7 := hide h7
                clear h7 H4 HE HA2
                go_wp2_with (at_builtin; refine St.app_step intK_row H7.out rfl _ _ rfl rfl (some ⟨y + 1, 0, none⟩) 1 1 (by rw [HY.out]; rfl) [.int .i64 z.c] (sl_blkT (cs := [.int .i64 z.c]) HB.out) (by intro u hu; simp at hu; subst hu; rfl) (by omega) (by omega) ?_; intro A6 c6 w7 h9)
                have h10 := h9.sub (L' := rowR 3 1 (.slice A6 (q + 1) c6) (q + 1) (xs.map (.int .i64) ++ [.int .i64 z.c]) :: docB g now last vs :: docS vs r :: L) (by (repeat (first | with_reducible exact Sub.refl _ | (with_reducible apply Sub.take; focus (repeat (first | with_reducible exact At.here | with_reducible apply At.there))) | with_reducible apply Sub.drop)))
                rw [show xs.map (Value.int .i64) ++ [.int .i64 z.c] = (xs ++ [z.c]).map (.int .i64) by rw [List.map_append]; rfl] at h10
                have H10 := hide h10
                clear h9 h10 H7 HB e0 e1 cw
                go_wp2_with fail
                go_roundg (m - (k + 1))
                case measure => have := HG.out; omega
                case rel => exact ⟨k + 1, q + 1, A6, c6, xs ++ [z.c], rfl, by omega, rfl, by go_num, by rw [List.length_append, ← HQ.out]; rfl, by omega, HX2.out.symm, HGO.out, H10.out⟩
            · obtain rfl : m = k := by omega
              have HC2 := hide (show fb = whoOk xs by
                rw [HC.out, HAH.out, HXS.out]
                rw [List.take_of_length_le (by rw [← HM.out]; exact Nat.le_refl _)] at HALL ⊢
                rw [HALL.out]
                rfl)
              have H5 := hide (St.ints (xs := xs) h)
              clear h HXS HALL HG HC
              go_wp2_with fail
              clear cw
              go_loopg [10] q (fun gh iv wr => ∃ (k : Nat), gh = q - k ∧ k ≤ q ∧ iv = .int .i64 (k : Nat) ∧ whoOk (xs.take k) = true ∧ St M0 wr (intsR .i64 (.slice C q ce) xs :: docB g now last vs :: docS vs r :: L))
              case atStart => exact ⟨0, rfl, by omega, rfl, rfl, H5.out⟩
              case round =>
                clear H5
                obtain ⟨k, hg, hk, rfl, hwho, h⟩ := hrel
                have HG := hide hg
                have HWHO := hide hwho
                clear hg hwho
                by_cases hlt : k < q
                · have hx := List.getElem?_eq_getElem (l := xs) (i := k) (by rw [← HQ.out]; exact hlt)
                  generalize xs[k]'(by rw [← HQ.out]; exact hlt) = z at hx
                  obtain ⟨ad, rfl, _⟩ := Ints.at_ (h.get 0 rfl) hx
                  have HX := hide hx
                  have HS := hide (show whoOk (xs.take (k + 1)) = (!(xs.take k).contains z && decide (z ≤ 15)) by rw [List.take_add_one, hx]; show whoOk (xs.take k ++ [z]) = _; rw [whoOk_snoc, HWHO.out]; rfl)
                  have k0 : (0 : Int) ≤ (k : Int) := by omega
                  have k1 : (k : Int) < (q : Int) := by omega
                  have H5 := hide h
                  clear h hx
                  go_wp2_with fail
                  go_loopg [11] k (fun gh jv wr => ∃ (j : Nat), gh = k - j ∧ j ≤ k ∧ jv = .int .i64 (j : Nat) ∧ (∀ a ∈ xs.take j, a ≠ z) ∧ St M0 wr (intsR .i64 (.slice (some ad) q ce) xs :: docB g now last vs :: docS vs r :: L))
                  case atStart => exact ⟨0, rfl, by omega, rfl, fun a ha => by simp at ha, H5.out⟩
                  case round =>
                    clear H5
                    obtain ⟨j, hgj, hj, rfl, hno, h⟩ := hrel
                    have HGJ := hide hgj
                    have HNO := hide hno
                    clear hgj hno
                    obtain ⟨ad', hae, ek⟩ := Ints.at_ (h.get 0 rfl) HX.out
                    cases hae
                    by_cases hjk : j < k
                    · have hy := List.getElem?_eq_getElem (l := xs) (i := j) (by rw [← HQ.out]; omega)
                      generalize xs[j]'(by rw [← HQ.out]; omega) = y at hy
                      obtain ⟨ad', hae, ej⟩ := Ints.at_ (h.get 0 rfl) hy
                      cases hae
                      have j0 : (0 : Int) ≤ (j : Int) := by omega
                      have j1 : (j : Int) < (q : Int) := by omega
                      have j2 : (j : Int) < (k : Int) := by omega
                      have HY := hide hy
                      have H5 := hide h
                      clear h hy
                      by_cases hyz : z = y
                      · have b1 := isT hyz
                        have b2 := isT hyz.symm
                        have E := hide (show fb = false by
                          rw [HC2.out]
                          refine whoOk_take (k := k + 1) ?_
                          rw [HS.out]
                          have hm : z ∈ xs.take k := by
                            rw [hyz]
                            refine List.mem_of_getElem? (i := j) ?_
                            rw [List.getElem?_take, if_pos hjk]
                            exact HY.out
                          simp [List.contains_eq_mem, hm])
                        clear hyz
                        go_wp2_with fail
                        go_quiet (fail)
                        go_wp2_with fail
                        go_ret
                        exact ⟨by rw [E.out]; try rfl, H5.out.tail.drewN _⟩
                      · have b1 := isF hyz
                        have b2 := isF (fun e : y = z => hyz e.symm)
                        have HN2 := hide (show ∀ a ∈ xs.take (j + 1), a ≠ z from fun a ha => by
                          rw [List.take_add_one, HY.out] at ha
                          rcases List.mem_append.1 ha with ha | ha
                          · exact HNO.out a ha
                          · simp at ha
                            rw [ha]
                            exact fun e => hyz e.symm)
                        clear hyz
                        go_wp2_with fail
                        go_quiet (fail)
                        go_wp2_with fail
                        go_roundg (k - (j + 1))
                        case measure => have := HGJ.out; omega
                        case rel => exact ⟨j + 1, rfl, by omega, by go_num, HN2.out, H5.out.drewN _⟩
                    · obtain rfl : k = j := by omega
                      have HCT := hide (show (xs.take k).contains z = false by
                        rw [List.contains_eq_mem, decide_eq_false_iff_not]
                        exact fun hm => HNO.out z hm rfl)
                      have H5 := hide h
                      clear h
                      by_cases hz : z ≤ 15
                      · have b1 : decide (z > 15) = false := decide_eq_false (by omega)
                        have b1' : decide (15 < z) = false := b1
                        have HW2 := hide (show whoOk (xs.take (k + 1)) = true by rw [HS.out, HCT.out, decide_eq_true hz]; rfl)
                        clear hz
                        go_wp2_with fail
                        go_roundg (q - (k + 1))
                        case measure => have := HG.out; omega
                        case rel => exact ⟨k + 1, rfl, by omega, by go_num, HW2.out, H5.out⟩
                      · have b1 : decide (z > 15) = true := decide_eq_true (by omega)
                        have b1' : decide (15 < z) = true := b1
                        have E := hide (show fb = false by
                          rw [HC2.out]
                          refine whoOk_take (k := k + 1) ?_
                          rw [HS.out, HCT.out, decide_eq_false hz]
                          rfl)
                        clear hz
                        go_wp2_with fail
                        go_ret
                        exact ⟨by rw [E.out]; try rfl, H5.out.tail⟩
                · obtain rfl : q = k := by omega
                  have E := hide (show fb = true by rw [HC2.out, ← List.take_of_length_le (l := xs) (i := q) (by rw [← HQ.out]; exact Nat.le_refl _)]; exact HWHO.out)
                  have H5 := hide h.tail
                  clear h
                  go_wp2_with fail
                  go_ret
                  exact ⟨by rw [E.out]; try rfl, H5.out⟩
end Go.Proofs.Ytbgknfdaaffeaaa
