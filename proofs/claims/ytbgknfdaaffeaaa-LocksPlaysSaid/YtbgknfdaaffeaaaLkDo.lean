/- Locks, the document: the table in memory; Holds, Wants, bears. -/
import Derived.Test.YtbgknfdaaffeaaaLkK
import Derived.Test.YtbgknfdaaffeaaaLkUm
import Derived.Test.YtbgknfdaaffeaaaLkQ
import Derived.Deep.DeepCutAuto
import Derived.Test.YtbgknfdaaffeaaaLkI
import Derived.Test.YtbgknfdaaffeaaaLkP
import Derived.Test.YtbgknfdaaffeaaaRNum
namespace Go.Proofs.Ytbgknfdaaffeaaa
open Go.RowKit Go.Shelf

abbrev docC (now last : Int) (vs : Nat → RegV) : Array Value := #[.int .u64 now, .int .u64 last,
  .slice (vs 0).h.a (vs 0).h.n (vs 0).h.c, .slice (vs 1).h.a (vs 1).h.n (vs 1).h.c, .slice (vs 2).h.a (vs 2).h.n (vs 2).h.c, .slice (vs 3).h.a (vs 3).h.n (vs 3).h.c,
  .slice (vs 0).w.a (vs 0).w.n (vs 0).w.c, .slice (vs 1).w.a (vs 1).w.n (vs 1).w.c, .slice (vs 2).w.a (vs 2).w.n (vs 2).w.c, .slice (vs 3).w.a (vs 3).w.n (vs 3).w.c]
theorem docC_h (now last : Int) (vs : Nat → RegV) {i : Nat} (hi : i < 4) : (docC now last vs)[2 + i]? = some (.slice (vs i).h.a (vs i).h.n (vs i).h.c) := by
  rcases lt4T hi with rfl | rfl | rfl | rfl <;> rfl
theorem docC_w (now last : Int) (vs : Nat → RegV) {i : Nat} (hi : i < 4) : (docC now last vs)[6 + i]? = some (.slice (vs i).w.a (vs i).w.n (vs i).w.c) := by
  rcases lt4T hi with rfl | rfl | rfl | rfl <;> rfl
theorem docC_seth (now last : Int) (vs : Nat → RegV) {i : Nat} (hi : i < 4) (u : SlV) : (docC now last vs).setIfInBounds (2 + i) (.slice u.a u.n u.c) = docC now last (upd vs i ⟨u, (vs i).w⟩) := by
  rcases lt4T hi with rfl | rfl | rfl | rfl <;> rfl
theorem docC_setw (now last : Int) (vs : Nat → RegV) {i : Nat} (hi : i < 4) (u : SlV) : (docC now last vs).setIfInBounds (6 + i) (.slice u.a u.n u.c) = docC now last (upd vs i ⟨(vs i).h, u⟩) := by
  rcases lt4T hi with rfl | rfl | rfl | rfl <;> rfl
abbrev docB (g : Nat) (now last : Int) (vs : Nat → RegV) : Res := blkR g 135 (docC now last vs)
/-- all slices, which stay -/
def docP (vs : Nat → RegV) (r : Nat → RegM) (w : World) : Prop := ∀ i, i < 4 → FlatP holdC 4 w (.slice (vs i).h.a (vs i).h.n (vs i).h.c) (r i).h ∧ FlatP wantC 2 w (.slice (vs i).w.a (vs i).w.n (vs i).w.c) (r i).w
abbrev docS (vs : Nat → RegV) (r : Nat → RegM) : Res := persR (docP vs r)
def docR (g : Nat) (T : TabM) : Res := exR fun vs => starR (docB g T.now T.last vs) (docS vs T.r)
section
variable {M0 : Imm} {w : World} {L : List Res} {g : Nat}
theorem St.docO {T : TabM} (h : St M0 w (docR g T :: L)) : ∃ vs, St M0 w (docB g T.now T.last vs :: docS vs T.r :: L) := by
  obtain ⟨vs, h1⟩ := h.ex
  exact ⟨vs, h1.star⟩
theorem St.docCl {now last : Int} {r : Nat → RegM} {vs : Nat → RegV} (h : St M0 w (docB g now last vs :: docS vs r :: L)) : St M0 w (docR g ⟨now, last, r⟩ :: L) :=
  St.addEx (f := fun vs => starR (docB g now last vs) (docS vs r)) vs h.addStar
theorem St.newDoc (h : St M0 w L) : St M0 (w.alloc (.cells (docC 0 0 fun _ => ⟨⟨none, 0, 0⟩, ⟨none, 0, 0⟩⟩) 135)) (docR w.heap.size ⟨0, 0, fun _ => ⟨[], []⟩⟩ :: L) :=
  St.docCl ((h.pers0 (R := docP (fun _ => ⟨⟨none, 0, 0⟩, ⟨none, 0, 0⟩⟩) fun _ => ⟨[], []⟩) (fun w' _ _ _ => ⟨FlatP.none_ w', FlatP.none_ w'⟩)).alloc 135 _)
end
/-- one element as a slice of its own -/
theorem FlatP.one {α : Type} {C : α → List Value} {size : Nat} {w : World} {xs : List α} (hC : ∀ x, (C x).length = size) {ad : Addr} {n c k : Nat} {x : α} (h : FlatP C size w (.slice (some ad) n c) xs) (hk : xs[k]? = some x) : FlatP C size w (.slice (some (ad.add (k * size))) 1 (c - k)) [x] := by
  obtain ⟨h0, h1, h2, hs⟩ := h.sl
  have hlt := (List.getElem?_eq_some_iff.1 hk).1
  obtain ⟨ad', e, _, hb, hc⟩ := hs.2 (by omega)
  cases e
  refine ⟨_, c - k, rfl, by simp; omega, by unfold maxLen; omega, by simp [hC], fun _ => ⟨_, rfl, trivial, by rw [addr_block]; exact hb, fun j u hu => ?_⟩⟩
  rw [addr_add]
  refine hc _ u ?_
  simp only [List.flatMap_cons, List.flatMap_nil, List.append_nil] at hu
  rw [flatC_at hC xs k x hk j (by rw [← hC x]; exact (List.getElem?_eq_some_iff.1 hu).1)]
  exact hu
set_option maxHeartbeats 1000000 in
set_option maxRecDepth 100000 in
theorem holdsEq_st {M0 : Imm} {L : List Res} (A B : Option Addr) (n c d : Nat) (l : List HoldM) (w : World) (hV : ∀ W, St M0 W L → FlatP holdC 4 W (.slice A n c) l) (hU : ∀ W, St M0 W L → FlatP holdC 4 W (.slice B n d) l) (h : St M0 w L) :
    Calls Try.prog 120 #[.slice A n c, .slice B n d] w fun e w' => e = .returned (.bool true) ∧ St M0 w' L := by
  obtain ⟨hn, hnc, hcm, _⟩ := (hV w h).sl
  obtain ⟨_, hnd, hdm, _⟩ := (hU w h).sl
  have HN := hide hn
  have HV := hide hV
  have HU := hide hU
  have H := hide h
  clear h hV hU hn
  go_enter Try.func120, Try.ntmps120
  go_wp2_with fail
  go_loopg [5] n (fun gh iv wr => ∃ (k : Nat), gh = n - k ∧ k ≤ n ∧ iv = .int .i64 (k : Nat) ∧ St M0 wr L)
  case atStart => exact ⟨0, rfl, by omega, rfl, H.out⟩
  case round =>
    clear H
    obtain ⟨k, hg, hk, rfl, h⟩ := hrel
    have HG := hide hg
    clear hg
    by_cases hlt : k < n
    · have hx := List.getElem?_eq_getElem (l := l) (i := k) (by rw [← HN.out]; exact hlt)
      generalize l[k]'(by rw [← HN.out]; exact hlt) = x at hx
      obtain ⟨ad, rfl, hcs⟩ := (HV.out _ h).at_ holdC_len hx
      obtain ⟨ad2, rfl, hcs2⟩ := (HU.out _ h).at_ holdC_len hx
      obtain ⟨e0, e1, e2, e3⟩ := cells4F hcs
      obtain ⟨f0, f1, f2, f3⟩ := cells4F hcs2
      have k0 : (0 : Int) ≤ (k : Int) := by omega
      have k1 : (k : Int) < (n : Int) := by omega
      have H1 := hide h
      clear h hx hcs hcs2
      go_wp2_with fail
      go_quiet (fail)
      go_wp2_with fail
      go_roundg (n - (k + 1))
      case measure => have := HG.out; omega
      case rel => exact ⟨k + 1, rfl, by omega, by go_num, H1.out.drewN _⟩
    · obtain rfl : n = k := by omega
      have H1 := hide h
      clear h
      go_wp2_with fail
      go_ret
      exact ⟨rfl, H1.out⟩
set_option maxHeartbeats 1000000 in
set_option maxRecDepth 100000 in
theorem wantsEq_st {M0 : Imm} {L : List Res} (A B : Option Addr) (n c d : Nat) (l : List WantM) (w : World) (hV : ∀ W, St M0 W L → FlatP wantC 2 W (.slice A n c) l) (hU : ∀ W, St M0 W L → FlatP wantC 2 W (.slice B n d) l) (h : St M0 w L) :
    Calls Try.prog 121 #[.slice A n c, .slice B n d] w fun e w' => e = .returned (.bool true) ∧ St M0 w' L := by
  obtain ⟨hn, hnc, hcm, _⟩ := (hV w h).sl
  obtain ⟨_, hnd, hdm, _⟩ := (hU w h).sl
  have HN := hide hn
  have HV := hide hV
  have HU := hide hU
  have H := hide h
  clear h hV hU hn
  go_enter Try.func121, Try.ntmps121
  go_wp2_with fail
  go_loopg [5] n (fun gh iv wr => ∃ (k : Nat), gh = n - k ∧ k ≤ n ∧ iv = .int .i64 (k : Nat) ∧ St M0 wr L)
  case atStart => exact ⟨0, rfl, by omega, rfl, H.out⟩
  case round =>
    clear H
    obtain ⟨k, hg, hk, rfl, h⟩ := hrel
    have HG := hide hg
    clear hg
    by_cases hlt : k < n
    · have hx := List.getElem?_eq_getElem (l := l) (i := k) (by rw [← HN.out]; exact hlt)
      generalize l[k]'(by rw [← HN.out]; exact hlt) = x at hx
      obtain ⟨ad, rfl, hcs⟩ := (HV.out _ h).at_ wantC_len hx
      obtain ⟨ad2, rfl, hcs2⟩ := (HU.out _ h).at_ wantC_len hx
      obtain ⟨e0, e1⟩ := cells2F hcs
      obtain ⟨f0, f1⟩ := cells2F hcs2
      have k0 : (0 : Int) ≤ (k : Int) := by omega
      have k1 : (k : Int) < (n : Int) := by omega
      have H1 := hide h
      clear h hx hcs hcs2
      go_wp2_with fail
      go_quiet (fail)
      go_wp2_with fail
      go_roundg (n - (k + 1))
      case measure => have := HG.out; omega
      case rel => exact ⟨k + 1, rfl, by omega, by go_num, H1.out.drewN _⟩
    · obtain rfl : n = k := by omega
      have H1 := hide h
      clear h
      go_wp2_with fail
      go_ret
      exact ⟨rfl, H1.out⟩
def softB (m : Int) (h : HoldM) : Bool := (h.m != 1) || (m != 1)
theorem softB_hard {m : Int} {h : HoldM} (h1 : modeB h.m = true) (h2 : modeB m = true) : softB m h = hardB m h := by
  unfold modeB at h1 h2
  unfold softB hardB
  simp at h1 h2
  rcases h1 with h1 | h1 <;> rcases h2 with h2 | h2 <;> rw [h1, h2] <;> decide
set_option maxHeartbeats 1000000 in
set_option maxRecDepth 100000 in
theorem bearsR_st {M0 : Imm} {L : List Res} (A : Option Addr) (n c : Nat) (l : List HoldM) (m : Int) (w : World) (hV : ∀ W, St M0 W L → FlatP holdC 4 W (.slice A n c) l) (h : St M0 w L) :
    Calls Try.prog 152 #[.slice A n c, .int .i64 m] w fun e w' => e = .returned (.bool (!l.any (softB m))) ∧ St M0 w' L := by
  obtain ⟨hn, hnc, hcm, _⟩ := (hV w h).sl
  have HN := hide hn
  have HV := hide hV
  have H := hide h
  clear h hV hn
  go_enter Try.func152, Try.ntmps152
  go_wp2_with fail
  go_loopg [5] n (fun gh iv wr => ∃ (k : Nat), gh = n - k ∧ k ≤ n ∧ iv = .int .i64 (k : Nat) ∧ (l.take k).any (softB m) = false ∧ St M0 wr L)
  case atStart => exact ⟨0, rfl, by omega, rfl, by simp, H.out⟩
  case round =>
    clear H
    obtain ⟨k, hg, hk, rfl, hno, h⟩ := hrel
    have HG := hide hg
    have HNO := hide hno
    clear hg hno
    by_cases hlt : k < n
    · have hx := List.getElem?_eq_getElem (l := l) (i := k) (by rw [← HN.out]; exact hlt)
      generalize l[k]'(by rw [← HN.out]; exact hlt) = x at hx
      obtain ⟨ad, rfl, hcs⟩ := (HV.out _ h).at_ holdC_len hx
      obtain ⟨e0, e1, e2, e3⟩ := cells4F hcs
      have k0 : (0 : Int) ≤ (k : Int) := by omega
      have k1 : (k : Int) < (n : Int) := by omega
      have H1 := hide h
      have HX := hide hx
      clear h hx hcs
      obtain ⟨b1, hb1⟩ : ∃ b1, (x.m != 1) = b1 := ⟨_, rfl⟩
      obtain ⟨b2, hb2⟩ : ∃ b2, (m != 1) = b2 := ⟨_, rfl⟩
      have HB := hide (show softB m x = (b1 || b2) by unfold softB; rw [hb1, hb2])
      cases hb : (b1 || b2) with
      | true =>
        have E := hide (show (!l.any (softB m)) = false by
          rw [List.any_eq_true.2 ⟨x, List.mem_of_getElem? HX.out, by rw [HB.out, hb]⟩]
          rfl)
        cases b1 <;> cases b2 <;> first | cases hb | skip
        all_goals
          go_wp2_with fail
          go_ret
          exact ⟨by rw [E.out]; try rfl, H1.out⟩
      | false =>
        have HN2 := hide (show (l.take (k + 1)).any (softB m) = false by
          rw [List.take_add_one, HX.out, List.any_append, HNO.out]
          simp [HB.out, hb])
        cases b1 <;> cases b2 <;> first | cases hb | skip
        go_wp2_with fail
        go_roundg (n - (k + 1))
        case measure => have := HG.out; omega
        case rel => exact ⟨k + 1, rfl, by omega, by go_num, HN2.out, H1.out⟩
    · obtain rfl : n = k := by omega
      have E := hide (show (!l.any (softB m)) = true by
        rw [← List.take_of_length_le (l := l) (i := n) (by rw [← HN.out]; exact Nat.le_refl _), HNO.out]
        rfl)
      have H1 := hide h
      clear h
      go_wp2_with fail
      go_ret
      exact ⟨by rw [E.out]; try rfl, H1.out⟩
end Go.Proofs.Ytbgknfdaaffeaaa
/- Locks, the document: Asked. -/
namespace Go.Proofs.Ytbgknfdaaffeaaa
open Go.RowKit Go.Shelf

theorem there_no {r : Int} (h : ¬ (0 ≤ r ∧ r ≤ 3)) : thereB r = false := by
  unfold thereB
  cases h1 : decide (0 ≤ r) <;> cases h2 : decide (r < 4) <;> simp at h1 h2 ⊢
  omega
set_option maxHeartbeats 4000000 in
set_option maxRecDepth 100000 in
theorem rasked_st {M0 : Imm} {L : List Res} (g : Nat) (T : TabM) (r : Int) (w : World) (hok : ∀ i, i < 4 → RegOk (T.r i)) (h : St M0 w (docR g T :: L)) :
    Calls Try.prog 122 #[.pointer (some ⟨g, 0, none⟩), .int .i64 r] w fun e w' => ∃ v, e = .returned v ∧ St M0 w' (intsR .i64 v (T.asked r) :: docR g T :: L) := by
  by_cases hr : 0 ≤ r ∧ r ≤ 3
  · obtain ⟨i, rfl⟩ := Int.eq_ofNat_of_zero_le hr.1
    have hi4 : i < 4 := by omega
    have E0 := hide (show T.asked (i : Int) = match (T.r i).w with
      | [] => []
      | w :: _ => ((T.r i).h.filter (hardB w.m)).map HoldM.c from if_pos (by unfold thereB; simp; omega))
    have d1 : decide ((i : Int) < 0) = false := decide_eq_false (by omega)
    have d2 : decide ((i : Int) > 3) = false := decide_eq_false (by omega)
    have d2' : decide ((3 : Int) < (i : Int)) = false := d2
    have i0 : (0 : Int) ≤ (i : Int) := by omega
    have i1 : (i : Int) < 4 := by omega
    have HOK := hide (hok i hi4)
    obtain ⟨vs, h3⟩ := h.docO
    obtain ⟨⟨A, n, c⟩, ⟨B, m, d⟩, hvi⟩ : ∃ hv wv, vs i = ⟨hv, wv⟩ := ⟨_, _, rfl⟩
    have HVI := hide hvi
    have HTH := hide (show (docC T.now T.last vs)[2 + i]? = some (.slice A n c) by refine (docC_h T.now T.last vs hi4).trans ?_; rw [hvi])
    have HTW := hide (show (docC T.now T.last vs)[6 + i]? = some (.slice B m d) by refine (docC_w T.now T.last vs hi4).trans ?_; rw [hvi])
    have cw : w.cell? ⟨g, 6 + i, none⟩ = some (.slice B m d) := ((h3.blk 0 rfl).cell (6 + i)).trans HTW.out
    have ch : w.cell? ⟨g, 2 + i, none⟩ = some (.slice A n c) := ((h3.blk 0 rfl).cell (2 + i)).trans HTH.out
    obtain ⟨hs, hhs⟩ : ∃ hs, hs = (T.r i).h := ⟨_, rfl⟩
    obtain ⟨wl, hwl⟩ : ∃ wl, wl = (T.r i).w := ⟨_, rfl⟩
    have hV : ∀ W, docP vs T.r W → FlatP holdC 4 W (.slice A n c) hs ∧ FlatP wantC 2 W (.slice B m d) wl := fun W hW => by
      have := hW i hi4
      rw [hvi, ← hhs, ← hwl] at this
      exact this
    have HV := hide hV
    have hf := hV _ (h3.get 1 rfl)
    obtain ⟨hn0, hnc, hcm, _⟩ := hf.1.sl
    obtain ⟨hm0, hmd, hdm, _⟩ := hf.2.sl
    have hn : n = hs.length := hn0
    have hm : m = wl.length := hm0
    have hn4 : n ≤ 4 := by have := HOK.out.hl; rw [← hhs] at this; omega
    have HN := hide hn
    have HM := hide hm
    have HHS := hide hhs
    have HWL := hide hwl
    have HOKH := hide (show ∀ x ∈ hs, modeB x.m = true by rw [hhs]; exact fun x hx => (HOK.out.h x hx).2.1)
    have HOKW := hide (show ∀ x ∈ wl, modeB x.m = true by rw [hwl]; exact fun x hx => (HOK.out.w x hx).2)
    have H3 := hide h3
    clear h h3 hok hvi hf hn0 hm0 hn hm hhs hwl hV hr
    go_enter Try.func122, Try.ntmps122
    cases hws : wl with
    | nil =>
      have hm0 : m = 0 := by have := HM.out; rw [hws] at this; exact this
      subst hm0
      have E := hide (E0.out.trans (by rw [← HWL.out, hws]))
      clear hws E0
      go_wp2_with fail
      go_ret
      exact ⟨_, rfl, by rw [E.out]; exact (H3.out.docCl).pers0 (fun w' _ => Ints.none_ w' _)⟩
    | cons x ws =>
      have hm1 : m = ws.length + 1 := by have := HM.out; rw [hws] at this; exact this
      have m0 : (0 : Int) < (m : Int) := by omega
      have m1 : ((m : Int) == 0) = false := isF (by omega)
      have HE := hide (E0.out.trans (show _ = (hs.filter (hardB x.m)).map HoldM.c by rw [← HWL.out, hws, ← HHS.out]))
      have HXM := hide (show modeB x.m = true from HOKW.out x (by rw [hws]; simp))
      have HX0 := hide (show wl[0]? = some x by rw [hws]; rfl)
      have H4 := hide (H3.out.nilRow 3 1)
      clear H3 E0 hws hm1
      go_wp2_with fail
      clear ch cw
      go_loopg [5, 6] n (fun gh ov iv wr => ∃ (k q : Nat) (C : Option Addr) (ce : Nat) (xs : List Int), gh = n - k ∧ k ≤ n ∧ ov = .slice C q ce ∧ iv = .int .i64 (k : Nat) ∧ q = xs.length ∧ q ≤ k ∧ xs = ((hs.take k).filter (hardB x.m)).map HoldM.c ∧
        St M0 wr (rowR 3 1 (.slice C q ce) q (xs.map (.int .i64)) :: docB g T.now T.last vs :: docS vs T.r :: L))
      case atStart => exact ⟨0, 0, none, 0, [], rfl, by omega, rfl, rfl, rfl, by omega, rfl, H4.out⟩
      case round =>
        clear H4
        obtain ⟨k, q, C, ce, xs, hg, hk, rfl, rfl, hq, hqk, hxs, h⟩ := hrel
        have HG := hide hg
        have HQ := hide hq
        have HXS := hide hxs
        have ch : wr.cell? ⟨g, 2 + i, none⟩ = some (.slice A n c) := ((h.blk 1 rfl).cell (2 + i)).trans HTH.out
        clear hg hq hxs
        by_cases hlt : k < n
        · have hx := List.getElem?_eq_getElem (l := hs) (i := k) (by rw [← HN.out]; exact hlt)
          generalize hs[k]'(by rw [← HN.out]; exact hlt) = z at hx
          have cw : wr.cell? ⟨g, 6 + i, none⟩ = some (.slice B m d) := ((h.blk 1 rfl).cell (6 + i)).trans HTW.out
          have hf := HV.out _ (h.get 2 rfl)
          obtain ⟨adB, hB, hcB⟩ := hf.2.at_ wantC_len HX0.out
          rw [addW0] at hcB
          obtain ⟨f0, f1⟩ := cells2F hcB
          obtain ⟨ad2, hA, hcs⟩ := hf.1.at_ holdC_len hx
          subst hB
          subst hA
          obtain ⟨e0, e1, e2, e3⟩ := cells4F hcs
          have HT := hide (show ((hs.take (k + 1)).filter (hardB x.m)).map HoldM.c = xs ++ if hardB x.m z = true then [z.c] else [] by
            rw [List.take_add_one, hx, List.filter_append, List.map_append, ← HXS.out]
            show xs ++ (List.filter (hardB x.m) [z]).map HoldM.c = _
            cases hb : hardB x.m z <;> simp [List.filter, hb])
          have HSB := hide (softB_hard (HOKH.out z (List.mem_of_getElem? hx)) HXM.out)
          have HX := hide hx
          have k0 : (0 : Int) ≤ (k : Int) := by omega
          have k1 : (k : Int) < (n : Int) := by omega
          have kw : IntKind.i64.wrap ((k : Int) + 1) = (k : Int) + 1 := IntWalk.i64_in _ (by omega)
          have k2 : (k : Int) + 1 ≤ (c : Int) := by omega
          have k3 : (k : Int) ≤ (k : Int) + 1 := by omega
          have m2 : 0 < m := by omega
          have hck : ¬ c = k := by omega
          have H5 := hide h
          clear h hx hcs hcB hf
          go_wp2_with fail
          refine region_tail 19 (by kernel_rfl) (by kernel_rfl) (fun W hW => ?_)
          have H6 := hide (H5.out.drew)
          rw [← hW] at H6
          have g0 : W.cell? ⟨g, 2 + i, none⟩ = some (.slice (some ad2) n c) := by rw [hW]; exact ch
          have g1 : W.cell? ⟨g, 6 + i, none⟩ = some (.slice (some adB) m d) := by rw [hW]; exact cw
          have g2 : W.cell? ⟨adB.block, adB.off + 1, none⟩ = some (.int .i64 x.m) := by rw [hW]; exact f1
          clear hW H5 ch cw e0 e1 e2 e3 f0 f1
          simp only [List.take_succ_cons, List.take_zero, List.drop_succ_cons, List.drop_zero]
          repeat still_step
          try refine wpStill_nil ?_
          go_wp2_with fail
          have HFO := hide (fun (W' : World) (hw : St M0 W' (rowR 3 1 (.slice C q ce) q (xs.map (.int .i64)) :: docB g T.now T.last vs :: docS vs T.r :: L)) => ((HV.out _ (hw.get 2 rfl)).1).one holdC_len HX.out)
          refine (bearsR_st (some (ad2.add (k * 4))) 1 (c - k) [z] x.m _ HFO.out H6.out).mono ?_
          rintro e w5 ⟨rfl, h⟩
          rw [show (!([z] : List HoldM).any (softB x.m)) = !hardB x.m z by rw [← HSB.out]; simp]
          obtain ⟨ad3, hae, hcs⟩ := (HV.out _ (h.get 2 rfl)).1.at_ holdC_len HX.out
          cases hae
          obtain ⟨e0, e1, e2, e3⟩ := cells4F hcs
          have ch : w5.cell? ⟨g, 2 + i, none⟩ = some (.slice (some ad2) n c) := ((h.blk 1 rfl).cell (2 + i)).trans HTH.out
          cases hb : hardB x.m z with
          | true =>
            have HT2 := hide (show ((hs.take (k + 1)).filter (hardB x.m)).map HoldM.c = xs ++ [z.c] by rw [HT.out, hb]; rfl)
            have h5 := (h.alloc 3 #[.int .i64 z.c]).swap
            have HB := hide (h5.blk 1 rfl)
            have H7 := hide h5
            clear h h5 H6 g0 g1 g2 hcs HT
            go_wp2_with (at_builtin; refine St.app_step intK_row H7.out rfl _ _ rfl rfl (some ⟨w5.heap.size, 0, none⟩) 1 1 rfl [.int .i64 z.c] (sl_blkT (cs := [.int .i64 z.c]) HB.out) (by intro u hu; simp at hu; subst hu; rfl) (by omega) (by omega) ?_; intro A6 c6 w7 h9)
            have h10 := h9.sub (L' := rowR 3 1 (.slice A6 (q + 1) c6) (q + 1) (xs.map (.int .i64) ++ [.int .i64 z.c]) :: docB g T.now T.last vs :: docS vs T.r :: L) (by (repeat (first | with_reducible exact Sub.refl _ | (with_reducible apply Sub.take; focus (repeat (first | with_reducible exact At.here | with_reducible apply At.there))) | with_reducible apply Sub.drop)))
            rw [show xs.map (Value.int .i64) ++ [.int .i64 z.c] = (xs ++ [z.c]).map (.int .i64) by rw [List.map_append]; rfl] at h10
            have H10 := hide h10
            clear h9 h10 H7 HB ch e0 e1 e2 e3
            go_wp2_with fail
            go_roundg (n - (k + 1))
            case measure => have := HG.out; omega
            case rel => exact ⟨k + 1, q + 1, A6, c6, xs ++ [z.c], rfl, by omega, rfl, by go_num, by rw [List.length_append, ← HQ.out]; rfl, by omega, HT2.out.symm, H10.out⟩
          | false =>
            have HT2 := hide (show ((hs.take (k + 1)).filter (hardB x.m)).map HoldM.c = xs by rw [HT.out, hb]; exact List.append_nil _)
            have H7 := hide h
            clear h H6 g0 g1 g2 hcs HT ch e0 e1 e2 e3
            go_wp2_with fail
            go_roundg (n - (k + 1))
            case measure => have := HG.out; omega
            case rel => exact ⟨k + 1, q, C, ce, xs, rfl, by omega, rfl, by go_num, HQ.out, by omega, HT2.out.symm, H7.out⟩
        · obtain rfl : n = k := by omega
          have E := hide (HE.out.trans (show _ = xs by rw [HXS.out, List.take_of_length_le (by rw [← HN.out]; exact Nat.le_refl _)]))
          have H5 := hide ((St.ints (xs := xs) h).sub (L' := docB g T.now T.last vs :: docS vs T.r :: intsR .i64 (.slice C q ce) xs :: L) (by (repeat (first | with_reducible exact Sub.refl _ | (with_reducible apply Sub.take; focus (repeat (first | with_reducible exact At.here | with_reducible apply At.there))) | with_reducible apply Sub.drop)))).docCl.swap
          clear h
          go_wp2_with fail
          go_ret
          exact ⟨_, rfl, by rw [E.out]; exact H5.out⟩
  · have E := hide (show T.asked r = [] from if_neg (by rw [there_no hr]; exact Bool.false_ne_true))
    have H := hide h
    obtain ⟨b1, hb1⟩ : ∃ b1, decide (r < 0) = b1 := ⟨_, rfl⟩
    obtain ⟨b2, hb2⟩ : ∃ b2, decide (r > 3) = b2 := ⟨_, rfl⟩
    have hb2' : decide (3 < r) = b2 := hb2
    have hbb : (b1 || b2) = true := by
      rw [← hb1, ← hb2]
      simp
      omega
    clear h hr hok
    go_enter Try.func122, Try.ntmps122
    cases b1 <;> cases b2 <;> first | (exact absurd hbb (by decide)) | skip
    all_goals
      clear hbb
      go_wp2_with fail
      go_ret
      exact ⟨_, rfl, by rw [E.out]; exact H.out.pers0 (fun w' _ => Ints.none_ w' _)⟩
end Go.Proofs.Ytbgknfdaaffeaaa
/- Locks, the document: fine. -/
namespace Go.Proofs.Ytbgknfdaaffeaaa
open Go.RowKit Go.Shelf

theorem Ints.at_ {w : World} {k : IntKind} {A : Option Addr} {n c j : Nat} {x : Int} {xs : List Int} (h : Ints w k (.slice A n c) xs) (hj : xs[j]? = some x) : ∃ ad, A = some ad ∧ w.cell? (ad.add j) = some (.int k x) := by
  obtain ⟨h0, _, _, hs⟩ := h.sl
  have hlt := (List.getElem?_eq_some_iff.1 hj).1
  obtain ⟨ad, u, e, _, _, hu, hc⟩ := hs.at_ (k := j) (by omega)
  rw [List.getElem?_map, hj] at hu
  obtain rfl : Value.int k x = u := by simpa using hu
  exact ⟨ad, e, hc⟩
set_option maxHeartbeats 8000000 in
set_option maxRecDepth 100000 in
theorem fine_st {M0 : Imm} {L : List Res} (g i : Nat) (now last : Int) (vs : Nat → RegV) (r : Nat → RegM) (w : World) (hi4 : i < 4) (h : St M0 w (docB g now last vs :: docS vs r :: L)) :
    Calls Try.prog 117 #[.pointer (some ⟨g, 0, none⟩), .int .i64 (i : Nat)] w fun e w' => e = .returned (.bool (fineB last (r i))) ∧ St M0 w' (docB g now last vs :: docS vs r :: L) := by
  have i0 : (0 : Int) ≤ (i : Int) := by omega
  have i1 : (i : Int) < 4 := by omega
  obtain ⟨⟨A, n, c⟩, ⟨B, m, d⟩, hvi⟩ : ∃ hv wv, vs i = ⟨hv, wv⟩ := ⟨_, _, rfl⟩
  obtain ⟨hs, ws, hri⟩ : ∃ hs ws, r i = ⟨hs, ws⟩ := ⟨_, _, rfl⟩
  have HTH := hide (show (docC now last vs)[2 + i]? = some (.slice A n c) by refine (docC_h now last vs hi4).trans ?_; rw [hvi])
  have HTW := hide (show (docC now last vs)[6 + i]? = some (.slice B m d) by refine (docC_w now last vs hi4).trans ?_; rw [hvi])
  have cw : w.cell? ⟨g, 6 + i, none⟩ = some (.slice B m d) := ((h.blk 0 rfl).cell (6 + i)).trans HTW.out
  have ch : w.cell? ⟨g, 2 + i, none⟩ = some (.slice A n c) := ((h.blk 0 rfl).cell (2 + i)).trans HTH.out
  have hV : ∀ W, docP vs r W → FlatP holdC 4 W (.slice A n c) hs ∧ FlatP wantC 2 W (.slice B m d) ws := fun W hW => by
    have := hW i hi4
    rw [hvi, hri] at this
    exact this
  have HV := hide hV
  have hf := hV _ (h.get 1 rfl)
  obtain ⟨hn0, hnc, hcm, _⟩ := hf.1.sl
  obtain ⟨hm0, hmd, hdm, _⟩ := hf.2.sl
  have hn : n = hs.length := hn0
  have hm : m = ws.length := hm0
  rw [hri]
  obtain ⟨many, hmany⟩ : ∃ many, decide (1 < n) = many := ⟨_, rfl⟩
  have HC0 := hide (show fineB last ⟨hs, ws⟩ = (decide (n ≤ 4) && decide (m ≤ 4) && hs.all (holdFine many last) && ws.all wantFine && whoOk (hs.map HoldM.c ++ ws.map WantM.c)) by rw [← hmany, hn, hm]; rfl)
  obtain ⟨fb, hfb⟩ : ∃ fb, fb = fineB last ⟨hs, ws⟩ := ⟨_, rfl⟩
  rw [← hfb] at HC0 ⊢
  have HN := hide hn
  have HM := hide hm
  have H := hide h
  clear h hvi hri hV hf hn0 hm0 hn hm hfb
  go_enter Try.func117, Try.ntmps117
  by_cases hn4 : n ≤ 4
  case' neg =>
    have d1 : decide ((n : Int) > 4) = true := decide_eq_true (by omega)
    have d1' : decide ((4 : Int) < (n : Int)) = true := d1
    have E := hide (show fb = false by rw [HC0.out, decide_eq_false hn4]; rfl)
    clear hn4
    go_wp2_with fail
    go_ret
    exact ⟨by rw [E.out]; try rfl, H.out⟩
  case pos =>
    have d1 : decide ((n : Int) > 4) = false := decide_eq_false (by omega)
    have d1' : decide ((4 : Int) < (n : Int)) = false := d1
    by_cases hm4 : m ≤ 4
    case' neg =>
      have d2 : decide ((m : Int) > 4) = true := decide_eq_true (by omega)
      have d2' : decide ((4 : Int) < (m : Int)) = true := d2
      have E := hide (show fb = false by rw [HC0.out, decide_eq_false hm4, Bool.and_false]; rfl)
      clear hm4
      go_wp2_with fail
      go_ret
      exact ⟨by rw [E.out]; try rfl, H.out⟩
    case pos =>
      have d2 : decide ((m : Int) > 4) = false := decide_eq_false (by omega)
      have d2' : decide ((4 : Int) < (m : Int)) = false := d2
      have HC := hide (show fb = (hs.all (holdFine many last) && ws.all wantFine && whoOk (hs.map HoldM.c ++ ws.map WantM.c)) by rw [HC0.out, decide_eq_true hn4, decide_eq_true hm4]; simp)
      have H1 := hide (H.out.nilRow 3 1)
      obtain ⟨d4, hd4⟩ : ∃ d4, decide ((n : Int) > 1) = d4 := ⟨_, rfl⟩
      have hd4' : decide ((1 : Int) < (n : Int)) = d4 := hd4
      have HMD := hide (show many = d4 by rw [← hmany, ← hd4]; exact decide_eq_decide.2 (by omega))
      clear H HC0 hmany
      go_wp2_with fail
      clear ch cw d1 d1' d2 d2'
      go_loopg [5, 6] n (fun gh sv iv wr => ∃ (k q : Nat) (C : Option Addr) (ce : Nat) (xs : List Int), gh = n - k ∧ k ≤ n ∧ sv = .slice C q ce ∧ iv = .int .i64 (k : Nat) ∧ q = xs.length ∧ q ≤ k ∧ xs = (hs.take k).map HoldM.c ∧ (hs.take k).all (holdFine many last) = true ∧
        St M0 wr (rowR 3 1 (.slice C q ce) q (xs.map (.int .i64)) :: docB g now last vs :: docS vs r :: L))
      case atStart => exact ⟨0, 0, none, 0, [], rfl, by omega, rfl, rfl, rfl, by omega, rfl, by simp, H1.out⟩
      case round =>
        clear H1
        obtain ⟨k, q, C, ce, xs, hg, hk, rfl, rfl, hq, hqk, hxs, hall, h⟩ := hrel
        have HG := hide hg
        have HQ := hide hq
        have HXS := hide hxs
        have HALL := hide hall
        clear hg hq hxs hall
        have ch : wr.cell? ⟨g, 2 + i, none⟩ = some (.slice A n c) := ((h.blk 1 rfl).cell (2 + i)).trans HTH.out
        by_cases hlt : k < n
        · have hx := List.getElem?_eq_getElem (l := hs) (i := k) (by rw [← HN.out]; exact hlt)
          generalize hs[k]'(by rw [← HN.out]; exact hlt) = z at hx
          obtain ⟨ad, hA, hcs⟩ := (HV.out _ (h.get 2 rfl)).1.at_ holdC_len hx
          subst hA
          obtain ⟨e0, e1, e2, e3⟩ := cells4F hcs
          obtain ⟨d1, hd1⟩ : ∃ d1, decide (z.m < 1) = d1 := ⟨_, rfl⟩
          obtain ⟨d2, hd2⟩ : ∃ d2, decide (z.m > 2) = d2 := ⟨_, rfl⟩
          have hd2' : decide (2 < z.m) = d2 := hd2
          obtain ⟨b3, hb3⟩ : ∃ b3, (z.m == 2) = b3 := ⟨_, rfl⟩
          obtain ⟨b5, hb5⟩ : ∃ b5, (z.t == 0) = b5 := ⟨_, rfl⟩
          obtain ⟨d6, hd6⟩ : ∃ d6, decide (z.t > last) = d6 := ⟨_, rfl⟩
          have hd6' : decide (last < z.t) = d6 := hd6
          have HF := hide (show holdFine many last z = (!d1 && !d2 && !(b3 && d4) && !b5 && !d6) by unfold holdFine; rw [hd1, hd2, hb3, HMD.out, hb5, hd6])
          have HE := hide (show holdFine many last z = false → fb = false from fun hz => by
            rw [HC.out]
            have : hs.all (holdFine many last) = false := by
              rw [List.all_eq_false]
              exact ⟨z, List.mem_of_getElem? hx, by rw [hz]; exact Bool.false_ne_true⟩
            rw [this]
            rfl)
          have HX2 := hide (show (hs.take (k + 1)).map HoldM.c = xs ++ [z.c] by rw [HXS.out, List.take_add_one, hx]; simp)
          have HA2 := hide (show holdFine many last z = true → (hs.take (k + 1)).all (holdFine many last) = true from fun hz => by rw [List.take_add_one, hx, List.all_append, HALL.out]; simp [hz])
          have k0 : (0 : Int) ≤ (k : Int) := by omega
          have k1 : (k : Int) < (n : Int) := by omega
          have h4 := h.alloc 91 #[.int .i64 z.c, .int .i64 z.m, .int .u64 z.t, .int .u64 z.u]
          generalize hy : wr.heap.size = y at h4
          have HY := hide hy
          have H4 := hide h4
          clear h h4 hx hcs hy
          go_wp2_with fail
          rw [HY.out]
          clear e0 e1 e2 e3 ch HY
          have hg4 := H4.out
          have y0 := (hg4.blk 0 rfl).cell 0
          have y1 := (hg4.blk 0 rfl).cell 1
          have y2 := (hg4.blk 0 rfl).cell 2
          have cl := (hg4.blk 2 rfl).cell 1
          have ch := ((hg4.blk 2 rfl).cell (2 + i)).trans HTH.out
          clear hg4
          cases d1
          case' false => cases d2
          case' false.false => cases b3
          case' false.false.true => cases d4
          case' false.false.false => cases b5
          case' false.false.false.false => cases d6
          case' false.false.true.false => cases b5
          case' false.false.true.false.false => cases d6
          case' false.false.false.false.false => have HGO := hide (HA2.out HF.out)
          case' false.false.true.false.false.false => have HGO := hide (HA2.out HF.out)
          case true =>
            have E := hide (HE.out HF.out)
            clear HA2 HE
            go_wp2_with fail
            go_quiet (fail)
            go_wp2_with fail
            go_ret
            exact ⟨by rw [E.out]; try rfl, (H4.out.tail.tail.drewN _)⟩
          case false.true =>
            have E := hide (HE.out HF.out)
            clear HA2 HE
            go_wp2_with fail
            go_quiet (fail)
            go_wp2_with fail
            go_ret
            exact ⟨by rw [E.out]; try rfl, (H4.out.tail.tail.drewN _)⟩
          case false.false.true.true =>
            have E := hide (HE.out HF.out)
            clear HA2 HE
            go_wp2_with fail
            go_quiet (fail)
            go_wp2_with fail
            go_ret
            exact ⟨by rw [E.out]; try rfl, (H4.out.tail.tail.drewN _)⟩
          case false.false.false.true =>
            have E := hide (HE.out HF.out)
            clear HA2 HE
            go_wp2_with fail
            go_quiet (fail)
            go_wp2_with fail
            go_ret
            exact ⟨by rw [E.out]; try rfl, (H4.out.tail.tail.drewN _)⟩
          case false.false.false.false.true =>
            have E := hide (HE.out HF.out)
            clear HA2 HE
            go_wp2_with fail
            go_quiet (fail)
            go_wp2_with fail
            go_ret
            exact ⟨by rw [E.out]; try rfl, (H4.out.tail.tail.drewN _)⟩
          case false.false.true.false.true =>
            have E := hide (HE.out HF.out)
            clear HA2 HE
            go_wp2_with fail
            go_quiet (fail)
            go_wp2_with fail
            go_ret
            exact ⟨by rw [E.out]; try rfl, (H4.out.tail.tail.drewN _)⟩
          case false.false.true.false.false.true =>
            have E := hide (HE.out HF.out)
            clear HA2 HE
            go_wp2_with fail
            go_quiet (fail)
            go_wp2_with fail
            go_ret
            exact ⟨by rw [E.out]; try rfl, (H4.out.tail.tail.drewN _)⟩
          all_goals
            clear HE HA2
            go_wp2_with fail
            go_quiet (fail)
            have h5 := H4.out.drewN nq
            clear y0 y1 y2 cl ch H4
            generalize hwd : World.drewN _ nq = wd at h5 ⊢
            clear hwd
            have y0 := (h5.blk 0 rfl).cell 0
            have h7 := ((h5.front (X := rowR 3 1 (.slice C q ce) q (xs.map (.int .i64))) (by (repeat (first | with_reducible exact At.here | with_reducible apply At.there)))).alloc 3 #[.int .i64 z.c]).swap
            have HB := hide (h7.blk 1 rfl)
            have H7 := hide h7
            clear h7 h5
            go_wp2_with (at_builtin; refine St.app_step intK_row H7.out rfl _ _ rfl rfl (some ⟨wd.heap.size, 0, none⟩) 1 1 rfl [.int .i64 z.c] (sl_blkT (cs := [.int .i64 z.c]) HB.out) (by intro u hu; simp at hu; subst hu; rfl) (by omega) (by omega) ?_; intro A6 c6 w7 h9)
            have h10 := h9.sub (L' := rowR 3 1 (.slice A6 (q + 1) c6) (q + 1) (xs.map (.int .i64) ++ [.int .i64 z.c]) :: docB g now last vs :: docS vs r :: L) (by (repeat (first | with_reducible exact Sub.refl _ | (with_reducible apply Sub.take; focus (repeat (first | with_reducible exact At.here | with_reducible apply At.there))) | with_reducible apply Sub.drop)))
            rw [show xs.map (Value.int .i64) ++ [.int .i64 z.c] = (xs ++ [z.c]).map (.int .i64) by rw [List.map_append]; rfl] at h10
            have H10 := hide h10
            clear h9 h10 H7 HB y0
            go_wp2_with fail
            go_roundg (n - (k + 1))
            case measure => have := HG.out; omega
            case rel => exact ⟨k + 1, q + 1, A6, c6, xs ++ [z.c], rfl, by omega, rfl, by go_num, by rw [List.length_append, ← HQ.out]; rfl, by omega, HX2.out.symm, HGO.out, H10.out⟩
        · obtain rfl : n = k := by omega
          have HAH := hide (show hs.all (holdFine many last) = true by rw [← List.take_of_length_le (l := hs) (i := n) (by rw [← HN.out]; exact Nat.le_refl _)]; exact HALL.out)
          have HXH := hide (show xs = hs.map HoldM.c by rw [HXS.out, List.take_of_length_le (by rw [← HN.out]; exact Nat.le_refl _)])
          have hqn : q = n := by rw [HQ.out, HXH.out, List.length_map, ← HN.out]
          have cw : wr.cell? ⟨g, 6 + i, none⟩ = some (.slice B m d) := ((h.blk 1 rfl).cell (6 + i)).trans HTW.out
          have H5 := hide h
          clear h HXS HALL HG
          go_wp2_with fail
          clear ch cw
          go_loopg [5, 8] m (fun gh sv iv wr => ∃ (k q : Nat) (C : Option Addr) (ce : Nat) (xs : List Int), gh = m - k ∧ k ≤ m ∧ sv = .slice C q ce ∧ iv = .int .i64 (k : Nat) ∧ q = xs.length ∧ q ≤ 4 + k ∧ xs = hs.map HoldM.c ++ (ws.take k).map WantM.c ∧ (ws.take k).all wantFine = true ∧
            St M0 wr (rowR 3 1 (.slice C q ce) q (xs.map (.int .i64)) :: docB g now last vs :: docS vs r :: L))
          case atStart => exact ⟨0, q, C, ce, xs, rfl, by omega, rfl, rfl, HQ.out, by omega, by rw [HXH.out]; simp, by simp, H5.out⟩
          case round =>
            clear H5 HXH HQ hqn hqk
            clear q C ce xs
            obtain ⟨k, q, C, ce, xs, hg, hk, rfl, rfl, hq, hqk, hxs, hall, h⟩ := hrel
            have HG := hide hg
            have HQ := hide hq
            have HXS := hide hxs
            have HALL := hide hall
            clear hg hq hxs hall
            have cw : wr.cell? ⟨g, 6 + i, none⟩ = some (.slice B m d) := ((h.blk 1 rfl).cell (6 + i)).trans HTW.out
            by_cases hlt : k < m
            · have hx := List.getElem?_eq_getElem (l := ws) (i := k) (by rw [← HM.out]; exact hlt)
              generalize ws[k]'(by rw [← HM.out]; exact hlt) = z at hx
              obtain ⟨ad, hA, hcs⟩ := (HV.out _ (h.get 2 rfl)).2.at_ wantC_len hx
              subst hA
              obtain ⟨e0, e1⟩ := cells2F hcs
              obtain ⟨d1, hd1⟩ : ∃ d1, decide (z.m < 1) = d1 := ⟨_, rfl⟩
              obtain ⟨d2, hd2⟩ : ∃ d2, decide (z.m > 2) = d2 := ⟨_, rfl⟩
              have hd2' : decide (2 < z.m) = d2 := hd2
              have HF := hide (show wantFine z = (!d1 && !d2) by unfold wantFine; rw [hd1, hd2])
              have HE := hide (show wantFine z = false → fb = false from fun hz => by
                rw [HC.out]
                have : ws.all wantFine = false := by
                  rw [List.all_eq_false]
                  exact ⟨z, List.mem_of_getElem? hx, by rw [hz]; exact Bool.false_ne_true⟩
                rw [this, Bool.and_false]
                rfl)
              have HX2 := hide (show hs.map HoldM.c ++ (ws.take (k + 1)).map WantM.c = xs ++ [z.c] by rw [HXS.out, List.take_add_one, hx]; simp)
              have HA2 := hide (show wantFine z = true → (ws.take (k + 1)).all wantFine = true from fun hz => by rw [List.take_add_one, hx, List.all_append, HALL.out]; simp [hz])
              have k0 : (0 : Int) ≤ (k : Int) := by omega
              have k1 : (k : Int) < (m : Int) := by omega
              have h4 := h.alloc 87 #[.int .i64 z.c, .int .i64 z.m]
              generalize hy : wr.heap.size = y at h4
              have HY := hide hy
              have H4 := hide h4
              clear h h4 hx hcs hy
              cases d1 with
              | true =>
                have E := hide (HE.out HF.out)
                go_wp2_with fail
                go_ret
                exact ⟨by rw [E.out]; try rfl, H4.out.tail.tail⟩
              | false =>
               cases d2 with
               | true =>
                have E := hide (HE.out HF.out)
                go_wp2_with fail
                go_ret
                exact ⟨by rw [E.out]; try rfl, H4.out.tail.tail⟩
               | false =>
                have HGO := hide (HA2.out HF.out)
                have h7 := ((H4.out.front (X := rowR 3 1 (.slice C q ce) q (xs.map (.int .i64))) (by (repeat (first | with_reducible exact At.here | with_reducible apply At.there)))).alloc 3 #[.int .i64 z.c]).swap
                rw [World.size_alloc, HY.out] at h7
                have HB := hide (h7.blk 1 rfl)
                have H7 := hide h7
                clear h7 H4 HE HA2
                go_wp2_with (at_builtin; refine St.app_step intK_row H7.out rfl _ _ rfl rfl (some ⟨y + 1, 0, none⟩) 1 1 (by rw [HY.out]; rfl) [.int .i64 z.c] (sl_blkT (cs := [.int .i64 z.c]) HB.out) (by intro u hu; simp at hu; subst hu; rfl) (by omega) (by omega) ?_; intro A6 c6 w7 h9)
                have h10 := h9.sub (L' := rowR 3 1 (.slice A6 (q + 1) c6) (q + 1) (xs.map (.int .i64) ++ [.int .i64 z.c]) :: docB g now last vs :: docS vs r :: L) (by (repeat (first | with_reducible exact Sub.refl _ | (with_reducible apply Sub.take; focus (repeat (first | with_reducible exact At.here | with_reducible apply At.there))) | with_reducible apply Sub.drop)))
                rw [show xs.map (Value.int .i64) ++ [.int .i64 z.c] = (xs ++ [z.c]).map (.int .i64) by rw [List.map_append]; rfl] at h10
                have H10 := hide h10
                clear h9 h10 H7 HB e0 e1 cw
                go_wp2_with fail
                go_roundg (m - (k + 1))
                case measure => have := HG.out; omega
                case rel => exact ⟨k + 1, q + 1, A6, c6, xs ++ [z.c], rfl, by omega, rfl, by go_num, by rw [List.length_append, ← HQ.out]; rfl, by omega, HX2.out.symm, HGO.out, H10.out⟩
            · obtain rfl : m = k := by omega
              have HC2 := hide (show fb = whoOk xs by
                rw [HC.out, HAH.out, HXS.out]
                rw [List.take_of_length_le (by rw [← HM.out]; exact Nat.le_refl _)] at HALL ⊢
                rw [HALL.out]
                rfl)
              have H5 := hide (St.ints (xs := xs) h)
              clear h HXS HALL HG HC
              go_wp2_with fail
              clear cw
              go_loopg [10] q (fun gh iv wr => ∃ (k : Nat), gh = q - k ∧ k ≤ q ∧ iv = .int .i64 (k : Nat) ∧ whoOk (xs.take k) = true ∧ St M0 wr (intsR .i64 (.slice C q ce) xs :: docB g now last vs :: docS vs r :: L))
              case atStart => exact ⟨0, rfl, by omega, rfl, rfl, H5.out⟩
              case round =>
                clear H5
                obtain ⟨k, hg, hk, rfl, hwho, h⟩ := hrel
                have HG := hide hg
                have HWHO := hide hwho
                clear hg hwho
                by_cases hlt : k < q
                · have hx := List.getElem?_eq_getElem (l := xs) (i := k) (by rw [← HQ.out]; exact hlt)
                  generalize xs[k]'(by rw [← HQ.out]; exact hlt) = z at hx
                  obtain ⟨ad, rfl, _⟩ := Ints.at_ (h.get 0 rfl) hx
                  have HX := hide hx
                  have HS := hide (show whoOk (xs.take (k + 1)) = (!(xs.take k).contains z && decide (z ≤ 15)) by rw [List.take_add_one, hx]; show whoOk (xs.take k ++ [z]) = _; rw [whoOk_snoc, HWHO.out]; rfl)
                  have k0 : (0 : Int) ≤ (k : Int) := by omega
                  have k1 : (k : Int) < (q : Int) := by omega
                  have H5 := hide h
                  clear h hx
                  go_wp2_with fail
                  go_loopg [11] k (fun gh jv wr => ∃ (j : Nat), gh = k - j ∧ j ≤ k ∧ jv = .int .i64 (j : Nat) ∧ (∀ a ∈ xs.take j, a ≠ z) ∧ St M0 wr (intsR .i64 (.slice (some ad) q ce) xs :: docB g now last vs :: docS vs r :: L))
                  case atStart => exact ⟨0, rfl, by omega, rfl, fun a ha => by simp at ha, H5.out⟩
                  case round =>
                    clear H5
                    obtain ⟨j, hgj, hj, rfl, hno, h⟩ := hrel
                    have HGJ := hide hgj
                    have HNO := hide hno
                    clear hgj hno
                    obtain ⟨ad', hae, ek⟩ := Ints.at_ (h.get 0 rfl) HX.out
                    cases hae
                    by_cases hjk : j < k
                    · have hy := List.getElem?_eq_getElem (l := xs) (i := j) (by rw [← HQ.out]; omega)
                      generalize xs[j]'(by rw [← HQ.out]; omega) = y at hy
                      obtain ⟨ad', hae, ej⟩ := Ints.at_ (h.get 0 rfl) hy
                      cases hae
                      have j0 : (0 : Int) ≤ (j : Int) := by omega
                      have j1 : (j : Int) < (q : Int) := by omega
                      have j2 : (j : Int) < (k : Int) := by omega
                      have HY := hide hy
                      have H5 := hide h
                      clear h hy
                      by_cases hyz : z = y
                      · have b1 := isT hyz
                        have b2 := isT hyz.symm
                        have E := hide (show fb = false by
                          rw [HC2.out]
                          refine whoOk_take (k := k + 1) ?_
                          rw [HS.out]
                          have hm : z ∈ xs.take k := by
                            rw [hyz]
                            refine List.mem_of_getElem? (i := j) ?_
                            rw [List.getElem?_take, if_pos hjk]
                            exact HY.out
                          simp [List.contains_eq_mem, hm])
                        clear hyz
                        go_wp2_with fail
                        go_quiet (fail)
                        go_wp2_with fail
                        go_ret
                        exact ⟨by rw [E.out]; try rfl, H5.out.tail.drewN _⟩
                      · have b1 := isF hyz
                        have b2 := isF (fun e : y = z => hyz e.symm)
                        have HN2 := hide (show ∀ a ∈ xs.take (j + 1), a ≠ z from fun a ha => by
                          rw [List.take_add_one, HY.out] at ha
                          rcases List.mem_append.1 ha with ha | ha
                          · exact HNO.out a ha
                          · simp at ha
                            rw [ha]
                            exact fun e => hyz e.symm)
                        clear hyz
                        go_wp2_with fail
                        go_quiet (fail)
                        go_wp2_with fail
                        go_roundg (k - (j + 1))
                        case measure => have := HGJ.out; omega
                        case rel => exact ⟨j + 1, rfl, by omega, by go_num, HN2.out, H5.out.drewN _⟩
                    · obtain rfl : k = j := by omega
                      have HCT := hide (show (xs.take k).contains z = false by
                        rw [List.contains_eq_mem, decide_eq_false_iff_not]
                        exact fun hm => HNO.out z hm rfl)
                      have H5 := hide h
                      clear h
                      by_cases hz : z ≤ 15
                      · have b1 : decide (z > 15) = false := decide_eq_false (by omega)
                        have b1' : decide (15 < z) = false := b1
                        have HW2 := hide (show whoOk (xs.take (k + 1)) = true by rw [HS.out, HCT.out, decide_eq_true hz]; rfl)
                        clear hz
                        go_wp2_with fail
                        go_roundg (q - (k + 1))
                        case measure => have := HG.out; omega
                        case rel => exact ⟨k + 1, rfl, by omega, by go_num, HW2.out, H5.out⟩
                      · have b1 : decide (z > 15) = true := decide_eq_true (by omega)
                        have b1' : decide (15 < z) = true := b1
                        have E := hide (show fb = false by
                          rw [HC2.out]
                          refine whoOk_take (k := k + 1) ?_
                          rw [HS.out, HCT.out, decide_eq_false hz]
                          rfl)
                        clear hz
                        go_wp2_with fail
                        go_ret
                        exact ⟨by rw [E.out]; try rfl, H5.out.tail⟩
                · obtain rfl : q = k := by omega
                  have E := hide (show fb = true by rw [HC2.out, ← List.take_of_length_le (l := xs) (i := q) (by rw [← HQ.out]; exact Nat.le_refl _)]; exact HWHO.out)
                  have H5 := hide h.tail
                  clear h
                  go_wp2_with fail
                  go_ret
                  exact ⟨by rw [E.out]; try rfl, H5.out⟩
end Go.Proofs.Ytbgknfdaaffeaaa
/- Locks, the document: until, Right, Hold, Want, held. Printed by gen_lkx6.py. -/
namespace Go.Proofs.Ytbgknfdaaffeaaa
open Go.RowKit Go.Shelf

theorem idxL_at {α : Type} {p : α → Bool} {l : List α} {k : Nat} {x : α} (h1 : (l.take k).any p = false) (h2 : l[k]? = some x) (h3 : p x = true) : idxL p 0 l = (k : Int) := by
  rcases idxL_spec p l 0 with ⟨_, hn⟩ | ⟨j, y, e, hy, hpy, hno⟩
  · have := List.any_eq_false.1 hn x (List.mem_of_getElem? h2)
    exact absurd h3 this
  · rw [e, Nat.zero_add]
    congr 1
    rcases Nat.lt_trichotomy j k with hjk | hjk | hjk
    · have hm : y ∈ l.take k := List.mem_of_getElem? (i := j) (by rw [List.getElem?_take, if_pos hjk]; exact hy)
      exact absurd hpy (List.any_eq_false.1 h1 y hm)
    · exact hjk
    · have hm : x ∈ l.take j := List.mem_of_getElem? (i := k) (by rw [List.getElem?_take, if_pos hjk]; exact h2)
      exact absurd h3 (List.any_eq_false.1 hno x hm)
theorem idxL_no {α : Type} {p : α → Bool} {l : List α} (h : l.any p = false) : idxL p 0 l = -1 := by
  rcases idxL_spec p l 0 with ⟨e, _⟩ | ⟨j, y, e, hy, hpy, hno⟩
  · exact e
  · exact absurd hpy (List.any_eq_false.1 h y (List.mem_of_getElem? hy))
set_option maxHeartbeats 400000 in
theorem runtil_st {M0 : Imm} {L : List Res} (g : Nat) (now : Int) (w : World) (h0 : 0 ≤ now) (h1 : now ≤ 18446744073709551615) (hc : w.cell? ⟨g, 0, none⟩ = some (.int .u64 now)) (h : St M0 w L) :
    Calls Try.prog 128 #[.pointer (some ⟨g, 0, none⟩)] w fun e w' => e = .returned (.int .u64 (untilI now)) ∧ St M0 w' L := by
  have H := hide h
  have ws : IntKind.u64.wrap (18446744073709551615 - now) = 18446744073709551615 - now := IntWalk.u64_in _ (by omega)
  clear h
  by_cases hb : now > 18446744073709551605
  · have d1 : decide (18446744073709551615 - now < 10) = true := decide_eq_true (by omega)
    have E := hide (show untilI now = 18446744073709551615 from if_pos hb)
    clear hb h1 h0
    go_enter Try.func128, Try.ntmps128
    go_wp2_with fail
    go_ret
    exact ⟨by rw [E.out]; try rfl, H.out⟩
  · have d1 : decide (18446744073709551615 - now < 10) = false := decide_eq_false (by omega)
    have E := hide (show untilI now = now + 10 from if_neg hb)
    have w1 : IntKind.u64.wrap (now + 10) = now + 10 := IntWalk.u64_in _ (by omega)
    clear hb h1 h0
    go_enter Try.func128, Try.ntmps128
    go_wp2_with fail
    go_ret
    exact ⟨by rw [E.out]; try rfl, H.out⟩
set_option maxHeartbeats 400000 in
theorem rright_st {M0 : Imm} {L : List Res} (c r : Int) (w : World) (h : St M0 w L) : Calls Try.prog 123 #[.int .i64 c, .int .i64 r] w fun e w' => e = .returned (.int .i64 (rightE c r)) ∧ St M0 w' L := by
  obtain ⟨d1, hd1⟩ : ∃ d1, decide (c < 0) = d1 := ⟨_, rfl⟩
  obtain ⟨d2, hd2⟩ : ∃ d2, decide (c > 15) = d2 := ⟨_, rfl⟩
  have hd2' : decide (15 < c) = d2 := hd2
  obtain ⟨d3, hd3⟩ : ∃ d3, decide (r < 0) = d3 := ⟨_, rfl⟩
  obtain ⟨d4, hd4⟩ : ∃ d4, decide (r > 3) = d4 := ⟨_, rfl⟩
  have hd4' : decide (3 < r) = d4 := hd4
  have E := hide (show rightE c r = if d1 = true ∨ d2 = true then 31 else if d3 = true ∨ d4 = true then 93 else 0 by
    unfold rightE nodeB thereB
    rw [← hd1, ← hd2, ← hd3, ← hd4]
    simp
    split <;> split <;> try rfl
    all_goals (first | omega | (split <;> split <;> first | rfl | omega) | skip))
  have H := hide h
  clear h
  go_enter Try.func123, Try.ntmps123
  cases d1
  case' false => cases d2
  case' false.false => cases d3
  case' false.false.false => cases d4
  all_goals (go_wp2_with fail; go_ret; exact ⟨by rw [E.out]; rfl, H.out⟩)
set_option maxHeartbeats 1000000 in
set_option maxRecDepth 100000 in
theorem rhold_st {M0 : Imm} {L : List Res} (g i : Nat) (cl now last : Int) (vs : Nat → RegV) (r : Nat → RegM) (w : World) (hi4 : i < 4) (h : St M0 w (docB g now last vs :: docS vs r :: L)) :
    Calls Try.prog 124 #[.pointer (some ⟨g, 0, none⟩), .int .i64 cl, .int .i64 (i : Nat)] w fun e w' => e = .returned (.int .i64 (idxL (fun x : HoldM => x.c == cl) 0 (r i).h)) ∧ St M0 w' (docB g now last vs :: docS vs r :: L) := by
  have i0 : (0 : Int) ≤ (i : Int) := by omega
  have i1 : (i : Int) < 4 := by omega
  obtain ⟨⟨A, n, c⟩, hvi⟩ : ∃ hv, (vs i).h = hv := ⟨_, rfl⟩
  obtain ⟨l, hl⟩ : ∃ l, l = (r i).h := ⟨_, rfl⟩
  rw [← hl]
  have HT := hide (show (docC now last vs)[2 + i]? = some (.slice A n c) by refine (docC_h now last vs hi4).trans ?_; rw [hvi])
  have HV := hide (show ∀ W, docP vs r W → FlatP holdC 4 W (.slice A n c) l from fun W hW => by
    have := (hW i hi4).1
    rw [hvi, ← hl] at this
    exact this)
  obtain ⟨hn0, hnc, hcm, _⟩ := (HV.out _ (h.get 1 rfl)).sl
  have hn : n = l.length := hn0
  have HN := hide hn
  have H := hide h
  clear h hvi hl hn0 hn
  go_enter Try.func124, Try.ntmps124
  go_wp2_with fail
  go_loopg [7] n (fun gh iv wr => ∃ (k : Nat), gh = n - k ∧ k ≤ n ∧ iv = .int .i64 (k : Nat) ∧ (l.take k).any (fun x => x.c == cl) = false ∧ St M0 wr (docB g now last vs :: docS vs r :: L))
  case atStart => exact ⟨0, rfl, by omega, rfl, by simp, H.out⟩
  case round =>
    clear H
    obtain ⟨k, hg, hk, rfl, hno, h⟩ := hrel
    have HG := hide hg
    have HNO := hide hno
    have ch : wr.cell? ⟨g, 2 + i, none⟩ = some (.slice A n c) := ((h.blk 0 rfl).cell (2 + i)).trans HT.out
    clear hg hno
    by_cases hlt : k < n
    · have hx := List.getElem?_eq_getElem (l := l) (i := k) (by rw [← HN.out]; exact hlt)
      generalize l[k]'(by rw [← HN.out]; exact hlt) = x at hx
      obtain ⟨ad, rfl, hcs⟩ := (HV.out _ (h.get 1 rfl)).at_ holdC_len hx
      obtain ⟨e0, e1, e2, e3⟩ := cells4F hcs
      have k0 : (0 : Int) ≤ (k : Int) := by omega
      have k1 : (k : Int) < (n : Int) := by omega
      have H1 := hide h
      have HX := hide hx
      clear h hx hcs
      by_cases he : x.c = cl
      · have b1 := isT he
        have E := hide (idxL_at HNO.out HX.out b1)
        clear he
        go_wp2_with fail
        go_ret
        exact ⟨by rw [E.out]; try rfl, H1.out⟩
      · have b1 := isF he
        have HN2 := hide (show (l.take (k + 1)).any (fun x => x.c == cl) = false by
          rw [List.take_add_one, HX.out, List.any_append, HNO.out]
          simp [b1])
        clear he
        go_wp2_with fail
        go_roundg (n - (k + 1))
        case measure => have := HG.out; omega
        case rel => exact ⟨k + 1, rfl, by omega, by go_num, HN2.out, H1.out⟩
    · obtain rfl : n = k := by omega
      have E := hide (show idxL (fun x => x.c == cl) 0 l = -1 from idxL_no (by
        have := HNO.out
        rw [List.take_of_length_le (by rw [← HN.out]; exact Nat.le_refl _)] at this
        exact this))
      have H1 := hide h
      clear h
      go_wp2_with fail
      go_ret
      exact ⟨by rw [E.out]; try rfl, H1.out⟩
set_option maxHeartbeats 1000000 in
set_option maxRecDepth 100000 in
theorem rwant_st {M0 : Imm} {L : List Res} (g i : Nat) (cl now last : Int) (vs : Nat → RegV) (r : Nat → RegM) (w : World) (hi4 : i < 4) (h : St M0 w (docB g now last vs :: docS vs r :: L)) :
    Calls Try.prog 125 #[.pointer (some ⟨g, 0, none⟩), .int .i64 cl, .int .i64 (i : Nat)] w fun e w' => e = .returned (.int .i64 (idxL (fun x : WantM => x.c == cl) 0 (r i).w)) ∧ St M0 w' (docB g now last vs :: docS vs r :: L) := by
  have i0 : (0 : Int) ≤ (i : Int) := by omega
  have i1 : (i : Int) < 4 := by omega
  obtain ⟨⟨A, n, c⟩, hvi⟩ : ∃ hv, (vs i).w = hv := ⟨_, rfl⟩
  obtain ⟨l, hl⟩ : ∃ l, l = (r i).w := ⟨_, rfl⟩
  rw [← hl]
  have HT := hide (show (docC now last vs)[6 + i]? = some (.slice A n c) by refine (docC_w now last vs hi4).trans ?_; rw [hvi])
  have HV := hide (show ∀ W, docP vs r W → FlatP wantC 2 W (.slice A n c) l from fun W hW => by
    have := (hW i hi4).2
    rw [hvi, ← hl] at this
    exact this)
  obtain ⟨hn0, hnc, hcm, _⟩ := (HV.out _ (h.get 1 rfl)).sl
  have hn : n = l.length := hn0
  have HN := hide hn
  have H := hide h
  clear h hvi hl hn0 hn
  go_enter Try.func125, Try.ntmps125
  go_wp2_with fail
  go_loopg [7] n (fun gh iv wr => ∃ (k : Nat), gh = n - k ∧ k ≤ n ∧ iv = .int .i64 (k : Nat) ∧ (l.take k).any (fun x => x.c == cl) = false ∧ St M0 wr (docB g now last vs :: docS vs r :: L))
  case atStart => exact ⟨0, rfl, by omega, rfl, by simp, H.out⟩
  case round =>
    clear H
    obtain ⟨k, hg, hk, rfl, hno, h⟩ := hrel
    have HG := hide hg
    have HNO := hide hno
    have ch : wr.cell? ⟨g, 6 + i, none⟩ = some (.slice A n c) := ((h.blk 0 rfl).cell (6 + i)).trans HT.out
    clear hg hno
    by_cases hlt : k < n
    · have hx := List.getElem?_eq_getElem (l := l) (i := k) (by rw [← HN.out]; exact hlt)
      generalize l[k]'(by rw [← HN.out]; exact hlt) = x at hx
      obtain ⟨ad, rfl, hcs⟩ := (HV.out _ (h.get 1 rfl)).at_ wantC_len hx
      obtain ⟨e0, e1⟩ := cells2F hcs
      have k0 : (0 : Int) ≤ (k : Int) := by omega
      have k1 : (k : Int) < (n : Int) := by omega
      have H1 := hide h
      have HX := hide hx
      clear h hx hcs
      by_cases he : x.c = cl
      · have b1 := isT he
        have E := hide (idxL_at HNO.out HX.out b1)
        clear he
        go_wp2_with fail
        go_ret
        exact ⟨by rw [E.out]; try rfl, H1.out⟩
      · have b1 := isF he
        have HN2 := hide (show (l.take (k + 1)).any (fun x => x.c == cl) = false by
          rw [List.take_add_one, HX.out, List.any_append, HNO.out]
          simp [b1])
        clear he
        go_wp2_with fail
        go_roundg (n - (k + 1))
        case measure => have := HG.out; omega
        case rel => exact ⟨k + 1, rfl, by omega, by go_num, HN2.out, H1.out⟩
    · obtain rfl : n = k := by omega
      have E := hide (show idxL (fun x => x.c == cl) 0 l = -1 from idxL_no (by
        have := HNO.out
        rw [List.take_of_length_le (by rw [← HN.out]; exact Nat.le_refl _)] at this
        exact this))
      have H1 := hide h
      clear h
      go_wp2_with fail
      go_ret
      exact ⟨by rw [E.out]; try rfl, H1.out⟩
end Go.Proofs.Ytbgknfdaaffeaaa
/- Locks, the document: give, all. Printed by gen_lkx7.py. -/
namespace Go.Proofs.Ytbgknfdaaffeaaa
open Go.RowKit Go.Shelf

def newH (now last : Int) (x : WantM) : HoldM := ⟨x.c, x.m, last + 1, untilI now⟩
def RGiveQ (M0 : Imm) (L : List Res) (g i : Nat) (now last : Int) (vs : Nat → RegV) (r : Nat → RegM) (hs : List HoldM) (ws : List WantM) (e : Ending) (w' : World) : Prop :=
  (e = .returned (.bool false) ∧ giveL now ws hs last = (ws, hs, last) ∧ St M0 w' (docB g now last vs :: docS vs r :: L)) ∨
  (e = .returned (.bool true) ∧ ∃ x ws', ws = x :: ws' ∧ (giveL now ws hs last = giveL now ws' (hs ++ [⟨x.c, x.m, last + 1, untilI now⟩]) (last + 1) ∧ last < 18446744073709551615 ∧ hs.length < 4) ∧ ∃ vs', St M0 w' (docB g now (last + 1) vs' :: docS vs' (upd r i ⟨hs ++ [⟨x.c, x.m, last + 1, untilI now⟩], ws'⟩) :: L))
set_option maxHeartbeats 8000000 in
set_option maxRecDepth 100000 in
theorem rgive_st {M0 : Imm} {L : List Res} (g i : Nat) (now last : Int) (vs : Nat → RegV) (r : Nat → RegM) (hs : List HoldM) (ws0 : List WantM) (w : World) (hi4 : i < 4) (hri : r i = ⟨hs, ws0⟩) (hnow : 0 ≤ now ∧ now ≤ 18446744073709551615) (hlast : 0 ≤ last ∧ last ≤ 18446744073709551615) (hmh : ∀ x ∈ hs, modeB x.m = true) (hmw : ∀ x ∈ ws0, modeB x.m = true)
    (h : St M0 w (docB g now last vs :: docS vs r :: L)) :
    Calls Try.prog 153 #[.pointer (some ⟨g, 0, none⟩), .int .i64 (i : Nat)] w fun e w' => RGiveQ M0 L g i now last vs r hs ws0 e w' := by
  have i0 : (0 : Int) ≤ (i : Int) := by omega
  have i1 : (i : Int) < 4 := by omega
  have HNOW := hide hnow
  obtain ⟨⟨A, n, c⟩, ⟨B, m, d⟩, hvi⟩ : ∃ hv wv, vs i = ⟨hv, wv⟩ := ⟨_, _, rfl⟩
  have HTH := hide (show (docC now last vs)[2 + i]? = some (.slice A n c) by refine (docC_h now last vs hi4).trans ?_; rw [hvi])
  have HTW := hide (show (docC now last vs)[6 + i]? = some (.slice B m d) by refine (docC_w now last vs hi4).trans ?_; rw [hvi])
  have HV := hide (show ∀ W, docP vs r W → FlatP holdC 4 W (.slice A n c) hs ∧ FlatP wantC 2 W (.slice B m d) ws0 from fun W hW => by
    have := hW i hi4
    rw [hvi, hri] at this
    exact this)
  have hf := HV.out _ (h.get 1 rfl)
  obtain ⟨hn0, hnc, hcm, _⟩ := hf.1.sl
  obtain ⟨hm0, hmd, hdm, _⟩ := hf.2.sl
  have hn : n = hs.length := hn0
  have hm : m = ws0.length := hm0
  have HN := hide hn
  have HM := hide hm
  have HVI := hide hvi
  have HRI := hide hri
  have HMH := hide hmh
  have HMW := hide hmw
  have ch : w.cell? ⟨g, 2 + i, none⟩ = some (.slice A n c) := ((h.blk 0 rfl).cell (2 + i)).trans HTH.out
  have cw : w.cell? ⟨g, 6 + i, none⟩ = some (.slice B m d) := ((h.blk 0 rfl).cell (6 + i)).trans HTW.out
  have c1 : w.cell? ⟨g, 1, none⟩ = some (.int .u64 last) := (h.blk 0 rfl).cell 1
  have H := hide h
  clear h hvi hri hf hn0 hm0 hn hm hmh hmw hnow
  go_enter Try.func153, Try.ntmps153
  cases hws : ws0 with
  | nil =>
    have hm0 : m = 0 := by have := HM.out; rw [hws] at this; exact this
    subst hm0
    clear hws
    go_wp2_with fail
    go_ret
    exact .inl ⟨rfl, rfl, H.out⟩
  | cons x ws =>
    have hm1 : m = ws.length + 1 := by have := HM.out; rw [hws] at this; exact this
    have m1 : ((m : Int) == 0) = false := isF (by omega)
    have m2 : 0 < m := by omega
    clear hm1
    have HXM := hide (HMW.out x (by rw [hws]; simp))
    have HX0 := hide (show ws0[0]? = some x by rw [hws]; rfl)
    by_cases h4 : n < 4
    case' neg =>
      have d1 : decide ((n : Int) ≥ 4) = true := decide_eq_true (by omega)
      have d1' : decide ((4 : Int) ≤ (n : Int)) = true := d1
      have E := hide (show giveL now (x :: ws) hs last = (x :: ws, hs, last) from if_neg (fun hh => h4 (by rw [HN.out]; exact hh.1)))
      clear h4 hws
      go_wp2_with fail
      go_ret
      exact .inl ⟨rfl, E.out, H.out⟩
    case pos =>
      have d1 : decide ((n : Int) ≥ 4) = false := decide_eq_false (by omega)
      have d1' : decide ((4 : Int) ≤ (n : Int)) = false := d1
      by_cases hl : last = 18446744073709551615
      case' pos =>
        have b1 := isT hl
        have E := hide (show giveL now (x :: ws) hs last = (x :: ws, hs, last) from if_neg (fun hh => by have := hh.2.2; omega))
        clear hl hws
        go_wp2_with fail
        go_ret
        exact .inl ⟨rfl, E.out, H.out⟩
      case neg =>
        have b1 := isF hl
        have hf := HV.out _ (H.out.get 1 rfl)
        obtain ⟨adB, hB, hcB⟩ := hf.2.at_ wantC_len HX0.out
        rw [addW0] at hcB
        obtain ⟨f0, f1⟩ := cells2F hcB
        subst hB
        have h5 := H.out.alloc 87 #[.int .i64 x.c, .int .i64 x.m]
        generalize hy : w.heap.size = y at h5
        have HY := hide hy
        have H5 := hide h5
        have HLN := hide hl
        clear h5 hf hcB H hy hl
        go_wp2_with fail
        rw [HY.out]
        clear HY f0 f1 ch cw c1
        refine region_tail 8 (by kernel_rfl) (by kernel_rfl) (fun W hW => ?_)
        have H6 := hide (H5.out.drew)
        rw [← hW] at H6
        have g0 : W.cell? ⟨g, 2 + i, none⟩ = some (.slice A n c) := ((H6.out.blk 1 rfl).cell (2 + i)).trans HTH.out
        have g1 : W.cell? ⟨y, 1, none⟩ = some (.int .i64 x.m) := (H6.out.blk 0 rfl).cell 1
        clear hW H5
        simp only [List.take_succ_cons, List.take_zero, List.drop_succ_cons, List.drop_zero]
        repeat still_step
        try refine wpStill_nil ?_
        go_wp2_with fail
        refine (bearsR_st A n c hs x.m _ (fun W' hw => (HV.out _ (hw.get 2 rfl)).1) H6.out).mono ?_
        rintro e w5 ⟨rfl, h⟩
        have hsoft : hs.any (softB x.m) = hs.any (hardB x.m) := by
          rw [Bool.eq_iff_iff, List.any_eq_true, List.any_eq_true]
          exact ⟨fun ⟨z, hz, hb⟩ => ⟨z, hz, by rw [← softB_hard (HMH.out z hz) HXM.out]; exact hb⟩, fun ⟨z, hz, hb⟩ => ⟨z, hz, by rw [softB_hard (HMH.out z hz) HXM.out]; exact hb⟩⟩
        rw [hsoft]
        have H7 := hide h
        clear h H6 g0 g1 hsoft
        cases hb : hs.any (hardB x.m) with
        | true =>
          have E := hide (show giveL now (x :: ws) hs last = (x :: ws, hs, last) from if_neg (fun hh => by have := hh.2.1; rw [hb] at this; cases this))
          clear hb hws
          go_wp2_with fail
          go_ret
          exact .inl ⟨rfl, E.out, H7.out.tail⟩
        | false =>
          have HGV := hide (show giveL now (x :: ws) hs last = giveL now ws (hs ++ [⟨x.c, x.m, last + 1, untilI now⟩]) (last + 1) ∧ last < 18446744073709551615 ∧ hs.length < 4 from ⟨if_pos ⟨by rw [← HN.out]; exact h4, hb, by have := HLN.out; omega⟩, by have := HLN.out; omega, by rw [← HN.out]; exact h4⟩)
          clear hb
          go_upto_region 7 with fail
          go_cut [58] (fun sv wx => sv = .slice (some adB) m d ∧ ∃ B2 : Option Addr, (∀ ad', some adB = some ad' → d ≠ 1 → B2 = some (ad'.add 2)) ∧ St M0 wx (blkR y 87 #[.int .i64 x.c, .int .i64 x.m] :: docB g now last (upd vs i ⟨(vs i).h, ⟨B2, m - 1, d - 1⟩⟩) :: docS vs r :: L))
          case first =>
            have hmd1 : (1 : Int) ≤ (m : Int) := by omega
            have hmd2 : (m : Int) ≤ (d : Int) := by omega
            have hmd3 : (1 : Int) ≤ (d : Int) := by omega
            have hmd4 : (0 : Int) ≤ (m : Int) := by omega
            by_cases hd1 : d = 1
            case' pos =>
              subst hd1
              obtain rfl : m = 1 := by omega
            all_goals
              refine region_tail 12 (by kernel_rfl) (by kernel_rfl) (fun W hW => ?_)
              have H8 := hide (H7.out.drew)
              rw [← hW] at H8
              have g0 : W.cell? ⟨g, 6 + i, none⟩ = some _ := ((H8.out.blk 1 rfl).cell (6 + i)).trans HTW.out
              have f0 := (H8.out.blk 1 rfl).frozen (6 + i)
              clear hW H7
              simp only [List.take_succ_cons, List.take_zero, List.drop_succ_cons, List.drop_zero]
              repeat still_step
              try refine wpStill_nil ?_
            case pos =>
              have H9 := hide ((H8.out.swap.put_ (6 + i) (.slice (some adB) (1 - 1) (1 - 1)) (docC now last (upd vs i ⟨(vs i).h, ⟨some adB, 1 - 1, 1 - 1⟩⟩)) (docC_setw now last vs hi4 ⟨some adB, 1 - 1, 1 - 1⟩)).swap)
              clear H8
              go_wp2_with fail
              go_meet
              exact ⟨rfl, some adB, fun _ _ hne => absurd rfl hne, H9.out⟩
            case neg =>
              have H9 := hide ((H8.out.swap.put_ (6 + i) (.slice (some (adB.add 2)) (m - 1) (d - 1)) (docC now last (upd vs i ⟨(vs i).h, ⟨some (adB.add 2), m - 1, d - 1⟩⟩)) (docC_setw now last vs hi4 ⟨some (adB.add 2), m - 1, d - 1⟩)).swap)
              clear H8
              go_wp2_with fail
              go_meet
              exact ⟨rfl, _, fun ad' he _ => by cases he; rfl, H9.out⟩
          case rest =>
            clear H7
            obtain ⟨rfl, B2, hB2, h⟩ := hcut
            obtain ⟨vs2, hvs2⟩ : ∃ vs2, vs2 = upd vs i ⟨(vs i).h, ⟨B2, m - 1, d - 1⟩⟩ := ⟨_, rfl⟩
            obtain ⟨r2, hr2⟩ : ∃ r2, r2 = upd r i ⟨hs, ws⟩ := ⟨_, rfl⟩
            rw [← hvs2] at h
            have hvi2 : vs2 i = ⟨⟨A, n, c⟩, ⟨B2, m - 1, d - 1⟩⟩ := by rw [hvs2, updT_same, HVI.out]
            have h6 := ((h.sub (L' := docS vs r :: blkR y 87 #[.int .i64 x.c, .int .i64 x.m] :: docB g now last vs2 :: L) (by (repeat (first | with_reducible exact Sub.refl _ | (with_reducible apply Sub.take; focus (repeat (first | with_reducible exact At.here | with_reducible apply At.there))) | with_reducible apply Sub.drop)))).pers1 (R' := docP vs2 r2) (fun w' a j hj => by
              by_cases e : j = i
              · subst e
                have h9 := HV.out _ a
                rw [hvi2, hr2, updT_same]
                rw [hws] at h9
                exact ⟨h9.1, h9.2.tail wantC_len (by omega) hB2⟩
              · rw [hvs2, hr2, updT_ne _ _ e, updT_ne _ _ e]
                exact a j hj))
            have HTH2 := hide (show (docC now (last + 1) vs2)[2 + i]? = some (.slice A n c) by refine (docC_h now (last + 1) vs2 hi4).trans ?_; rw [hvi2])
            have HV2 := hide (show ∀ W, docP vs2 r2 W → FlatP holdC 4 W (.slice A n c) hs from fun W hW => by
              have := (hW i hi4).1
              rw [hvi2, hr2, updT_same] at this
              exact this)
            have HRW := hide (show (r2 i).w = ws by rw [hr2, updT_same])
            have HRO := hide (show ∀ j, j ≠ i → r2 j = r j from fun j hj => by rw [hr2, updT_ne _ _ hj])
            have wl : IntKind.u64.wrap (last + 1) = last + 1 := IntWalk.u64_in _ (by have := HLN.out; omega)
            have h7 := h6.sub (L' := docB g now last vs2 :: blkR y 87 #[.int .i64 x.c, .int .i64 x.m] :: docS vs2 r2 :: L) (by (repeat (first | with_reducible exact Sub.refl _ | (with_reducible apply Sub.take; focus (repeat (first | with_reducible exact At.here | with_reducible apply At.there))) | with_reducible apply Sub.drop)))
            have c1 : wc.cell? ⟨g, 1, none⟩ = some (.int .u64 last) := (h7.blk 0 rfl).cell 1
            have f1 := (h7.blk 0 rfl).frozen 1
            have H8 := hide (h7.put_ 1 (.int .u64 (last + 1)) (docC now (last + 1) vs2) rfl)
            clear h h6 h7 hB2 hvs2 hr2 hvi2 hws
            go_wp2_with fail
            clear c1 f1
            have h0 := H8.out.sub (L' := docB g now (last + 1) vs2 :: docS vs2 r2 :: blkR y 87 #[.int .i64 x.c, .int .i64 x.m] :: L) (by (repeat (first | with_reducible exact Sub.refl _ | (with_reducible apply Sub.take; focus (repeat (first | with_reducible exact At.here | with_reducible apply At.there))) | with_reducible apply Sub.drop)))
            clear H8
            refine region_flow (M0 := M0) (L0 := L) [⟨none, some 26, fun e => docB g now (last + 1) vs2⟩, ⟨none, none, fun e => docS vs2 r2⟩, ⟨none, none, fun e => blkR y 87 #[.int .i64 x.c, .int .i64 x.m]⟩, ⟨some 2, some 9, fun e => ownR holdC 91 4 (.slice (some ⟨(e 2).n, 0, none⟩) 0 0) []⟩, ⟨some 9, some 22, fun e => ownR holdC 91 4 (.slice (e 9).A n (e 9).n) hs⟩, ⟨some 21, none, fun e => blkR (e 21).n 91 #[.int .i64 x.c, .int .i64 x.m, .int .u64 (last + 1), .int .u64 (untilI now)]⟩, ⟨some 22, none, fun e => ownR holdC 91 4 (.slice (e 22).A (n + 1) (e 22).n) (hs ++ [(⟨x.c, x.m, last + 1, untilI now⟩ : HoldM)])⟩, ⟨some 26, none, fun e => docB g now (last + 1) (upd vs2 i ⟨⟨(e 22).A, n + 1, (e 22).n⟩, (vs2 i).w⟩)⟩] [[], [], [], [], [], [3], [3, 5], [3, 4, 5, 6], [3, 4, 5, 6, 7], [2, 3, 4, 5, 6, 7, 8], [], [10], [], [12], [], [14], [14, 15], [14, 15, 16], [], [2, 3, 4, 5, 6, 7, 8, 9, 18], [2, 3, 4, 5, 6, 7, 8, 9, 10, 11, 12, 13, 14, 15, 16, 17, 18, 19], [2, 3, 4, 5, 6, 7, 8, 9, 10, 11, 12, 13, 14, 15, 16, 17, 18, 19, 20], [2, 3, 4, 5, 6, 7, 8, 9, 10, 11, 12, 13, 14, 15, 16, 17, 18, 19, 20, 21], [0], [0, 23], [0, 1, 2, 3, 4, 5, 6, 7, 8, 9, 10, 11, 12, 13, 14, 15, 16, 17, 18, 19, 20, 21, 22, 23, 24], [0, 1, 2, 3, 4, 5, 6, 7, 8, 9, 10, 11, 12, 13, 14, 15, 16, 17, 18, 19, 20, 21, 22, 23, 24, 25]] [0, 1, 2, 3, 4, 5, 6, 7, 8, 9, 10, 11, 12, 13, 14, 15, 16, 17, 18, 19, 20, 21, 22, 23, 24, 25, 26] rfl (by kernel_rfl) (by kernel_rfl) (by kernel_rfl) (by rfl) (fun _ => rfl) (show St M0 _ (docB g now (last + 1) vs2 :: docS vs2 r2 :: blkR y 87 #[.int .i64 x.c, .int .i64 x.m] :: L) from h0) ?_
            refine flow_run _ rfl (fun _ => rfl) (fun e wx Lx h => by (go_simp; try rfl)) (by intro e; rfl) (by intro e; rfl) (by intro e x; rfl) ?_
            (simp only [Act.put, List.setIfInBounds_toArray, List.set_cons_succ, List.set_cons_zero])
            refine flow_run _ rfl (fun _ => rfl) (fun e wx Lx h => by (go_simp; try rfl)) (by intro e; rfl) (by intro e; rfl) (by intro e x; rfl) ?_
            (simp only [Act.put, List.setIfInBounds_toArray, List.set_cons_succ, List.set_cons_zero])
            refine flow_do (fun e => .slice (some ⟨(e 2).n, 0, none⟩) 0 0) rfl (fun _ => rfl) (by intro e; rfl) (fun e wx Lx h => by (
              have h : St M0 wx (docB g now (last + 1) vs2 :: docS vs2 r2 :: blkR y 87 #[.int .i64 x.c, .int .i64 x.m] :: Lx) := h
              have hk : St M0 _ (docB g now (last + 1) vs2 :: docS vs2 r2 :: blkR y 87 #[.int .i64 x.c, .int .i64 x.m] :: ownR holdC 91 4 (.slice (some ⟨wx.heap.size, 0, none⟩) 0 0) [] :: Lx) := (h.ownEmpty holdC 91 4).sub (by (repeat (first | with_reducible exact Sub.refl _ | (with_reducible apply Sub.take; focus (repeat (first | with_reducible exact At.here | with_reducible apply At.there))) | with_reducible apply Sub.drop)))
              exact ⟨⟨none, wx.heap.size, default⟩, _, exec_buildSlice0 rfl (hold_empty _), hk⟩)) ?_
            (simp only [Act.put, List.setIfInBounds_toArray, List.set_cons_succ, List.set_cons_zero])
            refine flow_run _ rfl (fun _ => rfl) (fun e wx Lx h => by (go_simp; try rfl)) (by intro e; rfl) (by intro e; rfl) (by intro e x; rfl) ?_
            (simp only [Act.put, List.setIfInBounds_toArray, List.set_cons_succ, List.set_cons_zero])
            refine flow_run _ rfl (fun _ => rfl) (fun e wx Lx h => by (go_simp; try rfl)) (by intro e; rfl) (by intro e; rfl) (by intro e x; rfl) ?_
            (simp only [Act.put, List.setIfInBounds_toArray, List.set_cons_succ, List.set_cons_zero])
            refine flow_run _ rfl (fun _ => rfl) (fun e wx Lx h => by (go_simp; try rfl)) (by intro e; rfl) (by intro e; rfl) (by intro e x; rfl) ?_
            (simp only [Act.put, List.setIfInBounds_toArray, List.set_cons_succ, List.set_cons_zero])
            refine flow_run _ rfl (fun _ => rfl) (fun e wx Lx h => by (go_simp; try rfl)) (by intro e; rfl) (by intro e; rfl) (by intro e x; rfl) ?_
            (simp only [Act.put, List.setIfInBounds_toArray, List.set_cons_succ, List.set_cons_zero])
            refine flow_run _ rfl (fun _ => rfl) (fun e wx Lx h => by (go_simp; try rfl)) (by intro e; rfl) (by intro e; rfl) (by intro e x; rfl) ?_
            (simp only [Act.put, List.setIfInBounds_toArray, List.set_cons_succ, List.set_cons_zero])
            refine flow_run _ rfl (fun _ => rfl) (fun e wx Lx h => by (have h : St M0 wx (docB g now (last + 1) vs2 :: docS vs2 r2 :: blkR y 87 #[.int .i64 x.c, .int .i64 x.m] :: Lx) := h; have b0 := (h.blkA (g := g) (t := 135) (cs := docC now (last + 1) vs2) (by (repeat (first | with_reducible exact At.here | with_reducible apply At.there)))).cell 0; have b1 := (h.blkA (g := g) (t := 135) (cs := docC now (last + 1) vs2) (by (repeat (first | with_reducible exact At.here | with_reducible apply At.there)))).cell 1; have bo : wx.cell? ⟨g, 2 + i, none⟩ = some (.slice A n c) := ((h.blkA (g := g) (t := 135) (cs := docC now (last + 1) vs2) (by (repeat (first | with_reducible exact At.here | with_reducible apply At.there)))).cell (2 + i)).trans HTH2.out; have y0 := (h.blkA (g := y) (t := 87) (cs := #[.int .i64 x.c, .int .i64 x.m]) (by (repeat (first | with_reducible exact At.here | with_reducible apply At.there)))).cell 0; have y1 := (h.blkA (g := y) (t := 87) (cs := #[.int .i64 x.c, .int .i64 x.m]) (by (repeat (first | with_reducible exact At.here | with_reducible apply At.there)))).cell 1; go_simp; try rfl)) (by intro e; rfl) (by intro e; rfl) (by intro e x; rfl) ?_
            (simp only [Act.put, List.setIfInBounds_toArray, List.set_cons_succ, List.set_cons_zero])
            refine flow_do (fun e => .slice (e 9).A n (e 9).n) rfl (fun _ => rfl) (by intro e; rfl) (fun e wx Lx h => by (
              have h : St M0 wx (docB g now (last + 1) vs2 :: docS vs2 r2 :: blkR y 87 #[.int .i64 x.c, .int .i64 x.m] :: ownR holdC 91 4 (.slice (some ⟨(e 2).n, 0, none⟩) 0 0) [] :: Lx) := h
              have hSl := (HV2.out _ (h.getA (Q := docP vs2 r2) (by (repeat (first | with_reducible exact At.here | with_reducible apply At.there))))).sl.2.2.2
              obtain ⟨_, hrow⟩ := (h.front (X := ownR holdC 91 4 (.slice (some ⟨(e 2).n, 0, none⟩) 0 0) []) (by (repeat (first | with_reducible exact At.here | with_reducible apply At.there)))).ownOpen
              obtain ⟨v', w', hr, h2⟩ := St.run_app hold_elem hrow _ A n c (hs.flatMap holdC) hSl (flatC_one hold_one _) (by omega) (by omega)
              obtain ⟨A', c', rfl⟩ := h2.slice
              rw [Nat.zero_add] at hr h2
              have h3 := St.ownClose (C := holdC) (xs := hs) h2 HN.out
              have hk : St M0 _ (docB g now (last + 1) vs2 :: docS vs2 r2 :: blkR y 87 #[.int .i64 x.c, .int .i64 x.m] :: ownR holdC 91 4 (.slice A' n c') hs :: Lx) := h3.sub (by (repeat (first | with_reducible exact Sub.refl _ | (with_reducible apply Sub.take; focus (repeat (first | with_reducible exact At.here | with_reducible apply At.there))) | with_reducible apply Sub.drop)))
              exact ⟨⟨A', c', default⟩, _, exec_append rfl rfl rfl hr, hk⟩)) ?_
            (simp only [Act.put, List.setIfInBounds_toArray, List.set_cons_succ, List.set_cons_zero])
            refine flow_run _ rfl (fun _ => rfl) (fun e wx Lx h => by (go_simp; try rfl)) (by intro e; rfl) (by intro e; rfl) (by intro e x; rfl) ?_
            (simp only [Act.put, List.setIfInBounds_toArray, List.set_cons_succ, List.set_cons_zero])
            refine flow_run _ rfl (fun _ => rfl) (fun e wx Lx h => by (have h : St M0 wx (docB g now (last + 1) vs2 :: docS vs2 r2 :: blkR y 87 #[.int .i64 x.c, .int .i64 x.m] :: Lx) := h; have b0 := (h.blkA (g := g) (t := 135) (cs := docC now (last + 1) vs2) (by (repeat (first | with_reducible exact At.here | with_reducible apply At.there)))).cell 0; have b1 := (h.blkA (g := g) (t := 135) (cs := docC now (last + 1) vs2) (by (repeat (first | with_reducible exact At.here | with_reducible apply At.there)))).cell 1; have bo : wx.cell? ⟨g, 2 + i, none⟩ = some (.slice A n c) := ((h.blkA (g := g) (t := 135) (cs := docC now (last + 1) vs2) (by (repeat (first | with_reducible exact At.here | with_reducible apply At.there)))).cell (2 + i)).trans HTH2.out; have y0 := (h.blkA (g := y) (t := 87) (cs := #[.int .i64 x.c, .int .i64 x.m]) (by (repeat (first | with_reducible exact At.here | with_reducible apply At.there)))).cell 0; have y1 := (h.blkA (g := y) (t := 87) (cs := #[.int .i64 x.c, .int .i64 x.m]) (by (repeat (first | with_reducible exact At.here | with_reducible apply At.there)))).cell 1; go_simp; try rfl)) (by intro e; rfl) (by intro e; rfl) (by intro e x; rfl) ?_
            (simp only [Act.put, List.setIfInBounds_toArray, List.set_cons_succ, List.set_cons_zero])
            refine flow_run _ rfl (fun _ => rfl) (fun e wx Lx h => by (go_simp; try rfl)) (by intro e; rfl) (by intro e; rfl) (by intro e x; rfl) ?_
            (simp only [Act.put, List.setIfInBounds_toArray, List.set_cons_succ, List.set_cons_zero])
            refine flow_run _ rfl (fun _ => rfl) (fun e wx Lx h => by (have h : St M0 wx (docB g now (last + 1) vs2 :: docS vs2 r2 :: blkR y 87 #[.int .i64 x.c, .int .i64 x.m] :: Lx) := h; have b0 := (h.blkA (g := g) (t := 135) (cs := docC now (last + 1) vs2) (by (repeat (first | with_reducible exact At.here | with_reducible apply At.there)))).cell 0; have b1 := (h.blkA (g := g) (t := 135) (cs := docC now (last + 1) vs2) (by (repeat (first | with_reducible exact At.here | with_reducible apply At.there)))).cell 1; have bo : wx.cell? ⟨g, 2 + i, none⟩ = some (.slice A n c) := ((h.blkA (g := g) (t := 135) (cs := docC now (last + 1) vs2) (by (repeat (first | with_reducible exact At.here | with_reducible apply At.there)))).cell (2 + i)).trans HTH2.out; have y0 := (h.blkA (g := y) (t := 87) (cs := #[.int .i64 x.c, .int .i64 x.m]) (by (repeat (first | with_reducible exact At.here | with_reducible apply At.there)))).cell 0; have y1 := (h.blkA (g := y) (t := 87) (cs := #[.int .i64 x.c, .int .i64 x.m]) (by (repeat (first | with_reducible exact At.here | with_reducible apply At.there)))).cell 1; go_simp; try rfl)) (by intro e; rfl) (by intro e; rfl) (by intro e x; rfl) ?_
            (simp only [Act.put, List.setIfInBounds_toArray, List.set_cons_succ, List.set_cons_zero])
            refine flow_run _ rfl (fun _ => rfl) (fun e wx Lx h => by (go_simp; try rfl)) (by intro e; rfl) (by intro e; rfl) (by intro e x; rfl) ?_
            (simp only [Act.put, List.setIfInBounds_toArray, List.set_cons_succ, List.set_cons_zero])
            refine flow_run _ rfl (fun _ => rfl) (fun e wx Lx h => by (go_simp; try rfl)) (by intro e; rfl) (by intro e; rfl) (by intro e x; rfl) ?_
            (simp only [Act.put, List.setIfInBounds_toArray, List.set_cons_succ, List.set_cons_zero])
            refine flow_run _ rfl (fun _ => rfl) (fun e wx Lx h => by (go_simp; try rfl)) (by intro e; rfl) (by intro e; rfl) (by intro e x; rfl) ?_
            (simp only [Act.put, List.setIfInBounds_toArray, List.set_cons_succ, List.set_cons_zero])
            refine flow_run _ rfl (fun _ => rfl) (fun e wx Lx h => by (have h : St M0 wx (docB g now (last + 1) vs2 :: docS vs2 r2 :: blkR y 87 #[.int .i64 x.c, .int .i64 x.m] :: Lx) := h; have b0 := (h.blkA (g := g) (t := 135) (cs := docC now (last + 1) vs2) (by (repeat (first | with_reducible exact At.here | with_reducible apply At.there)))).cell 0; have b1 := (h.blkA (g := g) (t := 135) (cs := docC now (last + 1) vs2) (by (repeat (first | with_reducible exact At.here | with_reducible apply At.there)))).cell 1; have bo : wx.cell? ⟨g, 2 + i, none⟩ = some (.slice A n c) := ((h.blkA (g := g) (t := 135) (cs := docC now (last + 1) vs2) (by (repeat (first | with_reducible exact At.here | with_reducible apply At.there)))).cell (2 + i)).trans HTH2.out; have y0 := (h.blkA (g := y) (t := 87) (cs := #[.int .i64 x.c, .int .i64 x.m]) (by (repeat (first | with_reducible exact At.here | with_reducible apply At.there)))).cell 0; have y1 := (h.blkA (g := y) (t := 87) (cs := #[.int .i64 x.c, .int .i64 x.m]) (by (repeat (first | with_reducible exact At.here | with_reducible apply At.there)))).cell 1; go_simp; try rfl)) (by intro e; rfl) (by intro e; rfl) (by intro e x; rfl) ?_
            (simp only [Act.put, List.setIfInBounds_toArray, List.set_cons_succ, List.set_cons_zero])
            refine flow_run _ rfl (fun _ => rfl) (fun e wx Lx h => by (go_simp; try rfl)) (by intro e; rfl) (by intro e; rfl) (by intro e x; rfl) ?_
            (simp only [Act.put, List.setIfInBounds_toArray, List.set_cons_succ, List.set_cons_zero])
            refine flow_call 128 (fun e => #[.pointer (some ⟨g, 0, none⟩)]) (fun e => .int .u64 (untilI now)) rfl (fun _ => rfl) (by intro e; rfl) (fun e wx => by (go_simp; try rfl)) (fun e wx Lx h => by (
              have h : St M0 wx (docB g now (last + 1) vs2 :: docS vs2 r2 :: blkR y 87 #[.int .i64 x.c, .int .i64 x.m] :: ownR holdC 91 4 (.slice (e 9).A n (e 9).n) hs :: Lx) := h
              refine (runtil_st g now _ HNOW.out.1 HNOW.out.2 ((h.blkA (g := g) (t := 135) (cs := docC now (last + 1) vs2) (by (repeat (first | with_reducible exact At.here | with_reducible apply At.there)))).cell 0) h).mono ?_
              rintro u wy ⟨rfl, h1⟩
              have hk : St M0 wy (docB g now (last + 1) vs2 :: docS vs2 r2 :: blkR y 87 #[.int .i64 x.c, .int .i64 x.m] :: ownR holdC 91 4 (.slice (e 9).A n (e 9).n) hs :: Lx) := h1.sub (by (repeat (first | with_reducible exact Sub.refl _ | (with_reducible apply Sub.take; focus (repeat (first | with_reducible exact At.here | with_reducible apply At.there))) | with_reducible apply Sub.drop)))
              exact ⟨⟨none, 0, default⟩, rfl, hk⟩)) ?_
            (simp only [Act.put, List.setIfInBounds_toArray, List.set_cons_succ, List.set_cons_zero])
            refine flow_run _ rfl (fun _ => rfl) (fun e wx Lx h => by (go_simp; try rfl)) (by intro e; rfl) (by intro e; rfl) (by intro e x; rfl) ?_
            (simp only [Act.put, List.setIfInBounds_toArray, List.set_cons_succ, List.set_cons_zero])
            refine flow_do (fun e => .slice (some ⟨(e 21).n, 0, none⟩) 1 1) rfl (fun _ => rfl) (by intro e; rfl) (fun e wx Lx h => by (
              have h : St M0 wx (docB g now (last + 1) vs2 :: docS vs2 r2 :: blkR y 87 #[.int .i64 x.c, .int .i64 x.m] :: ownR holdC 91 4 (.slice (e 9).A n (e 9).n) hs :: Lx) := h
              have hk : St M0 _ (docB g now (last + 1) vs2 :: docS vs2 r2 :: blkR y 87 #[.int .i64 x.c, .int .i64 x.m] :: ownR holdC 91 4 (.slice (e 9).A n (e 9).n) hs :: blkR wx.heap.size 91 #[.int .i64 x.c, .int .i64 x.m, .int .u64 (last + 1), .int .u64 (untilI now)] :: Lx) := (h.alloc 91 #[.int .i64 x.c, .int .i64 x.m, .int .u64 (last + 1), .int .u64 (untilI now)]).sub (by (repeat (first | with_reducible exact Sub.refl _ | (with_reducible apply Sub.take; focus (repeat (first | with_reducible exact At.here | with_reducible apply At.there))) | with_reducible apply Sub.drop)))
              exact ⟨⟨none, wx.heap.size, default⟩, _, exec_buildSlice1 rfl rfl (hold_build _ _ _ _ _), hk⟩)) ?_
            (simp only [Act.put, List.setIfInBounds_toArray, List.set_cons_succ, List.set_cons_zero])
            refine flow_do (fun e => .slice (e 22).A (n + 1) (e 22).n) rfl (fun _ => rfl) (by intro e; rfl) (fun e wx Lx h => by (
              have h : St M0 wx (docB g now (last + 1) vs2 :: docS vs2 r2 :: blkR y 87 #[.int .i64 x.c, .int .i64 x.m] :: ownR holdC 91 4 (.slice (e 9).A n (e 9).n) hs :: blkR (e 21).n 91 #[.int .i64 x.c, .int .i64 x.m, .int .u64 (last + 1), .int .u64 (untilI now)] :: Lx) := h
              have hz := sl_blkT (cs := [.int .i64 x.c, .int .i64 x.m, .int .u64 (last + 1), .int .u64 (untilI now)]) (h.blkA (g := (e 21).n) (t := 91) (cs := #[.int .i64 x.c, .int .i64 x.m, .int .u64 (last + 1), .int .u64 (untilI now)]) (by (repeat (first | with_reducible exact At.here | with_reducible apply At.there))))
              obtain ⟨A', c', w', hr, h2⟩ := (h.front (X := ownR holdC 91 4 (.slice (e 9).A n (e 9).n) hs) (by (repeat (first | with_reducible exact At.here | with_reducible apply At.there)))).own1 hold_elem _ ⟨(e 21).n, 0, none⟩ 1 (⟨x.c, x.m, last + 1, untilI now⟩ : HoldM) hz (hold_one _) rfl (by omega) (by omega)
              have hk : St M0 _ (docB g now (last + 1) vs2 :: docS vs2 r2 :: blkR y 87 #[.int .i64 x.c, .int .i64 x.m] :: blkR (e 21).n 91 #[.int .i64 x.c, .int .i64 x.m, .int .u64 (last + 1), .int .u64 (untilI now)] :: ownR holdC 91 4 (.slice A' (n + 1) c') (hs ++ [(⟨x.c, x.m, last + 1, untilI now⟩ : HoldM)]) :: Lx) := h2.sub (by (repeat (first | with_reducible exact Sub.refl _ | (with_reducible apply Sub.take; focus (repeat (first | with_reducible exact At.here | with_reducible apply At.there))) | with_reducible apply Sub.drop)))
              exact ⟨⟨A', c', default⟩, _, exec_append rfl rfl rfl hr, hk⟩)) ?_
            (simp only [Act.put, List.setIfInBounds_toArray, List.set_cons_succ, List.set_cons_zero])
            refine flow_run _ rfl (fun _ => rfl) (fun e wx Lx h => by (go_simp; try rfl)) (by intro e; rfl) (by intro e; rfl) (by intro e x; rfl) ?_
            (simp only [Act.put, List.setIfInBounds_toArray, List.set_cons_succ, List.set_cons_zero])
            refine flow_run _ rfl (fun _ => rfl) (fun e wx Lx h => by (go_simp; try rfl)) (by intro e; rfl) (by intro e; rfl) (by intro e x; rfl) ?_
            (simp only [Act.put, List.setIfInBounds_toArray, List.set_cons_succ, List.set_cons_zero])
            refine flow_run _ rfl (fun _ => rfl) (fun e wx Lx h => by (go_simp; try rfl)) (by intro e; rfl) (by intro e; rfl) (by intro e x; rfl) ?_
            (simp only [Act.put, List.setIfInBounds_toArray, List.set_cons_succ, List.set_cons_zero])
            refine flow_store _ _ _ (fun e => .pointer (some ⟨g, 2 + i, none⟩)) (fun e => .slice (e 22).A (n + 1) (e 22).n) rfl (fun _ => rfl) rfl (fun _ => rfl) (fun _ => rfl) (fun e wx Lx h => by (
              have h : St M0 wx (docB g now (last + 1) vs2 :: docS vs2 r2 :: blkR y 87 #[.int .i64 x.c, .int .i64 x.m] :: blkR (e 21).n 91 #[.int .i64 x.c, .int .i64 x.m, .int .u64 (last + 1), .int .u64 (untilI now)] :: ownR holdC 91 4 (.slice (e 22).A (n + 1) (e 22).n) (hs ++ [(⟨x.c, x.m, last + 1, untilI now⟩ : HoldM)]) :: Lx) := h
              have b0 := (h.blkA (g := g) (t := 135) (cs := docC now (last + 1) vs2) (by (repeat (first | with_reducible exact At.here | with_reducible apply At.there)))).cell 0; have b1 := (h.blkA (g := g) (t := 135) (cs := docC now (last + 1) vs2) (by (repeat (first | with_reducible exact At.here | with_reducible apply At.there)))).cell 1; have bo : wx.cell? ⟨g, 2 + i, none⟩ = some (.slice A n c) := ((h.blkA (g := g) (t := 135) (cs := docC now (last + 1) vs2) (by (repeat (first | with_reducible exact At.here | with_reducible apply At.there)))).cell (2 + i)).trans HTH2.out
              have f := (h.blkA (g := g) (t := 135) (cs := docC now (last + 1) vs2) (by (repeat (first | with_reducible exact At.here | with_reducible apply At.there)))).frozen
              have h1 := (h.front (X := docB g now (last + 1) vs2) (by (repeat (first | with_reducible exact At.here | with_reducible apply At.there)))).put_ (2 + i) (.slice (e 22).A (n + 1) (e 22).n) (docC now (last + 1) (upd vs2 i ⟨⟨(e 22).A, n + 1, (e 22).n⟩, (vs2 i).w⟩)) (docC_seth now (last + 1) vs2 hi4 ⟨(e 22).A, n + 1, (e 22).n⟩)
              have hk : St M0 _ (docS vs2 r2 :: blkR y 87 #[.int .i64 x.c, .int .i64 x.m] :: blkR (e 21).n 91 #[.int .i64 x.c, .int .i64 x.m, .int .u64 (last + 1), .int .u64 (untilI now)] :: ownR holdC 91 4 (.slice (e 22).A (n + 1) (e 22).n) (hs ++ [(⟨x.c, x.m, last + 1, untilI now⟩ : HoldM)]) :: docB g now (last + 1) (upd vs2 i ⟨⟨(e 22).A, n + 1, (e 22).n⟩, (vs2 i).w⟩) :: Lx) := h1.sub (by (repeat (first | with_reducible exact Sub.refl _ | (with_reducible apply Sub.take; focus (repeat (first | with_reducible exact At.here | with_reducible apply At.there))) | with_reducible apply Sub.drop)))
              exact ⟨_, (by (go_simp; try rfl)), hk⟩)) ?_
            simp only [Act.put]
            refine flow_nil ?_
            intro e w1 h
            have h : St M0 w1 (docS vs2 r2 :: blkR y 87 #[.int .i64 x.c, .int .i64 x.m] :: blkR (e 21).n 91 #[.int .i64 x.c, .int .i64 x.m, .int .u64 (last + 1), .int .u64 (untilI now)] :: ownR holdC 91 4 (.slice (e 22).A (n + 1) (e 22).n) (hs ++ [(⟨x.c, x.m, last + 1, untilI now⟩ : HoldM)]) :: docB g now (last + 1) (upd vs2 i ⟨⟨(e 22).A, n + 1, (e 22).n⟩, (vs2 i).w⟩) :: L) := h
            obtain ⟨A', hA'⟩ : ∃ A', (e 22).A = A' := ⟨_, rfl⟩
            obtain ⟨c', hc'⟩ : ∃ c', (e 22).n = c' := ⟨_, rfl⟩
            have h5 := (h.sub (L' := ownR holdC 91 4 (.slice (e 22).A (n + 1) (e 22).n) (hs ++ [(⟨x.c, x.m, last + 1, untilI now⟩ : HoldM)]) :: docS vs2 r2 :: docB g now (last + 1) (upd vs2 i ⟨⟨(e 22).A, n + 1, (e 22).n⟩, (vs2 i).w⟩) :: L) (by (repeat (first | with_reducible exact Sub.refl _ | (with_reducible apply Sub.take; focus (repeat (first | with_reducible exact At.here | with_reducible apply At.there))) | with_reducible apply Sub.drop)))).ownKeep
            rw [hA', hc'] at h5
            have h6 := h5.pers2 (Q := docP (upd vs2 i ⟨⟨A', n + 1, c'⟩, (vs2 i).w⟩) (upd r i ⟨hs ++ [(⟨x.c, x.m, last + 1, untilI now⟩ : HoldM)], ws⟩)) (fun w' a b j hj => by
              by_cases e : j = i
              · subst e
                rw [updT_same, updT_same]
                have := (b j hj).2
                rw [HRW.out] at this
                exact ⟨a, this⟩
              · rw [updT_ne _ _ e, updT_ne _ _ e]
                have := b j hj
                rw [HRO.out j e] at this
                exact this)
            have H6 := hide h6.swap
            clear h0 h h5 h6 hA' hc'
            go_wp2_with fail
            go_ret
            exact .inr ⟨rfl, x, ws, rfl, HGV.out, _, H6.out⟩
end Go.Proofs.Ytbgknfdaaffeaaa
/- Locks, the document: slices of slices; all, held. -/
namespace Go.Proofs.Ytbgknfdaaffeaaa
open Go.RowKit Go.Shelf

section
variable {α : Type} {C : α → List Value} {size : Nat} {w : World} {xs : List α}
theorem FlatP.take {A : Option Addr} {n c j : Nat} (hC : ∀ x, (C x).length = size) (h : FlatP C size w (.slice A n c) xs) (hj : j ≤ n) : FlatP C size w (.slice A j c) (xs.take j) := by
  obtain ⟨h0, h1, h2, hs⟩ := h.sl
  have hl : (xs.take j).length = j := by rw [List.length_take]; omega
  have e : (xs.take j).flatMap C = (xs.flatMap C).take (j * size) := by
    conv => rhs; rw [← List.take_append_drop j xs, List.flatMap_append, List.take_append_of_le_length (by rw [flatC_len hC, hl]; exact Nat.le_refl _), List.take_of_length_le (by rw [flatC_len hC, hl]; exact Nat.le_refl _)]
  refine ⟨A, c, by rw [hl], by omega, h2, ?_⟩
  rw [hl, e]
  refine ⟨by rw [List.length_take, flatC_len hC, ← h0]; exact Nat.min_eq_left (Nat.mul_le_mul_right _ hj), fun hp => ?_⟩
  obtain ⟨ad, e1, hq, hb, hc⟩ := hs.2 (by omega)
  refine ⟨ad, e1, hq, hb, fun k u hu => hc k u ?_⟩
  rw [List.getElem?_take] at hu
  split at hu
  · exact hu
  · cases hu
def fromA (A : Option Addr) (c j size : Nat) : Option Addr := if c = j then A else A.map (·.add (j * size))
theorem FlatP.drop {A : Option Addr} {n c j : Nat} (hC : ∀ x, (C x).length = size) (h : FlatP C size w (.slice A n c) xs) (hj : j ≤ n) : FlatP C size w (.slice (fromA A c j size) (n - j) (c - j)) (xs.drop j) := by
  obtain ⟨h0, h1, h2, hs⟩ := h.sl
  have hl : (xs.drop j).length = n - j := by rw [List.length_drop]; omega
  refine ⟨fromA A c j size, c - j, by rw [hl], by omega, by unfold maxLen; omega, ?_⟩
  rw [hl]
  refine ⟨by rw [flatC_len hC, hl], fun hp => ?_⟩
  obtain ⟨ad, rfl, hq, hb, hc⟩ := hs.2 (by omega)
  refine ⟨ad.add (j * size), by unfold fromA; rw [if_neg (by omega)]; rfl, trivial, by rw [addr_block]; exact hb, fun k u hu => ?_⟩
  rw [addr_add]
  refine hc _ u ?_
  conv => lhs; rw [← List.take_append_drop j xs, List.flatMap_append]
  rw [List.getElem?_append_right (by rw [flatC_len hC, List.length_take]; have := Nat.mul_le_mul_right size (Nat.min_le_left j xs.length); omega), flatC_len hC, List.length_take, Nat.min_eq_left (by omega), Nat.add_sub_cancel_left]
  exact hu
end
theorem run_fromH (A : Option Addr) (n c k : Nat) (w : World) (hk : k ≤ n) (_hn : n ≤ c) : (Instr.sliceAt 73 (.slice A n c) (some (.int .i64 (k : Nat))) none none).run Try.prog w = .ok (.slice (fromA A c k 4) (n - k) (c - k)) w := by
  have k0 : (0 : Int) ≤ (k : Int) := by omega
  have k1 : (k : Int) ≤ (n : Int) := by omega
  go_simp
  simp [fromA]
theorem run_fromW (A : Option Addr) (n c k : Nat) (w : World) (hk : k ≤ n) (_hn : n ≤ c) : (Instr.sliceAt 74 (.slice A n c) (some (.int .i64 (k : Nat))) none none).run Try.prog w = .ok (.slice (fromA A c k 2) (n - k) (c - k)) w := by
  have k0 : (0 : Int) ≤ (k : Int) := by omega
  have k1 : (k : Int) ≤ (n : Int) := by omega
  go_simp
  simp [fromA]

theorem giveL_mode (now : Int) : ∀ (ws : List WantM) (hs : List HoldM) (last : Int), (∀ x ∈ hs, modeB x.m = true) → (∀ x ∈ ws, modeB x.m = true) → (∀ x ∈ (giveL now ws hs last).2.1, modeB x.m = true) ∧ ∀ x ∈ (giveL now ws hs last).1, modeB x.m = true
  | [], hs, last, h, _ => ⟨h, fun _ hx => absurd hx List.not_mem_nil⟩
  | x :: ws, hs, last, h, hw => by
    unfold giveL
    split
    · refine giveL_mode now ws _ _ (fun y hy => ?_) (fun y hy => hw y (by simp [hy]))
      rcases List.mem_append.1 hy with hy | hy
      · exact h y hy
      · rw [List.mem_singleton] at hy
        subst hy
        exact hw x (by simp)
    · exact ⟨h, hw⟩
set_option maxHeartbeats 1000000 in
set_option maxRecDepth 100000 in
theorem rall_st {M0 : Imm} {L : List Res} (g i : Nat) (now last0 : Int) (vs0 : Nat → RegV) (r : Nat → RegM) (hs0 : List HoldM) (ws0 : List WantM) (w : World) (hi4 : i < 4) (hri : r i = ⟨hs0, ws0⟩) (hnow : 0 ≤ now ∧ now ≤ 18446744073709551615) (hlast : 0 ≤ last0 ∧ last0 ≤ 18446744073709551615) (hmh : ∀ x ∈ hs0, modeB x.m = true) (hmw : ∀ x ∈ ws0, modeB x.m = true)
    (h : St M0 w (docB g now last0 vs0 :: docS vs0 r :: L)) :
    Calls Try.prog 126 #[.pointer (some ⟨g, 0, none⟩), .int .i64 (i : Nat)] w fun e w' => e = .returned (.tuple #[]) ∧ St M0 w' (docR g ⟨now, (giveL now ws0 hs0 last0).2.2, upd r i ⟨(giveL now ws0 hs0 last0).2.1, (giveL now ws0 hs0 last0).1⟩⟩ :: L) := by
  obtain ⟨gv, hgv⟩ : ∃ gv, gv = giveL now ws0 hs0 last0 := ⟨_, rfl⟩
  rw [← hgv]
  have H := hide h
  have HGV := hide hgv
  have HRI := hide hri
  have HMH := hide hmh
  have HMW := hide hmw
  have HNOW := hide hnow
  have HLA := hide hlast
  clear h hgv hri hmh hmw hnow hlast
  go_enter Try.func126, Try.ntmps126
  go_wp2_with fail
  go_loopg [] ws0.length (fun gh wr => ∃ (vs : Nat → RegV) (r1 : Nat → RegM) (hs : List HoldM) (ws : List WantM) (la : Int), gh = ws.length ∧ gv = giveL now ws hs la ∧ r1 = upd r i ⟨hs, ws⟩ ∧ (0 ≤ la ∧ la ≤ 18446744073709551615) ∧ ((∀ x ∈ hs, modeB x.m = true) ∧ ∀ x ∈ ws, modeB x.m = true) ∧ St M0 wr (docB g now la vs :: docS vs r1 :: L))
  case atStart => exact ⟨vs0, r, hs0, ws0, last0, rfl, HGV.out, by rw [← HRI.out]; funext j; unfold upd; split <;> simp_all, HLA.out, ⟨HMH.out, HMW.out⟩, H.out⟩
  case round =>
    obtain ⟨vs, r1, hs, ws, la, hg, hgv, hr1, hla, hmm, h⟩ := hrel
    have HG := hide hg
    have HV := hide hgv
    have HR1 := hide hr1
    have HMM := hide hmm
    have HL := hide hla
    have H1 := hide h
    clear H HGV HRI HMH HMW HLA hg hgv hr1 hmm hla h
    go_wp2_with fail
    refine (rgive_st g i now la vs r1 hs ws _ hi4 (by rw [HR1.out, updT_same]) HNOW.out HL.out HMM.out.1 HMM.out.2 H1.out).mono ?_
    rintro e w1 hq
    have HQ := hide hq
    clear hq H1
    obtain ⟨b, hb⟩ : ∃ b, e = .returned (.bool b) := by
      rcases HQ.out with ⟨h, _⟩ | ⟨h, _⟩
      · exact ⟨_, h⟩
      · exact ⟨_, h⟩
    subst hb
    cases b with
    | false =>
      have HQ2 : Hid (giveL now ws hs la = (ws, hs, la) ∧ St M0 w1 (docB g now la vs :: docS vs r1 :: L)) := hide (by
        rcases HQ.out with ⟨_, h⟩ | ⟨h, _⟩
        · exact h
        · cases h)
      clear HQ
      go_wp2_with fail
      ((try simp only [Exit.inBlock, Exit.then]); refine bodyPost_ret (results_none rfl _ _ _) rfl ?_)
      refine ⟨rfl, ?_⟩
      have h2 := HQ2.out.2
      rw [HR1.out] at h2
      rw [HV.out, HQ2.out.1]
      exact h2.docCl
    | true =>
      have HQ2 : Hid (∃ x ws', ws = x :: ws' ∧ (giveL now ws hs la = giveL now ws' (hs ++ [⟨x.c, x.m, la + 1, untilI now⟩]) (la + 1) ∧ la < 18446744073709551615 ∧ hs.length < 4) ∧ ∃ vs', St M0 w1 (docB g now (la + 1) vs' :: docS vs' (upd r1 i ⟨hs ++ [⟨x.c, x.m, la + 1, untilI now⟩], ws'⟩) :: L)) := hide (by
        rcases HQ.out with ⟨h, _⟩ | ⟨_, h⟩
        · cases h
        · exact h)
      clear HQ
      go_wp2_with fail
      obtain ⟨x, ws', hw, hgl, vs', h2⟩ := HQ2.out
      subst hw
      go_roundg ws'.length
      case measure => rw [HG.out]; simp
      case rel =>
        refine ⟨vs', upd r i ⟨hs ++ [⟨x.c, x.m, la + 1, untilI now⟩], ws'⟩, hs ++ [⟨x.c, x.m, la + 1, untilI now⟩], ws', la + 1, rfl, by rw [HV.out]; exact hgl.1, rfl, ⟨by have := HL.out; omega, by omega⟩, ⟨fun y hy => ?_, fun y hy => HMM.out.2 y (by simp [hy])⟩, by rw [HR1.out, updT_upd] at h2; exact h2⟩
        rcases List.mem_append.1 hy with hy | hy
        · exact HMM.out.1 y hy
        · rw [List.mem_singleton] at hy
          subst hy
          exact HMM.out.2 x (by simp)
set_option maxHeartbeats 1000000 in
set_option maxRecDepth 100000 in
theorem rheld_st {M0 : Imm} {L : List Res} (g : Nat) (now last : Int) (vs : Nat → RegV) (r : Nat → RegM) (c rg t : Int) (w : World) (h : St M0 w (docB g now last vs :: docS vs r :: L)) :
    Calls Try.prog 127 #[.pointer (some ⟨g, 0, none⟩), .int .i64 c, .int .i64 rg, .int .u64 t] w fun e w' => ∃ z, e = .returned (.tuple #[.int .i64 z, .int .i64 ((⟨now, last, r⟩ : TabM).heldE c rg t)]) ∧ St M0 w' (docB g now last vs :: docS vs r :: L) ∧
      ((⟨now, last, r⟩ : TabM).heldE c rg t = 0 → ∃ (i k : Nat) (x : HoldM), i < 4 ∧ rg = (i : Int) ∧ z = (k : Int) ∧ idxL (fun h => h.c == c) 0 (r i).h = (k : Int) ∧ (r i).h[k]? = some x ∧ x.c = c) := by
  have H := hide h
  clear h
  go_enter Try.func127, Try.ntmps127
  go_wp2_with fail
  refine (rright_st c rg _ H.out).mono ?_
  rintro e w1 ⟨rfl, h1⟩
  by_cases hr : rightE c rg = 0
  · have hb := rightE_ok hr
    obtain ⟨i, rfl⟩ := Int.eq_ofNat_of_zero_le hb.2.2.1
    have hi4 : i < 4 := by omega
    have E0 := hide (show (⟨now, last, r⟩ : TabM).heldE c (i : Int) t = match findH (r i).h c with
        | some h => if h.t = t then 0 else 92
        | none => 92 from if_neg (by rw [hr]; simp))
    rw [hr]
    have H1 := hide h1
    clear h1 H hr hb
    go_wp2_with fail
    refine (rhold_st g i c now last vs r _ hi4 H1.out).mono ?_
    rintro e w2 ⟨rfl, h3⟩
    rcases idxL_find (fun h => h.c == c) (r i).h with ⟨hz, hf⟩ | ⟨k, x, hz, hk, hp, hf, _⟩
    · have E := hide (E0.out.trans (show _ = (92 : Int) by unfold findH; rw [hf]))
      rw [hz]
      have H3 := hide h3
      clear h3 H1 hz hf
      go_wp2_with fail
      go_ret2
      exact ⟨0, by rw [E.out]; try rfl, H3.out, fun h => by rw [E.out] at h; omega⟩
    · rw [hz]
      have HZ := hide hz
      have HK := hide hk
      have HP := hide hp
      have E1 := hide (E0.out.trans (show _ = if x.t = t then (0 : Int) else 92 by unfold findH; rw [hf]))
      have hlk := (List.getElem?_eq_some_iff.1 hk).1
      obtain ⟨⟨A, n, cc⟩, hvi⟩ : ∃ hv, (vs i).h = hv := ⟨_, rfl⟩
      have hfl : FlatP holdC 4 w2 (.slice A n cc) (r i).h := by
        have := (h3.get 1 rfl i hi4).1
        rwa [hvi] at this
      obtain ⟨hn, hncc, _, _⟩ := hfl.sl
      obtain ⟨ad, rfl, hcs⟩ := hfl.at_ holdC_len hk
      obtain ⟨e0, e1, e2, e3⟩ := cells4F hcs
      have ch2 : w2.cell? ⟨g, 2 + i, none⟩ = some (.slice (some ad) n cc) := by
        refine ((h3.blk 0 rfl).cell (2 + i)).trans ?_
        refine (docC_h now last vs hi4).trans ?_
        rw [hvi]
      have k0 : (0 : Int) ≤ (k : Int) := by omega
      have k1 : (k : Int) < (n : Int) := by omega
      have kn : decide ((k : Int) < 0) = false := decide_eq_false (by omega)
      have i0 : (0 : Int) ≤ (i : Int) := by omega
      have i1 : (i : Int) < 4 := by omega
      have H3 := hide h3
      clear h3 H1 hz hf hk hcs hlk hn hfl hvi hp
      by_cases ht : x.t = t
      · have b1 : (x.t != t) = false := isNF ht
        have E := hide (E1.out.trans (if_pos ht))
        clear ht
        go_wp2_with fail
        go_ret2
        exact ⟨(k : Int), by rw [E.out]; try rfl, H3.out, fun _ => ⟨i, k, x, hi4, rfl, rfl, HZ.out, HK.out, by simpa using HP.out⟩⟩
      · have b1 : (x.t != t) = true := isN ht
        have E := hide (E1.out.trans (if_neg ht))
        clear ht
        go_wp2_with fail
        go_ret2
        exact ⟨0, by rw [E.out]; try rfl, H3.out, fun h => by rw [E.out] at h; omega⟩
  · have E := hide (show (⟨now, last, r⟩ : TabM).heldE c rg t = rightE c rg from if_pos hr)
    obtain ⟨z, hz⟩ : ∃ z, z = rightE c rg := ⟨_, rfl⟩
    rw [← hz] at hr E ⊢
    have b1 := isN hr
    have H1 := hide h1
    have HR := hide hr
    clear h1 H hz hr
    go_wp2_with fail
    go_ret2
    exact ⟨0, by rw [E.out]; try rfl, H1.out, fun h => absurd (E.out.symm.trans h) HR.out⟩
end Go.Proofs.Ytbgknfdaaffeaaa
/- Locks, the document: Acquire. Printed by gen_lkx9.py. -/
namespace Go.Proofs.Ytbgknfdaaffeaaa
open Go.RowKit Go.Shelf

set_option maxHeartbeats 8000000 in
set_option maxRecDepth 100000 in
theorem racquire_st {M0 : Imm} {L : List Res} (g : Nat) (T : TabM) (c r how : Int) (w : World) (hok : TabOk T) (hreg : ∀ i, i < 4 → RegOk (T.r i)) (h : St M0 w (docR g T :: L)) :
    Calls Try.prog 62 #[.pointer (some ⟨g, 0, none⟩), .int .i64 c, .int .i64 r, .int .i64 how] w fun e w' => e = .returned (.tuple #[.int .u64 (T.acquire c r how).2.1, .int .i64 (T.acquire c r how).2.2]) ∧ St M0 w' (docR g (T.acquire c r how).1 :: L) := by
  have H := hide h
  obtain ⟨av, hav⟩ : ∃ av, av = T.acquire c r how := ⟨_, rfl⟩
  rw [← hav]
  have HAV := hide hav
  have HOK := hide hok
  have HREG := hide hreg
  clear h hav hok hreg
  go_enter Try.func62, Try.ntmps62
  go_wp2_with fail
  refine (rright_st c r _ H.out).mono ?_
  rintro e w1 ⟨rfl, h1⟩
  by_cases hr : rightE c r = 0
  · have HA1 := hide (HAV.out.trans (show T.acquire c r how = if modeB how = false then (T, 0, 91) else T.acqIn c r.toNat how from if_neg (by rw [hr]; simp)))
    have hb := rightE_ok hr
    rw [hr]
    have H1 := hide h1
    clear h1 H hr
    by_cases hm : how = 1 ∨ how = 2
    case' pos => have hmo : modeB how = true := by rcases hm with rfl | rfl <;> rfl
    case neg =>
      have b1 := isN (fun e => hm (.inl e) : ¬ how = 1)
      have b2 := isN (fun e => hm (.inr e) : ¬ how = 2)
      have E := hide (HA1.out.trans (if_pos (by unfold modeB; rw [isF (fun e => hm (.inl e) : ¬ how = 1), isF (fun e => hm (.inr e) : ¬ how = 2)]; rfl)))
      clear hm
      go_wp2_with fail
      go_ret2
      exact ⟨by rw [E.out]; try rfl, by rw [E.out]; exact H1.out⟩
    case pos =>
      have hmm : (how != 1) = false ∨ ((how != 1) = true ∧ (how != 2) = false) := by
        rcases hm with rfl | rfl
        · exact .inl rfl
        · exact .inr ⟨rfl, rfl⟩
      have HMO := hide hmo
      obtain ⟨i, rfl⟩ := Int.eq_ofNat_of_zero_le hb.2.2.1
      have hi4 : i < 4 := by omega
      have i0 : (0 : Int) ≤ (i : Int) := by omega
      have i1 : (i : Int) < 4 := by omega
      have HA2 := hide (HA1.out.trans (show _ = T.acqIn c i how from if_neg (by rw [hmo]; exact Bool.noConfusion)))
      clear HA1 hb hmo hm
      rcases hmm with b1 | ⟨b1, b2⟩
      all_goals
        go_wp2_with fail
        obtain ⟨vs, h2⟩ := H1.out.docO
        refine (rhold_st g i c T.now T.last vs T.r _ hi4 h2).mono ?_
        rintro e w3 ⟨rfl, h4⟩
        clear h2 H1
        obtain ⟨⟨A, n, cc⟩, ⟨B, m, d⟩, hvi⟩ : ∃ hv wv, vs i = ⟨hv, wv⟩ := ⟨_, _, rfl⟩
        have HVI := hide hvi
        have HTH := hide (show (docC T.now T.last vs)[2 + i]? = some (.slice A n cc) by refine (docC_h T.now T.last vs hi4).trans ?_; rw [hvi])
        have HTW := hide (show (docC T.now T.last vs)[6 + i]? = some (.slice B m d) by refine (docC_w T.now T.last vs hi4).trans ?_; rw [hvi])
        have HV := hide (show ∀ W, docP vs T.r W → FlatP holdC 4 W (.slice A n cc) (T.r i).h ∧ FlatP wantC 2 W (.slice B m d) (T.r i).w from fun W hW => by
          have := hW i hi4
          rw [hvi] at this
          exact this)
        clear hvi
        rcases idxL_find (fun h : HoldM => h.c == c) (T.r i).h with ⟨hz, hf⟩ | ⟨k, x, hz, hk, _, hf, _⟩
        case inr =>
          rw [hz]
          have EX := hide (HA2.out.trans (show T.acqIn c i how = if x.m = how then (T, x.t, 0) else (T, 0, 91) by unfold TabM.acqIn findH; rw [hf]))
          have hlk := (List.getElem?_eq_some_iff.1 hk).1
          obtain ⟨hn, hncc, hccm, _⟩ := (HV.out _ (h4.get 1 rfl)).1.sl
          obtain ⟨ad, rfl, hcs⟩ := (HV.out _ (h4.get 1 rfl)).1.at_ holdC_len hk
          obtain ⟨e0, e1, e2, e3⟩ := cells4F hcs
          have ch : w3.cell? ⟨g, 2 + i, none⟩ = some (.slice (some ad) n cc) := ((h4.blk 0 rfl).cell (2 + i)).trans HTH.out
          have k0 : (0 : Int) ≤ (k : Int) := by omega
          have k1 : (k : Int) < (n : Int) := by omega
          have kg : decide ((k : Int) ≥ 0) = true := decide_eq_true k0
          have kg' : decide (0 ≤ (k : Int)) = true := kg
          have H5 := hide h4.docCl
          clear h4 hcs hf hk hlk hn hz HV
          by_cases he : x.m = how
          · have b3 := isNF he
            have E := hide (EX.out.trans (if_pos he))
            clear he EX
            go_wp2_with fail
            go_ret2
            exact ⟨by rw [E.out]; try rfl, by rw [E.out]; exact H5.out⟩
          · have b3 := isN he
            have E := hide (EX.out.trans (if_neg he))
            clear he EX
            go_wp2_with fail
            go_ret2
            exact ⟨by rw [E.out]; try rfl, by rw [E.out]; exact H5.out⟩
        rw [hz]
        have hneg : decide ((-1 : Int) ≥ 0) = false := by decide
        have HF := hide hf
        have H4 := hide h4
        clear h4 hz hf
        go_wp2_with fail
        refine (rwant_st g i c T.now T.last vs T.r _ hi4 H4.out).mono ?_
        rintro e w4 ⟨rfl, h5⟩
        clear H4
        rcases idxL_find (fun w : WantM => w.c == c) (T.r i).w with ⟨hz, hf⟩ | ⟨k, x, hz, hk, _, hf, _⟩
        case inr =>
          rw [hz]
          have EX := hide (HA2.out.trans (show T.acqIn c i how = if x.m = how then (T, 0, 90) else (T, 0, 91) by have := HF.out; unfold TabM.acqIn findH findW; rw [this]; simp only [hf]))
          have hlk := (List.getElem?_eq_some_iff.1 hk).1
          obtain ⟨hn, hncc, hccm, _⟩ := (HV.out _ (h5.get 1 rfl)).2.sl
          obtain ⟨ad, rfl, hcs⟩ := (HV.out _ (h5.get 1 rfl)).2.at_ wantC_len hk
          obtain ⟨e0, e1⟩ := cells2F hcs
          have cw : w4.cell? ⟨g, 6 + i, none⟩ = some (.slice (some ad) m d) := ((h5.blk 0 rfl).cell (6 + i)).trans HTW.out
          have k0 : (0 : Int) ≤ (k : Int) := by omega
          have k1 : (k : Int) < (m : Int) := by omega
          have kg : decide ((k : Int) ≥ 0) = true := decide_eq_true k0
          have kg' : decide (0 ≤ (k : Int)) = true := kg
          have H5 := hide h5.docCl
          clear h5 hcs hf hk hlk hn hz HV HF
          by_cases he : x.m = how
          · have b3 := isNF he
            have E := hide (EX.out.trans (if_pos he))
            clear he EX
            go_wp2_with fail
            go_ret2
            exact ⟨by rw [E.out]; try rfl, by rw [E.out]; exact H5.out⟩
          · have b3 := isN he
            have E := hide (EX.out.trans (if_neg he))
            clear he EX
            go_wp2_with fail
            go_ret2
            exact ⟨by rw [E.out]; try rfl, by rw [E.out]; exact H5.out⟩
        rw [hz]
        have EX := hide (HA2.out.trans (show T.acqIn c i how = if 4 ≤ (T.r i).w.length ∨ T.last = 18446744073709551615 then (T, 0, 42) else T.acqNew c i how by have := HF.out; unfold TabM.acqIn findH findW; rw [this]; simp only [hf]))
        obtain ⟨hmw, hmd, hdm, _⟩ := (HV.out _ (h5.get 1 rfl)).2.sl
        have HMW := hide hmw
        have cw : w4.cell? ⟨g, 6 + i, none⟩ = some (.slice B m d) := ((h5.blk 0 rfl).cell (6 + i)).trans HTW.out
        have c1 : w4.cell? ⟨g, 1, none⟩ = some (.int .u64 T.last) := (h5.blk 0 rfl).cell 1
        have H5 := hide h5
        clear h5 hmw hz hf HF HA2
        by_cases hfull : 4 ≤ (T.r i).w.length ∨ T.last = 18446744073709551615
        case pos =>
          have E := hide (EX.out.trans (if_pos hfull))
          clear EX
          by_cases h4 : 4 ≤ m
          · have d1 : decide ((m : Int) ≥ 4) = true := decide_eq_true (by omega)
            have d2 : decide ((4 : Int) ≤ (m : Int)) = true := d1
            clear hfull
            go_wp2_with fail
            go_ret2
            exact ⟨by rw [E.out]; try rfl, by rw [E.out]; exact H5.out.docCl⟩
          · have d1 : decide ((m : Int) ≥ 4) = false := decide_eq_false (by omega)
            have d2 : decide ((4 : Int) ≤ (m : Int)) = false := d1
            have hl : T.last = 18446744073709551615 := by
              rcases hfull with hh | hh
              · rw [← HMW.out] at hh
                exact absurd hh h4
              · exact hh
            have d3 : (T.last == 18446744073709551615) = true := isT hl
            obtain ⟨la, hla⟩ : ∃ la, la = T.last := ⟨_, rfl⟩
            rw [← hla] at d3 c1
            clear hfull hl hla
            go_wp2_with fail
            go_ret2
            exact ⟨by rw [E.out]; try rfl, by rw [E.out]; exact H5.out.docCl⟩
        have E := hide (EX.out.trans (if_neg hfull))
        have h4 : m < 4 := by have := HMW.out; omega
        have d1 : decide ((m : Int) ≥ 4) = false := decide_eq_false (by omega)
        have d2 : decide ((4 : Int) ≤ (m : Int)) = false := d1
        have d3 : (T.last == 18446744073709551615) = false := isF (fun e => hfull (.inr e))
        have d3' : (T.last = 18446744073709551615) = False := eq_false (fun e => hfull (.inr e))
        clear hfull EX
        go_wp2_with fail
        clear c1 d1 d2 d3 d3' cw
        obtain ⟨ws, hws⟩ : ∃ ws, ws = (T.r i).w := ⟨_, rfl⟩
        have HN := hide (show m = ws.length by rw [hws]; exact HMW.out)
        have HV2 := hide (show ∀ W, docP vs T.r W → FlatP wantC 2 W (.slice B m d) ws from fun W hW => by rw [hws]; exact (HV.out W hW).2)
        have HWS := hide hws
        have h0 := H5.out
        clear H5 hws HV HMW
        refine region_flow (M0 := M0) (L0 := L) [⟨none, some 18, fun e => docB g T.now T.last vs⟩, ⟨none, none, fun e => docS vs T.r⟩, ⟨some 2, some 9, fun e => ownR wantC 87 2 (.slice (some ⟨(e 2).n, 0, none⟩) 0 0) []⟩, ⟨some 9, some 14, fun e => ownR wantC 87 2 (.slice (e 9).A m (e 9).n) ws⟩, ⟨some 13, none, fun e => blkR (e 13).n 87 #[.int .i64 c, .int .i64 how]⟩, ⟨some 14, none, fun e => ownR wantC 87 2 (.slice (e 14).A (m + 1) (e 14).n) (ws ++ [(⟨c, how⟩ : WantM)])⟩, ⟨some 18, none, fun e => docB g T.now T.last (upd vs i ⟨(vs i).h, ⟨(e 14).A, m + 1, (e 14).n⟩⟩)⟩] [[], [], [], [], [], [3], [3, 5], [3, 4, 5, 6], [3, 4, 5, 6, 7], [2, 3, 4, 5, 6, 7, 8], [], [], [10, 11], [10, 11, 12], [2, 3, 4, 5, 6, 7, 8, 9, 10, 11, 12, 13], [0], [0, 15], [0, 1, 2, 3, 4, 5, 6, 7, 8, 9, 10, 11, 12, 13, 14, 15, 16], [0, 1, 2, 3, 4, 5, 6, 7, 8, 9, 10, 11, 12, 13, 14, 15, 16, 17]] [0, 1, 2, 3, 4, 5, 6, 7, 8, 9, 10, 11, 12, 13, 14, 15, 16, 17, 18] rfl (by kernel_rfl) (by kernel_rfl) (by kernel_rfl) (by rfl) (fun _ => rfl) (show St M0 _ (docB g T.now T.last vs :: docS vs T.r :: L) from h0) ?_
        refine flow_run _ rfl (fun _ => rfl) (fun e wx Lx h => by (go_simp; try rfl)) (by intro e; rfl) (by intro e; rfl) (by intro e x; rfl) ?_
        (simp only [Act.put, List.setIfInBounds_toArray, List.set_cons_succ, List.set_cons_zero])
        refine flow_run _ rfl (fun _ => rfl) (fun e wx Lx h => by (go_simp; try rfl)) (by intro e; rfl) (by intro e; rfl) (by intro e x; rfl) ?_
        (simp only [Act.put, List.setIfInBounds_toArray, List.set_cons_succ, List.set_cons_zero])
        refine flow_do (fun e => .slice (some ⟨(e 2).n, 0, none⟩) 0 0) rfl (fun _ => rfl) (by intro e; rfl) (fun e wx Lx h => by (
          have h : St M0 wx (docB g T.now T.last vs :: docS vs T.r :: Lx) := h
          have hk : St M0 _ (docB g T.now T.last vs :: docS vs T.r :: ownR wantC 87 2 (.slice (some ⟨wx.heap.size, 0, none⟩) 0 0) [] :: Lx) := (h.ownEmpty wantC 87 2).sub (by (repeat (first | with_reducible exact Sub.refl _ | (with_reducible apply Sub.take; focus (repeat (first | with_reducible exact At.here | with_reducible apply At.there))) | with_reducible apply Sub.drop)))
          exact ⟨⟨none, wx.heap.size, default⟩, _, exec_buildSlice0 rfl (want_empty _), hk⟩)) ?_
        (simp only [Act.put, List.setIfInBounds_toArray, List.set_cons_succ, List.set_cons_zero])
        refine flow_run _ rfl (fun _ => rfl) (fun e wx Lx h => by (go_simp; try rfl)) (by intro e; rfl) (by intro e; rfl) (by intro e x; rfl) ?_
        (simp only [Act.put, List.setIfInBounds_toArray, List.set_cons_succ, List.set_cons_zero])
        refine flow_run _ rfl (fun _ => rfl) (fun e wx Lx h => by (go_simp; try rfl)) (by intro e; rfl) (by intro e; rfl) (by intro e x; rfl) ?_
        (simp only [Act.put, List.setIfInBounds_toArray, List.set_cons_succ, List.set_cons_zero])
        refine flow_run _ rfl (fun _ => rfl) (fun e wx Lx h => by (go_simp; try rfl)) (by intro e; rfl) (by intro e; rfl) (by intro e x; rfl) ?_
        (simp only [Act.put, List.setIfInBounds_toArray, List.set_cons_succ, List.set_cons_zero])
        refine flow_run _ rfl (fun _ => rfl) (fun e wx Lx h => by (go_simp; try rfl)) (by intro e; rfl) (by intro e; rfl) (by intro e x; rfl) ?_
        (simp only [Act.put, List.setIfInBounds_toArray, List.set_cons_succ, List.set_cons_zero])
        refine flow_run _ rfl (fun _ => rfl) (fun e wx Lx h => by (go_simp; try rfl)) (by intro e; rfl) (by intro e; rfl) (by intro e x; rfl) ?_
        (simp only [Act.put, List.setIfInBounds_toArray, List.set_cons_succ, List.set_cons_zero])
        refine flow_run _ rfl (fun _ => rfl) (fun e wx Lx h => by (have h : St M0 wx (docB g T.now T.last vs :: docS vs T.r :: Lx) := h; have b0 := (h.blkA (g := g) (t := 135) (cs := docC T.now T.last vs) (by (repeat (first | with_reducible exact At.here | with_reducible apply At.there)))).cell 0; have b1 := (h.blkA (g := g) (t := 135) (cs := docC T.now T.last vs) (by (repeat (first | with_reducible exact At.here | with_reducible apply At.there)))).cell 1; have bo : wx.cell? ⟨g, 6 + i, none⟩ = some (.slice B m d) := ((h.blkA (g := g) (t := 135) (cs := docC T.now T.last vs) (by (repeat (first | with_reducible exact At.here | with_reducible apply At.there)))).cell (6 + i)).trans HTW.out; go_simp; try rfl)) (by intro e; rfl) (by intro e; rfl) (by intro e x; rfl) ?_
        (simp only [Act.put, List.setIfInBounds_toArray, List.set_cons_succ, List.set_cons_zero])
        refine flow_do (fun e => .slice (e 9).A m (e 9).n) rfl (fun _ => rfl) (by intro e; rfl) (fun e wx Lx h => by (
          have h : St M0 wx (docB g T.now T.last vs :: docS vs T.r :: ownR wantC 87 2 (.slice (some ⟨(e 2).n, 0, none⟩) 0 0) [] :: Lx) := h
          have hSl := (HV2.out _ (h.getA (Q := docP vs T.r) (by (repeat (first | with_reducible exact At.here | with_reducible apply At.there))))).sl.2.2.2
          obtain ⟨_, hrow⟩ := (h.front (X := ownR wantC 87 2 (.slice (some ⟨(e 2).n, 0, none⟩) 0 0) []) (by (repeat (first | with_reducible exact At.here | with_reducible apply At.there)))).ownOpen
          obtain ⟨v', w', hr, h2⟩ := St.run_app want_elem hrow _ B m d (ws.flatMap wantC) hSl (flatC_one want_one _) (by omega) (by omega)
          obtain ⟨A', c', rfl⟩ := h2.slice
          rw [Nat.zero_add] at hr h2
          have h3 := St.ownClose (C := wantC) (xs := ws) h2 HN.out
          have hk : St M0 _ (docB g T.now T.last vs :: docS vs T.r :: ownR wantC 87 2 (.slice A' m c') ws :: Lx) := h3.sub (by (repeat (first | with_reducible exact Sub.refl _ | (with_reducible apply Sub.take; focus (repeat (first | with_reducible exact At.here | with_reducible apply At.there))) | with_reducible apply Sub.drop)))
          exact ⟨⟨A', c', default⟩, _, exec_append rfl rfl rfl hr, hk⟩)) ?_
        (simp only [Act.put, List.setIfInBounds_toArray, List.set_cons_succ, List.set_cons_zero])
        refine flow_run _ rfl (fun _ => rfl) (fun e wx Lx h => by (go_simp; try rfl)) (by intro e; rfl) (by intro e; rfl) (by intro e x; rfl) ?_
        (simp only [Act.put, List.setIfInBounds_toArray, List.set_cons_succ, List.set_cons_zero])
        refine flow_run _ rfl (fun _ => rfl) (fun e wx Lx h => by (go_simp; try rfl)) (by intro e; rfl) (by intro e; rfl) (by intro e x; rfl) ?_
        (simp only [Act.put, List.setIfInBounds_toArray, List.set_cons_succ, List.set_cons_zero])
        refine flow_run _ rfl (fun _ => rfl) (fun e wx Lx h => by (go_simp; try rfl)) (by intro e; rfl) (by intro e; rfl) (by intro e x; rfl) ?_
        (simp only [Act.put, List.setIfInBounds_toArray, List.set_cons_succ, List.set_cons_zero])
        refine flow_do (fun e => .slice (some ⟨(e 13).n, 0, none⟩) 1 1) rfl (fun _ => rfl) (by intro e; rfl) (fun e wx Lx h => by (
          have h : St M0 wx (docB g T.now T.last vs :: docS vs T.r :: Lx) := h
          have hk : St M0 _ (docB g T.now T.last vs :: docS vs T.r :: blkR wx.heap.size 87 #[.int .i64 c, .int .i64 how] :: Lx) := (h.alloc 87 #[.int .i64 c, .int .i64 how]).sub (by (repeat (first | with_reducible exact Sub.refl _ | (with_reducible apply Sub.take; focus (repeat (first | with_reducible exact At.here | with_reducible apply At.there))) | with_reducible apply Sub.drop)))
          exact ⟨⟨none, wx.heap.size, default⟩, _, exec_buildSlice1 rfl rfl (want_build _ _ _), hk⟩)) ?_
        (simp only [Act.put, List.setIfInBounds_toArray, List.set_cons_succ, List.set_cons_zero])
        refine flow_do (fun e => .slice (e 14).A (m + 1) (e 14).n) rfl (fun _ => rfl) (by intro e; rfl) (fun e wx Lx h => by (
          have h : St M0 wx (docB g T.now T.last vs :: docS vs T.r :: ownR wantC 87 2 (.slice (e 9).A m (e 9).n) ws :: blkR (e 13).n 87 #[.int .i64 c, .int .i64 how] :: Lx) := h
          have hz := sl_blkT (cs := [.int .i64 c, .int .i64 how]) (h.blkA (g := (e 13).n) (t := 87) (cs := #[.int .i64 c, .int .i64 how]) (by (repeat (first | with_reducible exact At.here | with_reducible apply At.there))))
          obtain ⟨A', c', w', hr, h2⟩ := (h.front (X := ownR wantC 87 2 (.slice (e 9).A m (e 9).n) ws) (by (repeat (first | with_reducible exact At.here | with_reducible apply At.there)))).own1 want_elem _ ⟨(e 13).n, 0, none⟩ 1 (⟨c, how⟩ : WantM) hz (want_one _) rfl (by omega) (by omega)
          have hk : St M0 _ (docB g T.now T.last vs :: docS vs T.r :: blkR (e 13).n 87 #[.int .i64 c, .int .i64 how] :: ownR wantC 87 2 (.slice A' (m + 1) c') (ws ++ [(⟨c, how⟩ : WantM)]) :: Lx) := h2.sub (by (repeat (first | with_reducible exact Sub.refl _ | (with_reducible apply Sub.take; focus (repeat (first | with_reducible exact At.here | with_reducible apply At.there))) | with_reducible apply Sub.drop)))
          exact ⟨⟨A', c', default⟩, _, exec_append rfl rfl rfl hr, hk⟩)) ?_
        (simp only [Act.put, List.setIfInBounds_toArray, List.set_cons_succ, List.set_cons_zero])
        refine flow_run _ rfl (fun _ => rfl) (fun e wx Lx h => by (go_simp; try rfl)) (by intro e; rfl) (by intro e; rfl) (by intro e x; rfl) ?_
        (simp only [Act.put, List.setIfInBounds_toArray, List.set_cons_succ, List.set_cons_zero])
        refine flow_run _ rfl (fun _ => rfl) (fun e wx Lx h => by (go_simp; try rfl)) (by intro e; rfl) (by intro e; rfl) (by intro e x; rfl) ?_
        (simp only [Act.put, List.setIfInBounds_toArray, List.set_cons_succ, List.set_cons_zero])
        refine flow_run _ rfl (fun _ => rfl) (fun e wx Lx h => by (go_simp; try rfl)) (by intro e; rfl) (by intro e; rfl) (by intro e x; rfl) ?_
        (simp only [Act.put, List.setIfInBounds_toArray, List.set_cons_succ, List.set_cons_zero])
        refine flow_store _ _ _ (fun e => .pointer (some ⟨g, 6 + i, none⟩)) (fun e => .slice (e 14).A (m + 1) (e 14).n) rfl (fun _ => rfl) rfl (fun _ => rfl) (fun _ => rfl) (fun e wx Lx h => by (
          have h : St M0 wx (docB g T.now T.last vs :: docS vs T.r :: blkR (e 13).n 87 #[.int .i64 c, .int .i64 how] :: ownR wantC 87 2 (.slice (e 14).A (m + 1) (e 14).n) (ws ++ [(⟨c, how⟩ : WantM)]) :: Lx) := h
          have b0 := (h.blkA (g := g) (t := 135) (cs := docC T.now T.last vs) (by (repeat (first | with_reducible exact At.here | with_reducible apply At.there)))).cell 0; have b1 := (h.blkA (g := g) (t := 135) (cs := docC T.now T.last vs) (by (repeat (first | with_reducible exact At.here | with_reducible apply At.there)))).cell 1; have bo : wx.cell? ⟨g, 6 + i, none⟩ = some (.slice B m d) := ((h.blkA (g := g) (t := 135) (cs := docC T.now T.last vs) (by (repeat (first | with_reducible exact At.here | with_reducible apply At.there)))).cell (6 + i)).trans HTW.out
          have f := (h.blkA (g := g) (t := 135) (cs := docC T.now T.last vs) (by (repeat (first | with_reducible exact At.here | with_reducible apply At.there)))).frozen
          have h1 := (h.front (X := docB g T.now T.last vs) (by (repeat (first | with_reducible exact At.here | with_reducible apply At.there)))).put_ (6 + i) (.slice (e 14).A (m + 1) (e 14).n) (docC T.now T.last (upd vs i ⟨(vs i).h, ⟨(e 14).A, m + 1, (e 14).n⟩⟩)) (docC_setw T.now T.last vs hi4 ⟨(e 14).A, m + 1, (e 14).n⟩)
          have hk : St M0 _ (docS vs T.r :: blkR (e 13).n 87 #[.int .i64 c, .int .i64 how] :: ownR wantC 87 2 (.slice (e 14).A (m + 1) (e 14).n) (ws ++ [(⟨c, how⟩ : WantM)]) :: docB g T.now T.last (upd vs i ⟨(vs i).h, ⟨(e 14).A, m + 1, (e 14).n⟩⟩) :: Lx) := h1.sub (by (repeat (first | with_reducible exact Sub.refl _ | (with_reducible apply Sub.take; focus (repeat (first | with_reducible exact At.here | with_reducible apply At.there))) | with_reducible apply Sub.drop)))
          exact ⟨_, (by (go_simp; try rfl)), hk⟩)) ?_
        simp only [Act.put]
        refine flow_nil ?_
        intro e w1 h
        have h : St M0 w1 (docS vs T.r :: blkR (e 13).n 87 #[.int .i64 c, .int .i64 how] :: ownR wantC 87 2 (.slice (e 14).A (m + 1) (e 14).n) (ws ++ [(⟨c, how⟩ : WantM)]) :: docB g T.now T.last (upd vs i ⟨(vs i).h, ⟨(e 14).A, m + 1, (e 14).n⟩⟩) :: L) := h
        obtain ⟨A', hA'⟩ : ∃ A', (e 14).A = A' := ⟨_, rfl⟩
        obtain ⟨c', hc'⟩ : ∃ c', (e 14).n = c' := ⟨_, rfl⟩
        have h5 := (h.sub (L' := ownR wantC 87 2 (.slice (e 14).A (m + 1) (e 14).n) (ws ++ [(⟨c, how⟩ : WantM)]) :: docS vs T.r :: docB g T.now T.last (upd vs i ⟨(vs i).h, ⟨(e 14).A, m + 1, (e 14).n⟩⟩) :: L) (by (repeat (first | with_reducible exact Sub.refl _ | (with_reducible apply Sub.take; focus (repeat (first | with_reducible exact At.here | with_reducible apply At.there))) | with_reducible apply Sub.drop)))).ownKeep
        rw [hA', hc'] at h5
        obtain ⟨r2, hr2⟩ : ∃ r2, r2 = upd T.r i ⟨(T.r i).h, ws ++ [(⟨c, how⟩ : WantM)]⟩ := ⟨_, rfl⟩
        have h6 := h5.pers2 (Q := docP (upd vs i ⟨(vs i).h, ⟨A', m + 1, c'⟩⟩) r2) (fun w' a b j hj => by
          by_cases e : j = i
          · subst e
            rw [hr2, updT_same, updT_same]
            exact ⟨(b j hj).1, a⟩
          · rw [hr2, updT_ne _ _ e, updT_ne _ _ e]
            exact b j hj)
        have H6 := hide h6.swap
        have HR2 := hide hr2
        clear h0 h h5 h6 hA' hc' hr2
        go_wp2_with fail
        refine (rall_st g i T.now T.last _ r2 (T.r i).h (ws ++ [(⟨c, how⟩ : WantM)]) _ hi4 (by rw [HR2.out, updT_same]) ⟨HOK.out.now0, HOK.out.now1⟩ ⟨HOK.out.last0, HOK.out.last1⟩ (fun x hx => ((HREG.out i hi4).h x hx).2.1) (fun x hx => ?_) H6.out).mono ?_
        · rcases List.mem_append.1 hx with hx | hx
          · rw [HWS.out] at hx
            exact ((HREG.out i hi4).w x hx).2
          · rw [List.mem_singleton] at hx
            subst hx
            exact HMO.out
        rintro e w7 ⟨rfl, h11⟩
        obtain ⟨T2, hT2⟩ : ∃ T2, T2 = (T.setW i ((T.r i).w ++ [⟨c, how⟩])).give i := ⟨_, rfl⟩
        rw [HR2.out, updT_upd, HWS.out, ← give_setW, ← hT2] at h11
        have E2 := hide (show av = match findH (T2.r i).h c with
          | some h => (T2, h.t, 0)
          | none => (T2, 0, 90) by rw [hT2]; exact E.out)
        obtain ⟨vs3, h12⟩ := h11.docO
        have H11 := hide h12
        clear h11 h12 H6 hT2 E
        go_wp2_with fail
        refine (rhold_st g i c T2.now T2.last vs3 T2.r _ hi4 H11.out).mono ?_
        rintro e w8 ⟨rfl, h13⟩
        rcases idxL_find (fun h : HoldM => h.c == c) (T2.r i).h with ⟨hz, hf⟩ | ⟨k, x, hz, hk, _, hf, _⟩
        · rw [hz]
          have E := hide (E2.out.trans (show _ = (T2, (0 : Int), (90 : Int)) by unfold findH; rw [hf]))
          have H13 := hide h13.docCl
          clear h13 H11 hz hf E2
          go_wp2_with fail
          go_ret2
          exact ⟨by rw [E.out]; try rfl, by rw [E.out]; exact H13.out⟩
        · rw [hz]
          have E := hide (E2.out.trans (show _ = (T2, x.t, (0 : Int)) by unfold findH; rw [hf]))
          obtain ⟨⟨A, n, cc⟩, hvi⟩ : ∃ hv, (vs3 i).h = hv := ⟨_, rfl⟩
          have ch : w8.cell? ⟨g, 2 + i, none⟩ = some (.slice A n cc) := by
            refine ((h13.blk 0 rfl).cell (2 + i)).trans ?_
            refine (docC_h T2.now T2.last vs3 hi4).trans ?_
            rw [hvi]
          have hfl : FlatP holdC 4 w8 (.slice A n cc) (T2.r i).h := by
            have := (h13.get 1 rfl i hi4).1
            rwa [hvi] at this
          have hlk := (List.getElem?_eq_some_iff.1 hk).1
          obtain ⟨hn, hncc, hccm, _⟩ := hfl.sl
          obtain ⟨ad, rfl, hcs⟩ := hfl.at_ holdC_len hk
          obtain ⟨e0, e1, e2, e3⟩ := cells4F hcs
          have k0 : (0 : Int) ≤ (k : Int) := by omega
          have k1 : (k : Int) < (n : Int) := by omega
          have kg : decide ((k : Int) ≥ 0) = true := decide_eq_true k0
          have kg' : decide (0 ≤ (k : Int)) = true := kg
          have H13 := hide h13.docCl
          clear h13 H11 hz hf E2 hcs hk hn hlk hfl hvi
          go_wp2_with fail
          go_ret2
          exact ⟨by rw [E.out]; try rfl, by rw [E.out]; exact H13.out⟩
  · have E := hide (HAV.out.trans (show T.acquire c r how = (T, 0, rightE c r) from if_pos hr))
    obtain ⟨z, hz⟩ : ∃ z, z = rightE c r := ⟨_, rfl⟩
    rw [← hz] at hr E ⊢
    have b1 := isN hr
    have H1 := hide h1
    clear h1 H hz hr
    go_wp2_with fail
    go_ret2
    exact ⟨by rw [E.out]; try rfl, by rw [E.out]; exact H1.out⟩
end Go.Proofs.Ytbgknfdaaffeaaa
/- Locks, the document: Release, Cancel. Printed by gen_lkxa.py. -/
namespace Go.Proofs.Ytbgknfdaaffeaaa
open Go.RowKit Go.Shelf

theorem exec_slice {P : Program} {a : Act} {o : Oper} {w : World} {v v' : Value} {t : TypeId} {x : Operand} {lo hi : Option Operand} {l u : Option Value} (hop : o.op = .slice t x lo hi none) (hs : a.eval x = v) (hl : lo.map a.eval = l) (hh : hi.map a.eval = u)
    (h : (Instr.sliceAt t v l u none).run P w = .ok v' w) : (execOp a.eval o).run P w = .ok (.value v') w := by
  unfold execOp
  simp only [hop, Option.map_none, hs, hl, hh, Sem.run_bind, Sem.run_pure, Result.andThen_ok, h]
theorem run_toH (ad : Addr) (n c k : Nat) (w : World) (hk : k ≤ n) (hn : n ≤ c) : (Instr.sliceAt 73 (.slice (some ad) n c) none (some (.int .i64 (k : Nat))) none).run Try.prog w = .ok (.slice (some ad) k c) w := by
  have k0 : (0 : Int) ≤ (k : Int) := by omega
  have k1 : (k : Int) ≤ (c : Int) := by omega
  go_simp
theorem run_toW (ad : Addr) (n c k : Nat) (w : World) (hk : k ≤ n) (hn : n ≤ c) : (Instr.sliceAt 74 (.slice (some ad) n c) none (some (.int .i64 (k : Nat))) none).run Try.prog w = .ok (.slice (some ad) k c) w := by
  have k0 : (0 : Int) ≤ (k : Int) := by omega
  have k1 : (k : Int) ≤ (c : Int) := by omega
  go_simp
set_option maxHeartbeats 4000000 in
set_option maxRecDepth 100000 in
theorem rrelease_st {M0 : Imm} {L : List Res} (g : Nat) (T : TabM) (cl rg t : Int) (w : World) (hok : TabOk T) (hreg : ∀ i, i < 4 → RegOk (T.r i)) (h : St M0 w (docR g T :: L)) :
    Calls Try.prog 63 #[.pointer (some ⟨g, 0, none⟩), .int .i64 cl, .int .i64 rg, .int .u64 t] w fun e w' => e = .returned (.int .i64 (T.release cl rg t).2) ∧ St M0 w' (docR g (T.release cl rg t).1 :: L) := by
  obtain ⟨av, hav⟩ : ∃ av, av = T.release cl rg t := ⟨_, rfl⟩
  rw [← hav]
  have HAV := hide hav
  have HOK := hide hok
  have HREG := hide hreg
  obtain ⟨vs, h1⟩ := h.docO
  obtain ⟨now, last, r⟩ := T
  have H := hide (show St M0 w (docB g now last vs :: docS vs r :: L) from h1)
  clear h h1 hav hok hreg
  go_enter Try.func63, Try.ntmps63
  go_wp2_with fail
  refine (rheld_st g now last vs r cl rg t _ H.out).mono ?_
  rintro e w2 ⟨z, rfl, h2, hz⟩
  by_cases he : (⟨now, last, r⟩ : TabM).heldE cl rg t = 0
  · obtain ⟨i, k, x, hi4, rfl, rfl, hidx, hk, hc⟩ := hz he
    have E0 := hide (HAV.out.trans (show (⟨now, last, r⟩ : TabM).release cl (i : Int) t = (((⟨now, last, r⟩ : TabM).setH i (dropH (r i).h cl)).give i, 0) from if_neg (by rw [he]; simp)))
    have hdr : dropH (r i).h cl = (r i).h.eraseIdx k := by
      rcases idxL_find (fun h : HoldM => h.c == cl) (r i).h with ⟨a, _⟩ | ⟨k2, x2, a, _, _, _, b⟩
      · rw [hidx] at a
        omega
      · rw [hidx] at a
        obtain rfl : k = k2 := by omega
        exact b
    have E := E0
    rw [he]
    clear E0 he hidx hc H hz
    obtain ⟨⟨A, n, c⟩, hvi⟩ : ∃ hv, (vs i).h = hv := ⟨_, rfl⟩
    obtain ⟨hs, hhs⟩ : ∃ hs, hs = (r i).h := ⟨_, rfl⟩
    have HT := hide (show (docC now last vs)[2 + i]? = some (.slice A n c) by refine (docC_h now last vs hi4).trans ?_; rw [hvi])
    have HV := hide (show ∀ W, docP vs r W → FlatP holdC 4 W (.slice A n c) hs from fun W hW => by
      have := (hW i hi4).1
      rw [hvi, ← hhs] at this
      exact this)
    obtain ⟨hn, hnc, hcm, _⟩ := (HV.out _ (h2.get 1 rfl)).sl
    rw [← hhs] at hk
    obtain ⟨ad, rfl, _⟩ := (HV.out _ (h2.get 1 rfl)).at_ holdC_len hk
    have hlk : k < n := by rw [hn]; exact (List.getElem?_eq_some_iff.1 hk).1
    have HKL := hide (show k = (hs.take k).length by rw [List.length_take]; omega)
    have HKD := hide (show k + (n - (k + 1)) = (hs.take k ++ hs.drop (k + 1)).length by rw [List.length_append, List.length_take, List.length_drop]; omega)
    have HHS := hide hhs
    have i0 : (0 : Int) ≤ (i : Int) := by omega
    have i1 : (i : Int) < 4 := by omega
    have k0 : (0 : Int) ≤ (k : Int) := by omega
    have k1 : (k : Int) ≤ (c : Int) := by omega
    have wk : IntKind.i64.wrap ((k : Int) + 1) = ((k + 1 : Nat) : Int) := (IntWalk.i64_in _ (by omega)).trans (by omega)
    have hl4 : n ≤ 4 := by rw [hn, hhs]; exact (HREG.out i hi4).hl
    have H2 := hide h2
    clear h2 hvi hhs hn hk
    have HDR := hide (show dropH (r i).h cl = hs.eraseIdx k by rw [HHS.out]; exact hdr)
    clear hdr
    go_wp2_with fail
    have h0 := H2.out
    clear H2
    refine region_flow (M0 := M0) (L0 := L) [⟨none, some 25, fun e => docB g now last vs⟩, ⟨none, none, fun e => docS vs r⟩, ⟨some 2, some 11, fun e => ownR holdC 91 4 (.slice (some ⟨(e 2).n, 0, none⟩) 0 0) []⟩, ⟨some 11, some 21, fun e => ownR holdC 91 4 (.slice (e 11).A k (e 11).n) (hs.take k)⟩, ⟨some 21, none, fun e => ownR holdC 91 4 (.slice (e 21).A (k + (n - (k + 1))) (e 21).n) (hs.take k ++ hs.drop (k + 1))⟩, ⟨some 25, none, fun e => docB g now last (upd vs i ⟨⟨(e 21).A, k + (n - (k + 1)), (e 21).n⟩, (vs i).w⟩)⟩] [[], [], [], [], [], [3], [3, 5], [3, 4, 5, 6], [3, 4, 5, 6, 7], [], [3, 4, 5, 6, 7, 8, 9], [2, 3, 4, 5, 6, 7, 8, 9, 10], [], [], [12], [12, 14], [12, 13, 14, 15], [12, 13, 14, 15, 16], [], [18], [12, 13, 14, 15, 16, 17, 18, 19], [2, 3, 4, 5, 6, 7, 8, 9, 10, 11, 12, 13, 14, 15, 16, 17, 18, 19, 20], [0], [0, 22], [0, 1, 2, 3, 4, 5, 6, 7, 8, 9, 10, 11, 12, 13, 14, 15, 16, 17, 18, 19, 20, 21, 22, 23], [0, 1, 2, 3, 4, 5, 6, 7, 8, 9, 10, 11, 12, 13, 14, 15, 16, 17, 18, 19, 20, 21, 22, 23, 24]] [0, 1, 2, 3, 4, 5, 6, 7, 8, 9, 10, 11, 12, 13, 14, 15, 16, 17, 18, 19, 20, 21, 22, 23, 24, 25] rfl (by kernel_rfl) (by kernel_rfl) (by kernel_rfl) (by rfl) (fun _ => rfl) (show St M0 _ (docB g now last vs :: docS vs r :: L) from h0) ?_
    refine flow_run _ rfl (fun _ => rfl) (fun e wx Lx h => by (go_simp; try rfl)) (by intro e; rfl) (by intro e; rfl) (by intro e x; rfl) ?_
    (simp only [Act.put, List.setIfInBounds_toArray, List.set_cons_succ, List.set_cons_zero])
    refine flow_run _ rfl (fun _ => rfl) (fun e wx Lx h => by (go_simp; try rfl)) (by intro e; rfl) (by intro e; rfl) (by intro e x; rfl) ?_
    (simp only [Act.put, List.setIfInBounds_toArray, List.set_cons_succ, List.set_cons_zero])
    refine flow_do (fun e => .slice (some ⟨(e 2).n, 0, none⟩) 0 0) rfl (fun _ => rfl) (by intro e; rfl) (fun e wx Lx h => by (
      have h : St M0 wx (docB g now last vs :: docS vs r :: Lx) := h
      have hk : St M0 _ (docB g now last vs :: docS vs r :: ownR holdC 91 4 (.slice (some ⟨wx.heap.size, 0, none⟩) 0 0) [] :: Lx) := (h.ownEmpty holdC 91 4).sub (by (repeat (first | with_reducible exact Sub.refl _ | (with_reducible apply Sub.take; focus (repeat (first | with_reducible exact At.here | with_reducible apply At.there))) | with_reducible apply Sub.drop)))
      exact ⟨⟨none, wx.heap.size, default⟩, _, exec_buildSlice0 rfl (hold_empty _), hk⟩)) ?_
    (simp only [Act.put, List.setIfInBounds_toArray, List.set_cons_succ, List.set_cons_zero])
    refine flow_run _ rfl (fun _ => rfl) (fun e wx Lx h => by (go_simp; try rfl)) (by intro e; rfl) (by intro e; rfl) (by intro e x; rfl) ?_
    (simp only [Act.put, List.setIfInBounds_toArray, List.set_cons_succ, List.set_cons_zero])
    refine flow_run _ rfl (fun _ => rfl) (fun e wx Lx h => by (go_simp; try rfl)) (by intro e; rfl) (by intro e; rfl) (by intro e x; rfl) ?_
    (simp only [Act.put, List.setIfInBounds_toArray, List.set_cons_succ, List.set_cons_zero])
    refine flow_run _ rfl (fun _ => rfl) (fun e wx Lx h => by (go_simp; try rfl)) (by intro e; rfl) (by intro e; rfl) (by intro e x; rfl) ?_
    (simp only [Act.put, List.setIfInBounds_toArray, List.set_cons_succ, List.set_cons_zero])
    refine flow_run _ rfl (fun _ => rfl) (fun e wx Lx h => by (go_simp; try rfl)) (by intro e; rfl) (by intro e; rfl) (by intro e x; rfl) ?_
    (simp only [Act.put, List.setIfInBounds_toArray, List.set_cons_succ, List.set_cons_zero])
    refine flow_run _ rfl (fun _ => rfl) (fun e wx Lx h => by (go_simp; try rfl)) (by intro e; rfl) (by intro e; rfl) (by intro e x; rfl) ?_
    (simp only [Act.put, List.setIfInBounds_toArray, List.set_cons_succ, List.set_cons_zero])
    refine flow_run _ rfl (fun _ => rfl) (fun e wx Lx h => by (have h : St M0 wx (docB g now last vs :: docS vs r :: Lx) := h; have bo : wx.cell? ⟨g, 2 + i, none⟩ = some (.slice (some ad) n c) := ((h.blkA (g := g) (t := 135) (cs := docC now last vs) (by (repeat (first | with_reducible exact At.here | with_reducible apply At.there)))).cell (2 + i)).trans HT.out; go_simp; try rfl)) (by intro e; rfl) (by intro e; rfl) (by intro e x; rfl) ?_
    (simp only [Act.put, List.setIfInBounds_toArray, List.set_cons_succ, List.set_cons_zero])
    refine flow_run _ rfl (fun _ => rfl) (fun e wx Lx h => by (go_simp; try rfl)) (by intro e; rfl) (by intro e; rfl) (by intro e x; rfl) ?_
    (simp only [Act.put, List.setIfInBounds_toArray, List.set_cons_succ, List.set_cons_zero])
    refine flow_run (fun e => .slice (some ad) k c) rfl (fun _ => rfl) (fun e wx Lx h => by (exact exec_slice (l := none) (u := some (.int .i64 (k : Nat))) rfl rfl rfl rfl (run_toH ad n c k _ (by omega) hnc))) (by intro e; rfl) (by intro e; rfl) (by intro e x; rfl) ?_
    (simp only [Act.put, List.setIfInBounds_toArray, List.set_cons_succ, List.set_cons_zero])
    refine flow_do (fun e => .slice (e 11).A (k) (e 11).n) rfl (fun _ => rfl) (by intro e; rfl) (fun e wx Lx h => by (
      have h : St M0 wx (docB g now last vs :: docS vs r :: ownR holdC 91 4 (.slice (some ⟨(e 2).n, 0, none⟩) 0 0) [] :: Lx) := h
      have hSl := (FlatP.take (j := k) holdC_len (HV.out _ (h.getA (Q := docP vs r) (by (repeat (first | with_reducible exact At.here | with_reducible apply At.there))))) (by omega)).sl.2.2.2
      obtain ⟨_, hrow⟩ := (h.front (X := ownR holdC 91 4 (.slice (some ⟨(e 2).n, 0, none⟩) 0 0) []) (by (repeat (first | with_reducible exact At.here | with_reducible apply At.there)))).ownOpen
      obtain ⟨v', w', hr, h2⟩ := St.run_app hold_elem hrow _ (some ad) (k) (c) ((hs.take k).flatMap holdC) hSl (flatC_one hold_one _) (by omega) (by omega)
      obtain ⟨A', c', rfl⟩ := h2.slice
      rw [Nat.zero_add] at hr h2
      have h3 := St.ownClose (C := holdC) (xs := hs.take k) h2 HKL.out
      have hk : St M0 _ (docB g now last vs :: docS vs r :: ownR holdC 91 4 (.slice A' k c') (hs.take k) :: Lx) := h3.sub (by (repeat (first | with_reducible exact Sub.refl _ | (with_reducible apply Sub.take; focus (repeat (first | with_reducible exact At.here | with_reducible apply At.there))) | with_reducible apply Sub.drop)))
      exact ⟨⟨A', c', default⟩, _, exec_append rfl rfl rfl hr, hk⟩)) ?_
    (simp only [Act.put, List.setIfInBounds_toArray, List.set_cons_succ, List.set_cons_zero])
    refine flow_run _ rfl (fun _ => rfl) (fun e wx Lx h => by (go_simp; try rfl)) (by intro e; rfl) (by intro e; rfl) (by intro e x; rfl) ?_
    (simp only [Act.put, List.setIfInBounds_toArray, List.set_cons_succ, List.set_cons_zero])
    refine flow_run _ rfl (fun _ => rfl) (fun e wx Lx h => by (go_simp; try rfl)) (by intro e; rfl) (by intro e; rfl) (by intro e x; rfl) ?_
    (simp only [Act.put, List.setIfInBounds_toArray, List.set_cons_succ, List.set_cons_zero])
    refine flow_run _ rfl (fun _ => rfl) (fun e wx Lx h => by (go_simp; try rfl)) (by intro e; rfl) (by intro e; rfl) (by intro e x; rfl) ?_
    (simp only [Act.put, List.setIfInBounds_toArray, List.set_cons_succ, List.set_cons_zero])
    refine flow_run _ rfl (fun _ => rfl) (fun e wx Lx h => by (go_simp; try rfl)) (by intro e; rfl) (by intro e; rfl) (by intro e x; rfl) ?_
    (simp only [Act.put, List.setIfInBounds_toArray, List.set_cons_succ, List.set_cons_zero])
    refine flow_run _ rfl (fun _ => rfl) (fun e wx Lx h => by (go_simp; try rfl)) (by intro e; rfl) (by intro e; rfl) (by intro e x; rfl) ?_
    (simp only [Act.put, List.setIfInBounds_toArray, List.set_cons_succ, List.set_cons_zero])
    refine flow_run _ rfl (fun _ => rfl) (fun e wx Lx h => by (have h : St M0 wx (docB g now last vs :: docS vs r :: Lx) := h; have bo : wx.cell? ⟨g, 2 + i, none⟩ = some (.slice (some ad) n c) := ((h.blkA (g := g) (t := 135) (cs := docC now last vs) (by (repeat (first | with_reducible exact At.here | with_reducible apply At.there)))).cell (2 + i)).trans HT.out; go_simp; try rfl)) (by intro e; rfl) (by intro e; rfl) (by intro e x; rfl) ?_
    (simp only [Act.put, List.setIfInBounds_toArray, List.set_cons_succ, List.set_cons_zero])
    refine flow_run _ rfl (fun _ => rfl) (fun e wx Lx h => by (go_simp; try rfl)) (by intro e; rfl) (by intro e; rfl) (by intro e x; rfl) ?_
    (simp only [Act.put, List.setIfInBounds_toArray, List.set_cons_succ, List.set_cons_zero])
    refine flow_run (fun e => .int .i64 ((k + 1 : Nat) : Int)) rfl (fun _ => rfl) (fun e wx Lx h => by (go_simp; try rfl)) (by intro e; rfl) (by intro e; rfl) (by intro e x; rfl) ?_
    (simp only [Act.put, List.setIfInBounds_toArray, List.set_cons_succ, List.set_cons_zero])
    refine flow_run (fun e => .slice (fromA (some ad) c (k + 1) 4) (n - (k + 1)) (c - (k + 1))) rfl (fun _ => rfl) (fun e wx Lx h => by (exact exec_slice (l := some (.int .i64 ((k + 1 : Nat) : Int))) (u := none) rfl rfl rfl rfl (run_fromH (some ad) n c (k + 1) _ (by omega) hnc))) (by intro e; rfl) (by intro e; rfl) (by intro e x; rfl) ?_
    (simp only [Act.put, List.setIfInBounds_toArray, List.set_cons_succ, List.set_cons_zero])
    refine flow_do (fun e => .slice (e 21).A (k + (n - (k + 1))) (e 21).n) rfl (fun _ => rfl) (by intro e; rfl) (fun e wx Lx h => by (
      have h : St M0 wx (docB g now last vs :: docS vs r :: ownR holdC 91 4 (.slice (e 11).A k (e 11).n) (hs.take k) :: Lx) := h
      have hSl := (FlatP.drop (j := k + 1) holdC_len (HV.out _ (h.getA (Q := docP vs r) (by (repeat (first | with_reducible exact At.here | with_reducible apply At.there))))) (by omega)).sl.2.2.2
      obtain ⟨_, hrow⟩ := (h.front (X := ownR holdC 91 4 (.slice (e 11).A k (e 11).n) (hs.take k)) (by (repeat (first | with_reducible exact At.here | with_reducible apply At.there)))).ownOpen
      obtain ⟨v', w', hr, h2⟩ := St.run_app hold_elem hrow _ (fromA (some ad) c (k + 1) 4) (n - (k + 1)) (c - (k + 1)) ((hs.drop (k + 1)).flatMap holdC) hSl (flatC_one hold_one _) (by omega) (by omega)
      obtain ⟨A', c', rfl⟩ := h2.slice
      rw [← List.flatMap_append] at h2
      have h3 := St.ownClose (C := holdC) (xs := hs.take k ++ hs.drop (k + 1)) h2 HKD.out
      have hk : St M0 _ (docB g now last vs :: docS vs r :: ownR holdC 91 4 (.slice A' (k + (n - (k + 1))) c') (hs.take k ++ hs.drop (k + 1)) :: Lx) := h3.sub (by (repeat (first | with_reducible exact Sub.refl _ | (with_reducible apply Sub.take; focus (repeat (first | with_reducible exact At.here | with_reducible apply At.there))) | with_reducible apply Sub.drop)))
      exact ⟨⟨A', c', default⟩, _, exec_append rfl rfl rfl hr, hk⟩)) ?_
    (simp only [Act.put, List.setIfInBounds_toArray, List.set_cons_succ, List.set_cons_zero])
    refine flow_run _ rfl (fun _ => rfl) (fun e wx Lx h => by (go_simp; try rfl)) (by intro e; rfl) (by intro e; rfl) (by intro e x; rfl) ?_
    (simp only [Act.put, List.setIfInBounds_toArray, List.set_cons_succ, List.set_cons_zero])
    refine flow_run _ rfl (fun _ => rfl) (fun e wx Lx h => by (go_simp; try rfl)) (by intro e; rfl) (by intro e; rfl) (by intro e x; rfl) ?_
    (simp only [Act.put, List.setIfInBounds_toArray, List.set_cons_succ, List.set_cons_zero])
    refine flow_run _ rfl (fun _ => rfl) (fun e wx Lx h => by (go_simp; try rfl)) (by intro e; rfl) (by intro e; rfl) (by intro e x; rfl) ?_
    (simp only [Act.put, List.setIfInBounds_toArray, List.set_cons_succ, List.set_cons_zero])
    refine flow_store _ _ _ (fun e => .pointer (some ⟨g, 2 + i, none⟩)) (fun e => .slice (e 21).A (k + (n - (k + 1))) (e 21).n) rfl (fun _ => rfl) rfl (fun _ => rfl) (fun _ => rfl) (fun e wx Lx h => by (
      have h : St M0 wx (docB g now last vs :: docS vs r :: ownR holdC 91 4 (.slice (e 21).A (k + (n - (k + 1))) (e 21).n) (hs.take k ++ hs.drop (k + 1)) :: Lx) := h
      have bo : wx.cell? ⟨g, 2 + i, none⟩ = some (.slice (some ad) n c) := ((h.blkA (g := g) (t := 135) (cs := docC now last vs) (by (repeat (first | with_reducible exact At.here | with_reducible apply At.there)))).cell (2 + i)).trans HT.out
      have f := (h.blkA (g := g) (t := 135) (cs := docC now last vs) (by (repeat (first | with_reducible exact At.here | with_reducible apply At.there)))).frozen
      have h1 := (h.front (X := docB g now last vs) (by (repeat (first | with_reducible exact At.here | with_reducible apply At.there)))).put_ (2 + i) (.slice (e 21).A (k + (n - (k + 1))) (e 21).n) (docC now last (upd vs i ⟨⟨(e 21).A, k + (n - (k + 1)), (e 21).n⟩, (vs i).w⟩)) (docC_seth now last vs hi4 ⟨(e 21).A, k + (n - (k + 1)), (e 21).n⟩)
      have hk : St M0 _ (docS vs r :: ownR holdC 91 4 (.slice (e 21).A (k + (n - (k + 1))) (e 21).n) (hs.take k ++ hs.drop (k + 1)) :: docB g now last (upd vs i ⟨⟨(e 21).A, k + (n - (k + 1)), (e 21).n⟩, (vs i).w⟩) :: Lx) := h1.sub (by (repeat (first | with_reducible exact Sub.refl _ | (with_reducible apply Sub.take; focus (repeat (first | with_reducible exact At.here | with_reducible apply At.there))) | with_reducible apply Sub.drop)))
      exact ⟨_, (by (go_simp; try rfl)), hk⟩)) ?_
    simp only [Act.put]
    refine flow_nil ?_
    intro e w1 h
    have h : St M0 w1 (docS vs r :: ownR holdC 91 4 (.slice (e 21).A (k + (n - (k + 1))) (e 21).n) (hs.take k ++ hs.drop (k + 1)) :: docB g now last (upd vs i ⟨⟨(e 21).A, k + (n - (k + 1)), (e 21).n⟩, (vs i).w⟩) :: L) := h
    obtain ⟨A', hA'⟩ : ∃ A', (e 21).A = A' := ⟨_, rfl⟩
    obtain ⟨c', hc'⟩ : ∃ c', (e 21).n = c' := ⟨_, rfl⟩
    have h5 := (h.sub (L' := ownR holdC 91 4 (.slice (e 21).A (k + (n - (k + 1))) (e 21).n) (hs.take k ++ hs.drop (k + 1)) :: docS vs r :: docB g now last (upd vs i ⟨⟨(e 21).A, k + (n - (k + 1)), (e 21).n⟩, (vs i).w⟩) :: L) (by (repeat (first | with_reducible exact Sub.refl _ | (with_reducible apply Sub.take; focus (repeat (first | with_reducible exact At.here | with_reducible apply At.there))) | with_reducible apply Sub.drop)))).ownKeep
    rw [hA', hc'] at h5
    obtain ⟨r2, hr2⟩ : ∃ r2, r2 = upd r i ⟨hs.take k ++ hs.drop (k + 1), (r i).w⟩ := ⟨_, rfl⟩
    have h6 := h5.pers2 (Q := docP (upd vs i ⟨⟨A', k + (n - (k + 1)), c'⟩, (vs i).w⟩) r2) (fun w' a b j hj => by
      by_cases e : j = i
      · subst e
        rw [hr2, updT_same, updT_same]
        exact ⟨a, (b j hj).2⟩
      · rw [hr2, updT_ne _ _ e, updT_ne _ _ e]
        exact b j hj)
    have H6 := hide h6.swap
    have HR2 := hide hr2
    clear h0 h h5 h6 hA' hc' hr2
    go_wp2_with fail
    refine (rall_st g i now last _ r2 (hs.take k ++ hs.drop (k + 1)) (r i).w _ hi4 (by rw [HR2.out, updT_same]) ⟨HOK.out.now0, HOK.out.now1⟩ ⟨HOK.out.last0, HOK.out.last1⟩ (fun x hx => ?_) (fun x hx => ((HREG.out i hi4).w x hx).2) H6.out).mono ?_
    · rw [← List.eraseIdx_eq_take_drop_succ, HHS.out] at hx
      exact ((HREG.out i hi4).h x (List.mem_of_mem_eraseIdx hx)).2.1
    rintro e w7 ⟨rfl, h11⟩
    have H7 := hide (show St M0 w7 (docR g av.1 :: L) by
      rw [E.out, give_setH, HDR.out]
      rw [HR2.out, updT_upd, ← List.eraseIdx_eq_take_drop_succ] at h11
      exact h11)
    clear h11 H6
    go_wp2_with fail
    go_ret
    exact ⟨by rw [E.out]; try rfl, H7.out⟩
  · have E := hide (HAV.out.trans (show (⟨now, last, r⟩ : TabM).release cl rg t = (_, (⟨now, last, r⟩ : TabM).heldE cl rg t) from if_pos he))
    obtain ⟨q, hq⟩ : ∃ q, q = (⟨now, last, r⟩ : TabM).heldE cl rg t := ⟨_, rfl⟩
    rw [← hq] at he E ⊢
    have b1 := isN he
    have H2 := hide h2
    clear h2 H hq he hz
    go_wp2_with fail
    go_ret
    exact ⟨by rw [E.out]; try rfl, by rw [E.out]; exact H2.out.docCl⟩
set_option maxHeartbeats 4000000 in
set_option maxRecDepth 100000 in
theorem rcancel_st {M0 : Imm} {L : List Res} (g : Nat) (T : TabM) (cl rg : Int) (w : World) (hok : TabOk T) (hreg : ∀ i, i < 4 → RegOk (T.r i)) (h : St M0 w (docR g T :: L)) :
    Calls Try.prog 66 #[.pointer (some ⟨g, 0, none⟩), .int .i64 cl, .int .i64 rg] w fun e w' => e = .returned (.int .i64 (T.cancel cl rg).2) ∧ St M0 w' (docR g (T.cancel cl rg).1 :: L) := by
  obtain ⟨av, hav⟩ : ∃ av, av = T.cancel cl rg := ⟨_, rfl⟩
  rw [← hav]
  have HAV := hide hav
  have HOK := hide hok
  have HREG := hide hreg
  obtain ⟨vs, h1⟩ := h.docO
  obtain ⟨now, last, r⟩ := T
  have H := hide (show St M0 w (docB g now last vs :: docS vs r :: L) from h1)
  clear h h1 hav hok hreg
  go_enter Try.func66, Try.ntmps66
  go_wp2_with fail
  refine (rright_st cl rg _ H.out).mono ?_
  rintro e w1 ⟨rfl, h1⟩
  by_cases hr : rightE cl rg = 0
  · have hb := rightE_ok hr
    obtain ⟨i, rfl⟩ := Int.eq_ofNat_of_zero_le hb.2.2.1
    have hi4 : i < 4 := by omega
    have E0 := hide (HAV.out.trans (show (⟨now, last, r⟩ : TabM).cancel cl (i : Int) = match findW (r i).w cl with
      | some _ => (((⟨now, last, r⟩ : TabM).setW i (dropW (r i).w cl)).give i, 0)
      | none => ((⟨now, last, r⟩ : TabM), 41) from if_neg (by rw [hr]; simp)))
    rw [hr]
    have H1 := hide h1
    clear h1 H hr hb
    go_wp2_with fail
    refine (rwant_st g i cl now last vs r _ hi4 H1.out).mono ?_
    rintro e w2 ⟨rfl, h2⟩
    rcases idxL_find (fun h : WantM => h.c == cl) (r i).w with ⟨hz, hf⟩ | ⟨k, x, hz, hk, _, hf, hdr⟩
    · have E := hide (E0.out.trans (show _ = ((⟨now, last, r⟩ : TabM), (41 : Int)) by unfold findW; rw [hf]))
      rw [hz]
      have H2 := hide h2
      clear h2 H1 hz hf
      go_wp2_with fail
      go_ret
      exact ⟨by rw [E.out]; try rfl, by rw [E.out]; exact H2.out.docCl⟩
    · have E := hide (E0.out.trans (show _ = (((⟨now, last, r⟩ : TabM).setW i (dropW (r i).w cl)).give i, (0 : Int)) by unfold findW; rw [hf]))
      rw [hz]
      clear hz hf H1 E0
      have kn : decide ((k : Int) < 0) = false := decide_eq_false (by omega)
      obtain ⟨⟨A, n, c⟩, hvi⟩ : ∃ hv, (vs i).w = hv := ⟨_, rfl⟩
      obtain ⟨hs, hhs⟩ : ∃ hs, hs = (r i).w := ⟨_, rfl⟩
      have HT := hide (show (docC now last vs)[6 + i]? = some (.slice A n c) by refine (docC_w now last vs hi4).trans ?_; rw [hvi])
      have HV := hide (show ∀ W, docP vs r W → FlatP wantC 2 W (.slice A n c) hs from fun W hW => by
        have := (hW i hi4).2
        rw [hvi, ← hhs] at this
        exact this)
      obtain ⟨hn, hnc, hcm, _⟩ := (HV.out _ (h2.get 1 rfl)).sl
      rw [← hhs] at hk
      obtain ⟨ad, rfl, _⟩ := (HV.out _ (h2.get 1 rfl)).at_ wantC_len hk
      have hlk : k < n := by rw [hn]; exact (List.getElem?_eq_some_iff.1 hk).1
      have HKL := hide (show k = (hs.take k).length by rw [List.length_take]; omega)
      have HKD := hide (show k + (n - (k + 1)) = (hs.take k ++ hs.drop (k + 1)).length by rw [List.length_append, List.length_take, List.length_drop]; omega)
      have HHS := hide hhs
      have i0 : (0 : Int) ≤ (i : Int) := by omega
      have i1 : (i : Int) < 4 := by omega
      have k0 : (0 : Int) ≤ (k : Int) := by omega
      have k1 : (k : Int) ≤ (c : Int) := by omega
      have wk : IntKind.i64.wrap ((k : Int) + 1) = ((k + 1 : Nat) : Int) := (IntWalk.i64_in _ (by omega)).trans (by omega)
      have hl4 : n ≤ 4 := by rw [hn, hhs]; exact (HREG.out i hi4).wl
      have H2 := hide h2
      clear h2 hvi hhs hn hk
      have HDR := hide (show dropW (r i).w cl = hs.eraseIdx k by rw [HHS.out]; exact hdr)
      clear hdr
      go_wp2_with fail
      have h0 := H2.out
      clear H2
      refine region_flow (M0 := M0) (L0 := L) [⟨none, some 25, fun e => docB g now last vs⟩, ⟨none, none, fun e => docS vs r⟩, ⟨some 2, some 11, fun e => ownR wantC 87 2 (.slice (some ⟨(e 2).n, 0, none⟩) 0 0) []⟩, ⟨some 11, some 21, fun e => ownR wantC 87 2 (.slice (e 11).A k (e 11).n) (hs.take k)⟩, ⟨some 21, none, fun e => ownR wantC 87 2 (.slice (e 21).A (k + (n - (k + 1))) (e 21).n) (hs.take k ++ hs.drop (k + 1))⟩, ⟨some 25, none, fun e => docB g now last (upd vs i ⟨(vs i).h, ⟨(e 21).A, k + (n - (k + 1)), (e 21).n⟩⟩)⟩] [[], [], [], [], [], [3], [3, 5], [3, 4, 5, 6], [3, 4, 5, 6, 7], [], [3, 4, 5, 6, 7, 8, 9], [2, 3, 4, 5, 6, 7, 8, 9, 10], [], [], [12], [12, 14], [12, 13, 14, 15], [12, 13, 14, 15, 16], [], [18], [12, 13, 14, 15, 16, 17, 18, 19], [2, 3, 4, 5, 6, 7, 8, 9, 10, 11, 12, 13, 14, 15, 16, 17, 18, 19, 20], [0], [0, 22], [0, 1, 2, 3, 4, 5, 6, 7, 8, 9, 10, 11, 12, 13, 14, 15, 16, 17, 18, 19, 20, 21, 22, 23], [0, 1, 2, 3, 4, 5, 6, 7, 8, 9, 10, 11, 12, 13, 14, 15, 16, 17, 18, 19, 20, 21, 22, 23, 24]] [0, 1, 2, 3, 4, 5, 6, 7, 8, 9, 10, 11, 12, 13, 14, 15, 16, 17, 18, 19, 20, 21, 22, 23, 24, 25] rfl (by kernel_rfl) (by kernel_rfl) (by kernel_rfl) (by rfl) (fun _ => rfl) (show St M0 _ (docB g now last vs :: docS vs r :: L) from h0) ?_
      refine flow_run _ rfl (fun _ => rfl) (fun e wx Lx h => by (go_simp; try rfl)) (by intro e; rfl) (by intro e; rfl) (by intro e x; rfl) ?_
      (simp only [Act.put, List.setIfInBounds_toArray, List.set_cons_succ, List.set_cons_zero])
      refine flow_run _ rfl (fun _ => rfl) (fun e wx Lx h => by (go_simp; try rfl)) (by intro e; rfl) (by intro e; rfl) (by intro e x; rfl) ?_
      (simp only [Act.put, List.setIfInBounds_toArray, List.set_cons_succ, List.set_cons_zero])
      refine flow_do (fun e => .slice (some ⟨(e 2).n, 0, none⟩) 0 0) rfl (fun _ => rfl) (by intro e; rfl) (fun e wx Lx h => by (
        have h : St M0 wx (docB g now last vs :: docS vs r :: Lx) := h
        have hk : St M0 _ (docB g now last vs :: docS vs r :: ownR wantC 87 2 (.slice (some ⟨wx.heap.size, 0, none⟩) 0 0) [] :: Lx) := (h.ownEmpty wantC 87 2).sub (by (repeat (first | with_reducible exact Sub.refl _ | (with_reducible apply Sub.take; focus (repeat (first | with_reducible exact At.here | with_reducible apply At.there))) | with_reducible apply Sub.drop)))
        exact ⟨⟨none, wx.heap.size, default⟩, _, exec_buildSlice0 rfl (want_empty _), hk⟩)) ?_
      (simp only [Act.put, List.setIfInBounds_toArray, List.set_cons_succ, List.set_cons_zero])
      refine flow_run _ rfl (fun _ => rfl) (fun e wx Lx h => by (go_simp; try rfl)) (by intro e; rfl) (by intro e; rfl) (by intro e x; rfl) ?_
      (simp only [Act.put, List.setIfInBounds_toArray, List.set_cons_succ, List.set_cons_zero])
      refine flow_run _ rfl (fun _ => rfl) (fun e wx Lx h => by (go_simp; try rfl)) (by intro e; rfl) (by intro e; rfl) (by intro e x; rfl) ?_
      (simp only [Act.put, List.setIfInBounds_toArray, List.set_cons_succ, List.set_cons_zero])
      refine flow_run _ rfl (fun _ => rfl) (fun e wx Lx h => by (go_simp; try rfl)) (by intro e; rfl) (by intro e; rfl) (by intro e x; rfl) ?_
      (simp only [Act.put, List.setIfInBounds_toArray, List.set_cons_succ, List.set_cons_zero])
      refine flow_run _ rfl (fun _ => rfl) (fun e wx Lx h => by (go_simp; try rfl)) (by intro e; rfl) (by intro e; rfl) (by intro e x; rfl) ?_
      (simp only [Act.put, List.setIfInBounds_toArray, List.set_cons_succ, List.set_cons_zero])
      refine flow_run _ rfl (fun _ => rfl) (fun e wx Lx h => by (go_simp; try rfl)) (by intro e; rfl) (by intro e; rfl) (by intro e x; rfl) ?_
      (simp only [Act.put, List.setIfInBounds_toArray, List.set_cons_succ, List.set_cons_zero])
      refine flow_run _ rfl (fun _ => rfl) (fun e wx Lx h => by (have h : St M0 wx (docB g now last vs :: docS vs r :: Lx) := h; have bo : wx.cell? ⟨g, 6 + i, none⟩ = some (.slice (some ad) n c) := ((h.blkA (g := g) (t := 135) (cs := docC now last vs) (by (repeat (first | with_reducible exact At.here | with_reducible apply At.there)))).cell (6 + i)).trans HT.out; go_simp; try rfl)) (by intro e; rfl) (by intro e; rfl) (by intro e x; rfl) ?_
      (simp only [Act.put, List.setIfInBounds_toArray, List.set_cons_succ, List.set_cons_zero])
      refine flow_run _ rfl (fun _ => rfl) (fun e wx Lx h => by (go_simp; try rfl)) (by intro e; rfl) (by intro e; rfl) (by intro e x; rfl) ?_
      (simp only [Act.put, List.setIfInBounds_toArray, List.set_cons_succ, List.set_cons_zero])
      refine flow_run (fun e => .slice (some ad) k c) rfl (fun _ => rfl) (fun e wx Lx h => by (exact exec_slice (l := none) (u := some (.int .i64 (k : Nat))) rfl rfl rfl rfl (run_toW ad n c k _ (by omega) hnc))) (by intro e; rfl) (by intro e; rfl) (by intro e x; rfl) ?_
      (simp only [Act.put, List.setIfInBounds_toArray, List.set_cons_succ, List.set_cons_zero])
      refine flow_do (fun e => .slice (e 11).A (k) (e 11).n) rfl (fun _ => rfl) (by intro e; rfl) (fun e wx Lx h => by (
        have h : St M0 wx (docB g now last vs :: docS vs r :: ownR wantC 87 2 (.slice (some ⟨(e 2).n, 0, none⟩) 0 0) [] :: Lx) := h
        have hSl := (FlatP.take (j := k) wantC_len (HV.out _ (h.getA (Q := docP vs r) (by (repeat (first | with_reducible exact At.here | with_reducible apply At.there))))) (by omega)).sl.2.2.2
        obtain ⟨_, hrow⟩ := (h.front (X := ownR wantC 87 2 (.slice (some ⟨(e 2).n, 0, none⟩) 0 0) []) (by (repeat (first | with_reducible exact At.here | with_reducible apply At.there)))).ownOpen
        obtain ⟨v', w', hr, h2⟩ := St.run_app want_elem hrow _ (some ad) (k) (c) ((hs.take k).flatMap wantC) hSl (flatC_one want_one _) (by omega) (by omega)
        obtain ⟨A', c', rfl⟩ := h2.slice
        rw [Nat.zero_add] at hr h2
        have h3 := St.ownClose (C := wantC) (xs := hs.take k) h2 HKL.out
        have hk : St M0 _ (docB g now last vs :: docS vs r :: ownR wantC 87 2 (.slice A' k c') (hs.take k) :: Lx) := h3.sub (by (repeat (first | with_reducible exact Sub.refl _ | (with_reducible apply Sub.take; focus (repeat (first | with_reducible exact At.here | with_reducible apply At.there))) | with_reducible apply Sub.drop)))
        exact ⟨⟨A', c', default⟩, _, exec_append rfl rfl rfl hr, hk⟩)) ?_
      (simp only [Act.put, List.setIfInBounds_toArray, List.set_cons_succ, List.set_cons_zero])
      refine flow_run _ rfl (fun _ => rfl) (fun e wx Lx h => by (go_simp; try rfl)) (by intro e; rfl) (by intro e; rfl) (by intro e x; rfl) ?_
      (simp only [Act.put, List.setIfInBounds_toArray, List.set_cons_succ, List.set_cons_zero])
      refine flow_run _ rfl (fun _ => rfl) (fun e wx Lx h => by (go_simp; try rfl)) (by intro e; rfl) (by intro e; rfl) (by intro e x; rfl) ?_
      (simp only [Act.put, List.setIfInBounds_toArray, List.set_cons_succ, List.set_cons_zero])
      refine flow_run _ rfl (fun _ => rfl) (fun e wx Lx h => by (go_simp; try rfl)) (by intro e; rfl) (by intro e; rfl) (by intro e x; rfl) ?_
      (simp only [Act.put, List.setIfInBounds_toArray, List.set_cons_succ, List.set_cons_zero])
      refine flow_run _ rfl (fun _ => rfl) (fun e wx Lx h => by (go_simp; try rfl)) (by intro e; rfl) (by intro e; rfl) (by intro e x; rfl) ?_
      (simp only [Act.put, List.setIfInBounds_toArray, List.set_cons_succ, List.set_cons_zero])
      refine flow_run _ rfl (fun _ => rfl) (fun e wx Lx h => by (go_simp; try rfl)) (by intro e; rfl) (by intro e; rfl) (by intro e x; rfl) ?_
      (simp only [Act.put, List.setIfInBounds_toArray, List.set_cons_succ, List.set_cons_zero])
      refine flow_run _ rfl (fun _ => rfl) (fun e wx Lx h => by (have h : St M0 wx (docB g now last vs :: docS vs r :: Lx) := h; have bo : wx.cell? ⟨g, 6 + i, none⟩ = some (.slice (some ad) n c) := ((h.blkA (g := g) (t := 135) (cs := docC now last vs) (by (repeat (first | with_reducible exact At.here | with_reducible apply At.there)))).cell (6 + i)).trans HT.out; go_simp; try rfl)) (by intro e; rfl) (by intro e; rfl) (by intro e x; rfl) ?_
      (simp only [Act.put, List.setIfInBounds_toArray, List.set_cons_succ, List.set_cons_zero])
      refine flow_run _ rfl (fun _ => rfl) (fun e wx Lx h => by (go_simp; try rfl)) (by intro e; rfl) (by intro e; rfl) (by intro e x; rfl) ?_
      (simp only [Act.put, List.setIfInBounds_toArray, List.set_cons_succ, List.set_cons_zero])
      refine flow_run (fun e => .int .i64 ((k + 1 : Nat) : Int)) rfl (fun _ => rfl) (fun e wx Lx h => by (go_simp; try rfl)) (by intro e; rfl) (by intro e; rfl) (by intro e x; rfl) ?_
      (simp only [Act.put, List.setIfInBounds_toArray, List.set_cons_succ, List.set_cons_zero])
      refine flow_run (fun e => .slice (fromA (some ad) c (k + 1) 2) (n - (k + 1)) (c - (k + 1))) rfl (fun _ => rfl) (fun e wx Lx h => by (exact exec_slice (l := some (.int .i64 ((k + 1 : Nat) : Int))) (u := none) rfl rfl rfl rfl (run_fromW (some ad) n c (k + 1) _ (by omega) hnc))) (by intro e; rfl) (by intro e; rfl) (by intro e x; rfl) ?_
      (simp only [Act.put, List.setIfInBounds_toArray, List.set_cons_succ, List.set_cons_zero])
      refine flow_do (fun e => .slice (e 21).A (k + (n - (k + 1))) (e 21).n) rfl (fun _ => rfl) (by intro e; rfl) (fun e wx Lx h => by (
        have h : St M0 wx (docB g now last vs :: docS vs r :: ownR wantC 87 2 (.slice (e 11).A k (e 11).n) (hs.take k) :: Lx) := h
        have hSl := (FlatP.drop (j := k + 1) wantC_len (HV.out _ (h.getA (Q := docP vs r) (by (repeat (first | with_reducible exact At.here | with_reducible apply At.there))))) (by omega)).sl.2.2.2
        obtain ⟨_, hrow⟩ := (h.front (X := ownR wantC 87 2 (.slice (e 11).A k (e 11).n) (hs.take k)) (by (repeat (first | with_reducible exact At.here | with_reducible apply At.there)))).ownOpen
        obtain ⟨v', w', hr, h2⟩ := St.run_app want_elem hrow _ (fromA (some ad) c (k + 1) 2) (n - (k + 1)) (c - (k + 1)) ((hs.drop (k + 1)).flatMap wantC) hSl (flatC_one want_one _) (by omega) (by omega)
        obtain ⟨A', c', rfl⟩ := h2.slice
        rw [← List.flatMap_append] at h2
        have h3 := St.ownClose (C := wantC) (xs := hs.take k ++ hs.drop (k + 1)) h2 HKD.out
        have hk : St M0 _ (docB g now last vs :: docS vs r :: ownR wantC 87 2 (.slice A' (k + (n - (k + 1))) c') (hs.take k ++ hs.drop (k + 1)) :: Lx) := h3.sub (by (repeat (first | with_reducible exact Sub.refl _ | (with_reducible apply Sub.take; focus (repeat (first | with_reducible exact At.here | with_reducible apply At.there))) | with_reducible apply Sub.drop)))
        exact ⟨⟨A', c', default⟩, _, exec_append rfl rfl rfl hr, hk⟩)) ?_
      (simp only [Act.put, List.setIfInBounds_toArray, List.set_cons_succ, List.set_cons_zero])
      refine flow_run _ rfl (fun _ => rfl) (fun e wx Lx h => by (go_simp; try rfl)) (by intro e; rfl) (by intro e; rfl) (by intro e x; rfl) ?_
      (simp only [Act.put, List.setIfInBounds_toArray, List.set_cons_succ, List.set_cons_zero])
      refine flow_run _ rfl (fun _ => rfl) (fun e wx Lx h => by (go_simp; try rfl)) (by intro e; rfl) (by intro e; rfl) (by intro e x; rfl) ?_
      (simp only [Act.put, List.setIfInBounds_toArray, List.set_cons_succ, List.set_cons_zero])
      refine flow_run _ rfl (fun _ => rfl) (fun e wx Lx h => by (go_simp; try rfl)) (by intro e; rfl) (by intro e; rfl) (by intro e x; rfl) ?_
      (simp only [Act.put, List.setIfInBounds_toArray, List.set_cons_succ, List.set_cons_zero])
      refine flow_store _ _ _ (fun e => .pointer (some ⟨g, 6 + i, none⟩)) (fun e => .slice (e 21).A (k + (n - (k + 1))) (e 21).n) rfl (fun _ => rfl) rfl (fun _ => rfl) (fun _ => rfl) (fun e wx Lx h => by (
        have h : St M0 wx (docB g now last vs :: docS vs r :: ownR wantC 87 2 (.slice (e 21).A (k + (n - (k + 1))) (e 21).n) (hs.take k ++ hs.drop (k + 1)) :: Lx) := h
        have bo : wx.cell? ⟨g, 6 + i, none⟩ = some (.slice (some ad) n c) := ((h.blkA (g := g) (t := 135) (cs := docC now last vs) (by (repeat (first | with_reducible exact At.here | with_reducible apply At.there)))).cell (6 + i)).trans HT.out
        have f := (h.blkA (g := g) (t := 135) (cs := docC now last vs) (by (repeat (first | with_reducible exact At.here | with_reducible apply At.there)))).frozen
        have h1 := (h.front (X := docB g now last vs) (by (repeat (first | with_reducible exact At.here | with_reducible apply At.there)))).put_ (6 + i) (.slice (e 21).A (k + (n - (k + 1))) (e 21).n) (docC now last (upd vs i ⟨(vs i).h, ⟨(e 21).A, k + (n - (k + 1)), (e 21).n⟩⟩)) (docC_setw now last vs hi4 ⟨(e 21).A, k + (n - (k + 1)), (e 21).n⟩)
        have hk : St M0 _ (docS vs r :: ownR wantC 87 2 (.slice (e 21).A (k + (n - (k + 1))) (e 21).n) (hs.take k ++ hs.drop (k + 1)) :: docB g now last (upd vs i ⟨(vs i).h, ⟨(e 21).A, k + (n - (k + 1)), (e 21).n⟩⟩) :: Lx) := h1.sub (by (repeat (first | with_reducible exact Sub.refl _ | (with_reducible apply Sub.take; focus (repeat (first | with_reducible exact At.here | with_reducible apply At.there))) | with_reducible apply Sub.drop)))
        exact ⟨_, (by (go_simp; try rfl)), hk⟩)) ?_
      simp only [Act.put]
      refine flow_nil ?_
      intro e w1 h
      have h : St M0 w1 (docS vs r :: ownR wantC 87 2 (.slice (e 21).A (k + (n - (k + 1))) (e 21).n) (hs.take k ++ hs.drop (k + 1)) :: docB g now last (upd vs i ⟨(vs i).h, ⟨(e 21).A, k + (n - (k + 1)), (e 21).n⟩⟩) :: L) := h
      obtain ⟨A', hA'⟩ : ∃ A', (e 21).A = A' := ⟨_, rfl⟩
      obtain ⟨c', hc'⟩ : ∃ c', (e 21).n = c' := ⟨_, rfl⟩
      have h5 := (h.sub (L' := ownR wantC 87 2 (.slice (e 21).A (k + (n - (k + 1))) (e 21).n) (hs.take k ++ hs.drop (k + 1)) :: docS vs r :: docB g now last (upd vs i ⟨(vs i).h, ⟨(e 21).A, k + (n - (k + 1)), (e 21).n⟩⟩) :: L) (by (repeat (first | with_reducible exact Sub.refl _ | (with_reducible apply Sub.take; focus (repeat (first | with_reducible exact At.here | with_reducible apply At.there))) | with_reducible apply Sub.drop)))).ownKeep
      rw [hA', hc'] at h5
      obtain ⟨r2, hr2⟩ : ∃ r2, r2 = upd r i ⟨(r i).h, hs.take k ++ hs.drop (k + 1)⟩ := ⟨_, rfl⟩
      have h6 := h5.pers2 (Q := docP (upd vs i ⟨(vs i).h, ⟨A', k + (n - (k + 1)), c'⟩⟩) r2) (fun w' a b j hj => by
        by_cases e : j = i
        · subst e
          rw [hr2, updT_same, updT_same]
          exact ⟨(b j hj).1, a⟩
        · rw [hr2, updT_ne _ _ e, updT_ne _ _ e]
          exact b j hj)
      have H6 := hide h6.swap
      have HR2 := hide hr2
      clear h0 h h5 h6 hA' hc' hr2
      go_wp2_with fail
      refine (rall_st g i now last _ r2 (r i).h (hs.take k ++ hs.drop (k + 1)) _ hi4 (by rw [HR2.out, updT_same]) ⟨HOK.out.now0, HOK.out.now1⟩ ⟨HOK.out.last0, HOK.out.last1⟩ (fun x hx => ((HREG.out i hi4).h x hx).2.1) (fun x hx => ?_) H6.out).mono ?_
      · rw [← List.eraseIdx_eq_take_drop_succ, HHS.out] at hx
        exact ((HREG.out i hi4).w x (List.mem_of_mem_eraseIdx hx)).2
      rintro e w7 ⟨rfl, h11⟩
      have H7 := hide (show St M0 w7 (docR g av.1 :: L) by
        rw [E.out, give_setW, HDR.out]
        rw [HR2.out, updT_upd, ← List.eraseIdx_eq_take_drop_succ] at h11
        exact h11)
      clear h11 H6
      go_wp2_with fail
      go_ret
      exact ⟨by rw [E.out]; try rfl, H7.out⟩
  · have E := hide (HAV.out.trans (show (⟨now, last, r⟩ : TabM).cancel cl rg = (_, rightE cl rg) from if_pos hr))
    obtain ⟨z, hz⟩ : ∃ z, z = rightE cl rg := ⟨_, rfl⟩
    rw [← hz] at hr E ⊢
    have b1 := isN hr
    have H1 := hide h1
    clear h1 H hz hr
    go_wp2_with fail
    go_ret
    exact ⟨by rw [E.out]; try rfl, by rw [E.out]; exact H1.out.docCl⟩
end Go.Proofs.Ytbgknfdaaffeaaa
/- Locks, the document: Renew, Time. -/
namespace Go.Proofs.Ytbgknfdaaffeaaa
open Go.RowKit Go.Shelf

set_option maxHeartbeats 4000000 in
set_option maxRecDepth 100000 in
theorem rrenew_st {M0 : Imm} {L : List Res} (g : Nat) (T : TabM) (cl rg t : Int) (w : World) (hok : TabOk T) (h : St M0 w (docR g T :: L)) :
    Calls Try.prog 64 #[.pointer (some ⟨g, 0, none⟩), .int .i64 cl, .int .i64 rg, .int .u64 t] w fun e w' => e = .returned (.tuple #[.int .u64 (T.renew cl rg t).2.1, .int .i64 (T.renew cl rg t).2.2]) ∧ St M0 w' (docR g (T.renew cl rg t).1 :: L) := by
  obtain ⟨av, hav⟩ : ∃ av, av = T.renew cl rg t := ⟨_, rfl⟩
  rw [← hav]
  have HAV := hide hav
  have HOK := hide hok
  obtain ⟨vs, h1⟩ := h.docO
  obtain ⟨now, last, r⟩ := T
  have H := hide (show St M0 w (docB g now last vs :: docS vs r :: L) from h1)
  clear h h1 hav hok
  go_enter Try.func64, Try.ntmps64
  go_wp2_with fail
  refine (rheld_st g now last vs r cl rg t _ H.out).mono ?_
  rintro e w2 ⟨z, rfl, h2, hz⟩
  by_cases he : (⟨now, last, r⟩ : TabM).heldE cl rg t = 0
  · obtain ⟨i, k, x, hi4, rfl, rfl, hidx, hk, hc⟩ := hz he
    obtain ⟨u, hu⟩ : ∃ u, u = untilI now := ⟨_, rfl⟩
    have hren : renewH (r i).h cl u = (r i).h.set k ⟨x.c, x.m, x.t, u⟩ := by
      rcases idxL_spec (fun h : HoldM => h.c == cl) (r i).h 0 with ⟨a, _⟩ | ⟨k', x', a, hk', hp, hpre⟩
      · omega
      · have e : k = k' := by omega
        subst e
        rw [hk] at hk'
        obtain rfl : x = x' := by simpa using hk'
        exact renewH_set _ cl u k x hk hp hpre
    have E := hide (HAV.out.trans (show (⟨now, last, r⟩ : TabM).renew cl (i : Int) t = ((⟨now, last, r⟩ : TabM).setH i (renewH (r i).h cl u), u, 0) by rw [hu]; exact if_neg (by rw [he]; simp)))
    rw [he]
    clear HAV he hidx hc H hz
    obtain ⟨⟨A, n, c⟩, hvi⟩ : ∃ hv, (vs i).h = hv := ⟨_, rfl⟩
    obtain ⟨hs, hhs⟩ : ∃ hs, hs = (r i).h := ⟨_, rfl⟩
    have HT := hide (show (docC now last vs)[2 + i]? = some (.slice A n c) by refine (docC_h now last vs hi4).trans ?_; rw [hvi])
    have hfl : FlatP holdC 4 w2 (.slice A n c) hs := by
      have := (h2.get 1 rfl i hi4).1
      rw [hvi, ← hhs] at this
      exact this
    obtain ⟨hn, hnc, hcm, hsl⟩ := hfl.sl
    rw [← hhs] at hk
    obtain ⟨ad, rfl, _⟩ := hfl.at_ holdC_len hk
    have hlk : k < n := by rw [hn]; exact (List.getElem?_eq_some_iff.1 hk).1
    have i0 : (0 : Int) ≤ (i : Int) := by omega
    have i1 : (i : Int) < 4 := by omega
    have k0 : (0 : Int) ≤ (k : Int) := by omega
    have k1 : (k : Int) < (n : Int) := by omega
    have hl4 : n ≤ 4 := by rw [hn, hhs]; exact HOK.out.hl i hi4
    have HU := hide hu
    have HR := hide (show renewH (r i).h cl u = hs.set k ⟨x.c, x.m, x.t, u⟩ by rw [hhs]; exact hren)
    have HK := hide hk
    have HN := hide hn
    have hemp := hold_empty
    have h3 := h2.ownEmpty holdC 91 4
    have ch : (w2.alloc (.cells #[] 91)).cell? ⟨g, 2 + i, none⟩ = some (.slice (some ad) n c) := ((h3.blkA (g := g) (t := 135) (cs := docC now last vs) (by (repeat (first | with_reducible exact At.here | with_reducible apply At.there)))).cell (2 + i)).trans HT.out
    have HSL := hide ((hsl.non ((Fr.refl Non w2).alloc (.cells #[] 91))))
    have H3 := hide h3.ownOpen.2
    clear h2 h3 hfl hvi hhs hn hsl hk hren hu
    go_wp2_with (at_builtin; refine St.app_step hold_elem H3.out rfl _ _ rfl rfl (some ad) n c rfl (hs.flatMap holdC) HSL.out (flatC_one hold_one hs) (by omega) (by omega) ?_; intro A6 c6 w6 h7; rw [Nat.zero_add] at h7 ⊢; rw [List.flatMap_nil, List.nil_append] at h7; obtain ⟨b, rfl⟩ := own_form (h7.row 0 rfl) (by omega))
    have h8 := h7.ownClose HN.out
    have c0 : w6.cell? ⟨g, 0, none⟩ = some (.int .u64 now) := (h8.blkA (g := g) (t := 135) (cs := docC now last vs) (by (repeat (first | with_reducible exact At.here | with_reducible apply At.there)))).cell 0
    have H8 := hide h8
    clear h7 h8 H3 HSL ch hemp
    refine (runtil_st g now _ HOK.out.now0 HOK.out.now1 c0 H8.out).mono ?_
    rintro e w7 ⟨rfl, h9⟩
    rw [← HU.out]
    obtain ⟨h10, hc1, hc2⟩ := h9.ownSet holdC_len (k := k) (j := 3) (x := x) (y := ⟨x.c, x.m, x.t, u⟩) (u := .int .u64 u) HK.out (by omega) rfl
    obtain ⟨y0, hc3⟩ := Option.isSome_iff_exists.1 hc1
    rw [← HR.out] at h10
    have hB := h10.blkA (g := g) (t := 135) (cs := docC now last vs) (by (repeat (first | with_reducible exact At.here | with_reducible apply At.there)))
    have f := hB.frozen (2 + i)
    have ch := (hB.cell (2 + i)).trans HT.out
    have h11 := (h10.front (X := docB g now last vs) (by (repeat (first | with_reducible exact At.here | with_reducible apply At.there)))).put_ (2 + i) (.slice (some ⟨b, 0, none⟩) n c6) (docC now last (upd vs i ⟨⟨some ⟨b, 0, none⟩, n, c6⟩, (vs i).w⟩)) (docC_seth now last vs hi4 ⟨some ⟨b, 0, none⟩, n, c6⟩)
    have h12 := (h11.front (X := ownR holdC 91 4 (.slice (some ⟨b, 0, none⟩) n c6) (renewH (r i).h cl u)) (by (repeat (first | with_reducible exact At.here | with_reducible apply At.there)))).ownKeep
    have hk2 : (renewH (r i).h cl u)[k]? = some ⟨x.c, x.m, x.t, u⟩ := by
      rw [HR.out, List.getElem?_set_self (by rw [← HN.out]; exact hlk)]
    obtain ⟨ad2, hae, hcs⟩ := (h12.flatK At.here).at_ holdC_len hk2
    injection hae with hae
    subst hae
    rw [show (⟨b, 0, none⟩ : Addr).add (k * 4) = ⟨b, k * 4, none⟩ by (generalize k * 4 = m; simp [Addr.add]; exact Eq.symm)] at hcs
    obtain ⟨e0, e1, e2, e3⟩ := cells4F hcs
    have H13 := hide (show St M0 _ (docR g ((⟨now, last, r⟩ : TabM).setH i (renewH (r i).h cl u)) :: L) from St.docCl (now := now) (last := last) (vs := upd vs i ⟨⟨some ⟨b, 0, none⟩, n, c6⟩, (vs i).w⟩) (r := upd r i ⟨renewH (r i).h cl u, (r i).w⟩) (((h12.sub (L' := keepR holdC 4 (.slice (some ⟨b, 0, none⟩) n c6) (renewH (r i).h cl u) :: docS vs r :: docB g now last (upd vs i ⟨⟨some ⟨b, 0, none⟩, n, c6⟩, (vs i).w⟩) :: L) (by (repeat (first | with_reducible exact Sub.refl _ | (with_reducible apply Sub.take; focus (repeat (first | with_reducible exact At.here | with_reducible apply At.there))) | with_reducible apply Sub.drop)))).pers2 (Q := docP (upd vs i ⟨⟨some ⟨b, 0, none⟩, n, c6⟩, (vs i).w⟩) (upd r i ⟨renewH (r i).h cl u, (r i).w⟩)) (fun w' a b j hj => by
      by_cases e : j = i
      · subst e
        rw [updT_same, updT_same]
        exact ⟨a, (b j hj).2⟩
      · rw [updT_ne _ _ e, updT_ne _ _ e]
        exact b j hj)).swap))
    clear h9 h10 h11 h12 hcs hk2 hc1 c0 H8 hB
    go_wp2_with fail
    go_ret2
    exact ⟨by rw [E.out]; try rfl, by rw [E.out]; exact H13.out⟩
  · have E := hide (HAV.out.trans (show (⟨now, last, r⟩ : TabM).renew cl rg t = (_, 0, (⟨now, last, r⟩ : TabM).heldE cl rg t) from if_pos he))
    obtain ⟨q, hq⟩ : ∃ q, q = (⟨now, last, r⟩ : TabM).heldE cl rg t := ⟨_, rfl⟩
    rw [← hq] at he E ⊢
    have b1 := isN he
    have H2 := hide h2
    clear h2 H hq he hz
    go_wp2_with fail
    go_ret2
    exact ⟨by rw [E.out]; try rfl, by rw [E.out]; exact H2.out.docCl⟩
theorem docR_congr (g : Nat) (now last : Int) {r r' : Nat → RegM} (h : ∀ j, j < 4 → r' j = r j) : docR g ⟨now, last, r⟩ = docR g ⟨now, last, r'⟩ := by
  unfold docR docS
  congr 1
  funext vs
  show starR (docB g now last vs) (persR (docP vs r)) = starR (docB g now last vs) (persR (docP vs r'))
  have e : docP vs r = docP vs r' := by
    funext w
    unfold docP
    refine propext ⟨fun a i hi => ?_, fun a i hi => ?_⟩
    · rw [h i hi]
      exact a i hi
    · rw [← h i hi]
      exact a i hi
  rw [e]
theorem filt_mode {r : Nat → RegM} (now : Int) (k : Nat) (h : ∀ i, i < 4 → (∀ x ∈ (r i).h, modeB x.m = true) ∧ ∀ x ∈ (r i).w, modeB x.m = true) : ∀ i, i < 4 → (∀ x ∈ (filtR r now k i).h, modeB x.m = true) ∧ ∀ x ∈ (filtR r now k i).w, modeB x.m = true := by
  intro i hi
  unfold filtR
  split
  · exact ⟨fun x hx => (h i hi).1 x (List.mem_filter.1 hx).1, (h i hi).2⟩
  · exact h i hi
theorem gives_mode {T : TabM} (h : ∀ i, i < 4 → (∀ x ∈ (T.r i).h, modeB x.m = true) ∧ ∀ x ∈ (T.r i).w, modeB x.m = true) : ∀ k, ∀ i, i < 4 → (∀ x ∈ ((T.gives k).r i).h, modeB x.m = true) ∧ ∀ x ∈ ((T.gives k).r i).w, modeB x.m = true
  | 0 => h
  | k + 1 => fun i hi => by
    have ih := gives_mode h k
    show (∀ x ∈ (upd (T.gives k).r k _ i).h, _) ∧ ∀ x ∈ (upd (T.gives k).r k _ i).w, _
    unfold upd
    split
    · rename_i e
      exact giveL_mode _ _ _ _ (ih k (by omega)).1 (ih k (by omega)).2
    · exact ih i hi
theorem gives_now (T : TabM) : ∀ k, (T.gives k).now = T.now
  | 0 => rfl
  | k + 1 => gives_now T k
set_option maxHeartbeats 4000000 in
set_option maxRecDepth 100000 in
theorem rtime_st {M0 : Imm} {L : List Res} (g : Nat) (T : TabM) (now : Int) (w : World) (hok : TabOk T) (hmo : ∀ i, i < 4 → (∀ x ∈ (T.r i).h, modeB x.m = true) ∧ ∀ x ∈ (T.r i).w, modeB x.m = true) (hn1 : now ≤ 18446744073709551615) (h : St M0 w (docR g T :: L)) :
    Calls Try.prog 67 #[.pointer (some ⟨g, 0, none⟩), .int .u64 now] w fun e w' => e = .returned (.tuple #[]) ∧ St M0 w' (docR g (T.time now) :: L) := by
  obtain ⟨vs0, h2⟩ := h.docO
  have c0 : w.cell? ⟨g, 0, none⟩ = some (.int .u64 T.now) := (h2.blk 0 rfl).cell 0
  obtain ⟨tn, htn⟩ : ∃ tn, tn = T.now := ⟨_, rfl⟩
  have H2 := hide h2
  have HOK := hide hok
  have HMO := hide hmo
  have HN1 := hide hn1
  rw [← htn] at c0
  by_cases hle : now ≤ T.now
  · have E := hide (show T.time now = T from if_pos hle)
    have hle' : now ≤ tn := by rw [htn]; exact hle
    have d1 : decide (now ≤ tn) = true := decide_eq_true hle'
    clear h h2 hok hn1 htn hle hle' hmo
    go_enter Try.func67, Try.ntmps67
    go_wp2_with fail
    ((try simp only [Exit.inBlock, Exit.then]); refine bodyPost_ret (results_none rfl _ _ _) rfl ?_)
    exact ⟨rfl, by rw [E.out]; exact H2.out.docCl⟩
  · have E := hide (show T.time now = (TabM.mk now T.last (fun i => ⟨(T.r i).h.filter (fun h => !decide (h.u ≤ now)), (T.r i).w⟩)).gives 4 from if_neg hle)
    have hle' : ¬ now ≤ tn := by rw [htn]; exact hle
    have d1 : decide (now ≤ tn) = false := decide_eq_false hle'
    have HLE := hide hle
    have f0 := (h2.blk 0 rfl).frozen
    obtain ⟨la, hla⟩ : ∃ la, la = T.last := ⟨_, rfl⟩
    have h4 := h2.put_ 0 (.int .u64 now) (docC now T.last vs0) rfl
    have h5 := St.docCl h4
    rw [show (⟨now, T.last, T.r⟩ : TabM) = ⟨now, la, filtR T.r now 0⟩ by rw [hla, show filtR T.r now 0 = T.r from funext fun j => if_neg (by omega)]] at h5
    have H4 := hide h5
    have HLA := hide hla
    clear h h2 hok hn1 htn hle hle' h4 h5 hla hmo
    go_enter Try.func67, Try.ntmps67
    go_wp2_with fail
    clear H2 f0 c0 d1
    go_loopg [4] 4 (fun gh iv wr => ∃ (k : Nat), gh = 4 - k ∧ k ≤ 4 ∧ iv = .int .i64 (k : Nat) ∧ St M0 wr (docR g ⟨now, la, filtR T.r now k⟩ :: L))
    case atStart => exact ⟨0, rfl, by omega, rfl, H4.out⟩
    case round =>
      clear H4
      obtain ⟨k, hg, hk, rfl, h⟩ := hrel
      have HG := hide hg
      clear hg
      by_cases hk4 : k < 4
      · obtain ⟨r1, hr1⟩ : ∃ r1, r1 = filtR T.r now k := ⟨_, rfl⟩
        rw [← hr1] at h
        have HT1 := hide hr1
        obtain ⟨vs, h1⟩ := h.docO
        have h1 : St M0 wr (docB g now la vs :: docS vs r1 :: L) := h1
        obtain ⟨⟨A, n, c⟩, hvi⟩ : ∃ hv, (vs k).h = hv := ⟨_, rfl⟩
        obtain ⟨hs, hhs⟩ : ∃ hs, hs = (r1 k).h := ⟨_, rfl⟩
        have HT := hide (show (docC now la vs)[2 + k]? = some (.slice A n c) by refine (docC_h now la vs hk4).trans ?_; rw [hvi])
        have HV := hide (show ∀ W, docP vs r1 W → FlatP holdC 4 W (.slice A n c) hs from fun W hW => by
          have := (hW k hk4).1
          rw [hvi, ← hhs] at this
          exact this)
        have hl4 : hs.length ≤ 4 := by
          rw [hhs, hr1, show filtR T.r now k k = T.r k from if_neg (by omega)]
          exact HOK.out.hl k hk4
        obtain ⟨hn, hnc, hcm, _⟩ := (HV.out _ (h1.get 1 rfl)).sl
        have HN := hide hn
        have HHS := hide hhs
        have HL4 := hide hl4
        have i0 : (0 : Int) ≤ (k : Int) := by omega
        have i1 : (k : Int) < 4 := by omega
        have H1 := hide (h1.ownNil holdC 91 4)
        clear h h1 hvi hhs hn hr1 hl4
        go_wp2_with fail
        go_loopg [5, 6] n (fun gh lv iv wr => ∃ (j q : Nat) (B : Option Addr) (d : Nat), gh = n - j ∧ j ≤ n ∧ lv = .slice B q d ∧ iv = .int .i64 (j : Nat) ∧ q = ((hs.take j).filter (fun h => !decide (h.u ≤ now))).length ∧ St M0 wr (ownR holdC 91 4 (.slice B q d) ((hs.take j).filter (fun h => !decide (h.u ≤ now))) :: docB g now la vs :: docS vs r1 :: L))
        case atStart => exact ⟨0, 0, none, 0, rfl, by omega, rfl, rfl, rfl, H1.out⟩
        case round =>
          clear H1
          obtain ⟨j, q, B, d, hgj, hj, rfl, rfl, hq, h⟩ := hrel
          have HGJ := hide hgj
          have HQ := hide hq
          clear hgj
          have hB := h.blkA (g := g) (t := 135) (cs := docC now la vs) (by (repeat (first | with_reducible exact At.here | with_reducible apply At.there)))
          have ch : wr.cell? ⟨g, 2 + k, none⟩ = some (.slice A n c) := (hB.cell (2 + k)).trans HT.out
          by_cases hlt : j < n
          · have hx := List.getElem?_eq_getElem (l := hs) (i := j) (by rw [← HN.out]; exact hlt)
            generalize hs[j]'(by rw [← HN.out]; exact hlt) = x at hx
            obtain ⟨ad, rfl, hcs⟩ := (HV.out _ (h.get 2 rfl)).at_ holdC_len hx
            obtain ⟨e0, e1, e2, e3⟩ := cells4F hcs
            have j0 : (0 : Int) ≤ (j : Int) := by omega
            have j1 : (j : Int) < (n : Int) := by omega
            have hq4 : q ≤ 4 := by
              have h1 := List.length_filter_le (fun h : HoldM => !decide (h.u ≤ now)) (hs.take j)
              have := HL4.out
              rw [List.length_take] at h1
              omega
            have htk : hs.take (j + 1) = hs.take j ++ [x] := by rw [List.take_add_one, hx]; rfl
            by_cases hu : x.u ≤ now
            · have d1 : decide (x.u > now) = false := decide_eq_false (by omega)
              have d1' : decide (now < x.u) = false := d1
              have HF := hide (show (hs.take (j + 1)).filter (fun h => !decide (h.u ≤ now)) = (hs.take j).filter (fun h => !decide (h.u ≤ now)) by
                rw [htk, List.filter_append, List.filter_cons_of_neg (by simp [hu])]
                simp)
              have H2 := hide h
              clear h hx hcs hu hB hq htk
              go_wp2_with fail
              go_roundg (n - (j + 1))
              case measure => have := HGJ.out; omega
              case rel => exact ⟨j + 1, q, B, d, rfl, by omega, rfl, by go_num, by rw [HF.out]; exact HQ.out, by rw [HF.out]; exact H2.out⟩
            · have d1 : decide (x.u > now) = true := decide_eq_true (by omega)
              have d1' : decide (now < x.u) = true := d1
              have HF := hide (show (hs.take (j + 1)).filter (fun h => !decide (h.u ≤ now)) = (hs.take j).filter (fun h => !decide (h.u ≤ now)) ++ [x] by
                rw [htk, List.filter_append, List.filter_cons_of_pos (by simp [hu])]
                simp)
              have h2 := h.alloc 91 #[.int .i64 x.c, .int .i64 x.m, .int .u64 x.t, .int .u64 x.u]
              have HB := hide (h2.blk 0 rfl)
              have H3 := hide ((h2.front (X := ownR holdC 91 4 (.slice B q d) ((hs.take j).filter (fun h => !decide (h.u ≤ now)))) (by (repeat (first | with_reducible exact At.here | with_reducible apply At.there)))).ownOpen.2)
              have hbld := hold_build
              clear h h2 hx hcs hu hB hq htk
              go_wp2_with (at_builtin; refine St.app_step hold_elem H3.out rfl _ _ rfl rfl (some ⟨wr.heap.size, 0, none⟩) 1 1 rfl [.int .i64 x.c, .int .i64 x.m, .int .u64 x.t, .int .u64 x.u] (sl_blkT (cs := [.int .i64 x.c, .int .i64 x.m, .int .u64 x.t, .int .u64 x.u]) HB.out) (hold_one x) (by omega) (by omega) ?_; intro A6 c6 w6 h7)
              have H8 := hide (St.ownSnoc (C := holdC) (x := x) h7 HQ.out)
              clear h7 H3 HB hbld
              go_roundg (n - (j + 1))
              case measure => have := HGJ.out; omega
              case rel => exact ⟨j + 1, q + 1, A6, c6, rfl, by omega, rfl, by go_num, by rw [HF.out, List.length_append, ← HQ.out]; rfl, by rw [HF.out]; exact H8.out.sub (by (repeat (first | with_reducible exact Sub.refl _ | (with_reducible apply Sub.take; focus (repeat (first | with_reducible exact At.here | with_reducible apply At.there))) | with_reducible apply Sub.drop)))⟩
          · obtain rfl : n = j := by omega
            have f0 := hB.frozen
            have h2 := (h.front (X := docB g now la vs) (by (repeat (first | with_reducible exact At.here | with_reducible apply At.there)))).put_ (2 + k) (.slice B q d) (docC now la (upd vs k ⟨⟨B, q, d⟩, (vs k).w⟩)) (docC_seth now la vs hk4 ⟨B, q, d⟩)
            rw [List.take_of_length_le (by rw [← HN.out]; exact Nat.le_refl _)] at h2
            have h3 := (h2.front (X := ownR holdC 91 4 (.slice B q d) (hs.filter (fun h => !decide (h.u ≤ now)))) (by (repeat (first | with_reducible exact At.here | with_reducible apply At.there)))).ownKeep
            have h4 := ((h3.sub (L' := keepR holdC 4 (.slice B q d) (hs.filter (fun h => !decide (h.u ≤ now))) :: docS vs r1 :: docB g now la (upd vs k ⟨⟨B, q, d⟩, (vs k).w⟩) :: L) (by (repeat (first | with_reducible exact Sub.refl _ | (with_reducible apply Sub.take; focus (repeat (first | with_reducible exact At.here | with_reducible apply At.there))) | with_reducible apply Sub.drop)))).pers2 (Q := docP (upd vs k ⟨⟨B, q, d⟩, (vs k).w⟩) (upd r1 k ⟨hs.filter (fun h => !decide (h.u ≤ now)), (r1 k).w⟩)) (fun w' a b j hj => by
              by_cases e : j = k
              · subst e
                rw [updT_same, updT_same]
                exact ⟨a, (b j hj).2⟩
              · rw [updT_ne _ _ e, updT_ne _ _ e]
                exact b j hj)).swap
            have h5 := h4.docCl
            rw [HHS.out, filt_step T.r now k HT1.out] at h5
            have H5 := hide h5
            clear h h2 h3 h4 h5 hB hq
            go_wp2_with fail
            go_roundg (4 - (k + 1))
            case measure => have := HG.out; omega
            case rel => exact ⟨k + 1, rfl, by omega, by go_num, H5.out⟩
      · obtain rfl : k = 4 := by omega
        rw [show docR g ⟨now, la, filtR T.r now 4⟩ = docR g ((TabM.mk now T.last (fun i => ⟨(T.r i).h.filter (fun h => !decide (h.u ≤ now)), (T.r i).w⟩)).gives 0) by
          rw [HLA.out]
          exact docR_congr g now T.last (fun j hj => (if_pos hj).symm)] at h
        obtain ⟨T1, hT1⟩ : ∃ T1, T1 = TabM.mk now T.last (fun i => ⟨(T.r i).h.filter (fun h => !decide (h.u ≤ now)), (T.r i).w⟩) := ⟨_, rfl⟩
        rw [← hT1] at h
        have E2 := hide (E.out.trans (by rw [← hT1]))
        have HM1 := hide (show ∀ i, i < 4 → (∀ x ∈ (T1.r i).h, modeB x.m = true) ∧ ∀ x ∈ (T1.r i).w, modeB x.m = true from fun i hi => by
          rw [hT1]
          exact ⟨fun x hx => (HMO.out i hi).1 x (List.mem_filter.1 hx).1, (HMO.out i hi).2⟩)
        have HO1 := hide (show TabOk T1 by
          rw [hT1]
          have h0 := HOK.out.now0
          have := HLE.out
          exact ⟨by show 0 ≤ now; omega, HN1.out, HOK.out.last0, HOK.out.last1, fun j hj => Nat.le_trans (List.length_filter_le _ _) (HOK.out.hl j hj), fun j hj => HOK.out.wl j hj⟩)
        have H5 := hide h
        clear h hT1 hk4
        go_wp2_with fail
        go_loopg [7] 4 (fun gh iv wr => ∃ (k : Nat), gh = 4 - k ∧ k ≤ 4 ∧ iv = .int .i64 (k : Nat) ∧ St M0 wr (docR g (T1.gives k) :: L))
        case atStart => exact ⟨0, rfl, by omega, rfl, H5.out⟩
        case round =>
          clear H5
          obtain ⟨k, hg2, hk, rfl, h⟩ := hrel
          have HG2 := hide hg2
          clear hg2
          by_cases hk4 : k < 4
          · have i0 : (0 : Int) ≤ (k : Int) := by omega
            have i1 : (k : Int) < 4 := by omega
            obtain ⟨vs, h1⟩ := h.docO
            have H1 := hide h1
            clear h h1
            go_wp2_with fail
            have ok := HO1.out.gives k (by omega)
            refine (rall_st g k (T1.gives k).now (T1.gives k).last vs (T1.gives k).r _ _ _ hk4 rfl ⟨ok.now0, ok.now1⟩ ⟨ok.last0, ok.last1⟩ (gives_mode HM1.out k k hk4).1 (gives_mode HM1.out k k hk4).2 H1.out).mono ?_
            rintro e w3 ⟨rfl, h2⟩
            have H2 := hide (show St M0 w3 (docR g (T1.gives (k + 1)) :: L) from h2)
            clear h2 H1 ok
            go_wp2_with fail
            go_roundg (4 - (k + 1))
            case measure => have := HG2.out; omega
            case rel => exact ⟨k + 1, rfl, by omega, by go_num, H2.out⟩
          · obtain rfl : k = 4 := by omega
            have H1 := hide h
            clear h
            go_wp2_with fail
            go_end0
            exact ⟨rfl, by rw [E2.out]; exact H1.out⟩
end Go.Proofs.Ytbgknfdaaffeaaa
/- Locks, the document: Pack. Printed by gen_lkxc.py. -/
namespace Go.Proofs.Ytbgknfdaaffeaaa
open Go.RowKit Go.Shelf

theorem numI1L {n : Int} (h0 : 0 ≤ n) (h1 : n ≤ 255) : numI n 1 = [n] := by
  have e : numI n 1 = numB n 1 := if_neg (by omega)
  rw [e, numB_succ, numB_zero]
  have : n / 256 ^ 0 % 256 = n := by simp; omega
  rw [this]
  rfl
theorem numI8_len (n : Int) : (numI n 8).length = 8 := by unfold numI; rw [if_neg (by omega), numB_length]; rfl
theorem u8_build1 (w : World) (a : Int) : (Instr.buildSlice 48 1 #[(0, .int .u8 a)]).run Try.prog w = .ok (.slice (some ⟨w.heap.size, 0, none⟩) 1 1) (w.alloc (.cells #[.int .u8 a] 5)) := by kernel_rfl
theorem u8_build2 (w : World) (a b : Int) : (Instr.buildSlice 48 2 #[(0, .int .u8 a), (1, .int .u8 b)]).run Try.prog w = .ok (.slice (some ⟨w.heap.size, 0, none⟩) 2 2) (w.alloc (.cells #[.int .u8 a, .int .u8 b] 5)) := by kernel_rfl
theorem seq_buildSlice2 {P : Program} {l : List Oper} {Q : Exit → Act → World → Prop} {S : World → Prop} {L : Nat} {i : Nat} {r : List Nat} {a : Act} {w w' : World} {o : Oper} {v : Value} (ho : l[i]? = some o) (hg : o.guard = none) (t : TypeId) (len k1 k2 : Nat) (x1 x2 : Operand) (u1 u2 : Value) (hop : o.op = .buildSlice t len #[(k1, x1), (k2, x2)]) (hx1 : a.eval x1 = u1) (hx2 : a.eval x2 = u2)
    (hrun : (Instr.buildSlice t len #[(k1, u1), (k2, u2)]).run P w = .ok v w') (hS : i < L → S w') (h : wpSeq P l.toArray Q S L r (a.put o.dst v) w') : wpSeq P l.toArray Q S L (i :: r) a w :=
  seq_run ho hg (by unfold execOp; simp only [hop, hx1, hx2, List.map_toArray, List.map_cons, List.map_nil, Sem.run_bind, Sem.run_pure, Result.andThen_ok, hrun]) hS h
theorem holdB_pk {x : HoldM} (h : (0 ≤ x.c ∧ x.c ≤ 255) ∧ (0 ≤ x.m ∧ x.m ≤ 255) ∧ (0 ≤ x.t ∧ x.t ≤ 18446744073709551615) ∧ (0 ≤ x.u ∧ x.u ≤ 18446744073709551615)) : holdB x = [x.c, x.m] ++ numI x.t 8 ++ numI x.u 8 := by
  unfold holdB
  rw [numI1L h.1.1 h.1.2, numI1L h.2.1.1 h.2.1.2]
  rfl
theorem wantB_pk {x : WantM} (h : (0 ≤ x.c ∧ x.c ≤ 255) ∧ (0 ≤ x.m ∧ x.m ≤ 255)) : wantB x = [x.c, x.m] := by
  unfold wantB
  rw [numI1L h.1.1 h.1.2, numI1L h.2.1 h.2.2]
  rfl
set_option maxHeartbeats 8000000 in
set_option maxRecDepth 100000 in
theorem rpackL_st {M0 : Imm} {L : List Res} (g : Nat) (T : TabM) (w : World) (hok : TabOk T) (hpk : PackOk T) (h : St M0 w (docR g T :: L)) :
    Calls Try.prog 68 #[.pointer (some ⟨g, 0, none⟩)] w fun e w' => ∃ v, e = .returned v ∧ St M0 w' (rowR 5 1 v (packT T).length (bv (packT T)) :: docR g T :: L) := by
  obtain ⟨vs, h1⟩ := h.docO
  obtain ⟨now, last, r⟩ := T
  have h1 : St M0 w (docB g now last vs :: docS vs r :: L) := h1
  have c0 : w.cell? ⟨g, 0, none⟩ = some (.int .u64 now) := (h1.blk 0 rfl).cell 0
  have n1 := hok.now1
  have l1 := hok.last1
  have H := hide h1
  have HOK := hide hok
  have HPK := hide hpk
  clear h h1 hok hpk
  go_enter Try.func68, Try.ntmps68
  go_wp2_with fail
  refine (rnum_st now 8 _ HOK.out.now0 (show now < _ from by have : now ≤ 18446744073709551615 := n1; omega) H.out).mono ?_
  rintro e w1 ⟨v1, rfl, h⟩
  obtain ⟨A1, c1, rfl⟩ := h.slice
  rw [numI8_len] at h ⊢
  have cl : w1.cell? ⟨g, 1, none⟩ = some (.int .u64 last) := (h.blk 1 rfl).cell 1
  have H1 := hide h
  clear h H c0
  go_wp2_with fail
  refine (rnum_st last 8 _ HOK.out.last0 (show last < _ from by have : last ≤ 18446744073709551615 := l1; omega) H1.out).mono ?_
  rintro e w2 ⟨v2, rfl, h⟩
  obtain ⟨A2, c2, rfl⟩ := h.slice
  rw [numI8_len] at h ⊢
  have HS2 := hide ((h.ints.get 0 rfl).sl.2.2.2)
  have H2 := hide (h.front (X := rowR 5 1 (.slice A1 8 c1) 8 (bv (numI now 8))) (by (repeat (first | with_reducible exact At.here | with_reducible apply At.there))))
  clear h H1 cl
  go_wp2_with (at_builtin; refine St.app_step u8_row H2.out rfl _ _ rfl rfl A2 8 c2 rfl (bv (numI last 8)) HS2.out (bv_one _) (by omega) (by omega) ?_; intro A3 c3 w3 h4)
  obtain ⟨P0, hP0⟩ : ∃ P0, P0 = numI now 8 ++ numI last 8 := ⟨_, rfl⟩
  rw [← bv_append, ← hP0] at h4
  have HP0 := hide hP0
  have H4 := hide (h4.sub (L' := rowR 5 1 (.slice A3 (8 + 8) c3) (8 + 8) (bv P0) :: docB g now last vs :: docS vs r :: L) (by (repeat (first | with_reducible exact Sub.refl _ | (with_reducible apply Sub.take; focus (repeat (first | with_reducible exact At.here | with_reducible apply At.there))) | with_reducible apply Sub.drop))))
  clear h4 H2 HS2 hP0 n1 l1
  go_wp2_with fail
  go_loopg [3, 4] 4 (fun gh bw iv wr => ∃ (k : Nat) (A : Option Addr) (q c : Nat), gh = 4 - k ∧ k ≤ 4 ∧ bw = .slice A q c ∧ iv = .int .i64 (k : Nat) ∧ q ≤ 16 + 1000 * k ∧ St M0 wr (rowR 5 1 (.slice A q c) q (bv (P0 ++ lpackTo r k)) :: docB g now last vs :: docS vs r :: L))
  case atStart => exact ⟨0, A3, 16, c3, rfl, by omega, rfl, rfl, by omega, by simpa [lpackTo] using H4.out⟩
  case round =>
    clear H4
    obtain ⟨k, A, q, c, hg, hk, rfl, rfl, hq, h⟩ := hrel
    have HG := hide hg
    clear hg
    by_cases hk4 : k < 4
    · have i0 : (0 : Int) ≤ (k : Int) := by omega
      have i1 : (k : Int) < 4 := by omega
      obtain ⟨⟨B, n, d⟩, ⟨Cw, m, dw⟩, hvi⟩ : ∃ hv wv, vs k = ⟨hv, wv⟩ := ⟨_, _, rfl⟩
      have HTH := hide (show (docC now last vs)[2 + k]? = some (.slice B n d) by refine (docC_h now last vs hk4).trans ?_; rw [hvi])
      have HTW := hide (show (docC now last vs)[6 + k]? = some (.slice Cw m dw) by refine (docC_w now last vs hk4).trans ?_; rw [hvi])
      obtain ⟨hs, hhs⟩ : ∃ hs, hs = (r k).h := ⟨_, rfl⟩
      obtain ⟨ws, hws⟩ : ∃ ws, ws = (r k).w := ⟨_, rfl⟩
      have HV := hide (show ∀ W, docP vs r W → FlatP holdC 4 W (.slice B n d) hs ∧ FlatP wantC 2 W (.slice Cw m dw) ws from fun W hW => by
        have := hW k hk4
        rw [hvi, ← hhs, ← hws] at this
        exact this)
      have hfl := HV.out _ (h.get 2 rfl)
      obtain ⟨hn, hnd, hdm, _⟩ := hfl.1.sl
      obtain ⟨hm, hmd, hdwm, _⟩ := hfl.2.sl
      have hn4 : n ≤ 4 := by rw [hn, hhs]; exact HOK.out.hl k hk4
      have hm4 : m ≤ 4 := by rw [hm, hws]; exact HOK.out.wl k hk4
      have wn : IntKind.u8.wrap (n : Int) = (n : Int) := IntWalk.u8_in _ (by omega)
      have wm : IntKind.u8.wrap (m : Int) = (m : Int) := IntWalk.u8_in _ (by omega)
      have HN := hide hn
      have HM := hide hm
      have HHS := hide hhs
      have HWS := hide hws
      have HPH := hide (show ∀ x ∈ hs, _ from fun x hx => HPK.out.h k hk4 x (by rw [← hhs]; exact hx))
      have HPW := hide (show ∀ x ∈ ws, _ from fun x hx => HPK.out.w k hk4 x (by rw [← hws]; exact hx))
      have ch : wr.cell? ⟨g, 2 + k, none⟩ = some (.slice B n d) := ((h.blk 1 rfl).cell (2 + k)).trans HTH.out
      have hbld := u8_build1
      have h2 := h.alloc 5 #[.int .u8 (n : Int)]
      have HB := hide (h2.blk 0 rfl)
      have H1 := hide (h2.front (X := rowR 5 1 (.slice A q c) q (bv (P0 ++ lpackTo r k))) (by (repeat (first | with_reducible exact At.here | with_reducible apply At.there))))
      clear h h2 hvi hhs hws hfl hn hm
      go_wp2_with (at_builtin; refine St.app_step u8_row H1.out rfl _ _ rfl rfl (some ⟨wr.heap.size, 0, none⟩) 1 1 rfl (bv [(n : Int)]) (sl_blk (xs := bv [(n : Int)]) HB.out) (bv_one _) (by omega) (by omega) ?_; intro A4 c4 w4 h5)
      obtain ⟨Y, hY⟩ : ∃ Y, Y = P0 ++ lpackTo r k ++ [(n : Int)] := ⟨_, rfl⟩
      rw [← bv_append, ← hY] at h5
      have HY := hide hY
      have H5 := hide (h5.sub (L' := rowR 5 1 (.slice A4 (q + 1) c4) (q + 1) (bv Y) :: docB g now last vs :: docS vs r :: L) (by (repeat (first | with_reducible exact Sub.refl _ | (with_reducible apply Sub.take; focus (repeat (first | with_reducible exact At.here | with_reducible apply At.there))) | with_reducible apply Sub.drop))))
      clear h5 H1 HB hY ch
      go_loopg [3, 5] n (fun gh bw iv wr => ∃ (j : Nat) (A : Option Addr) (p c : Nat), gh = n - j ∧ j ≤ n ∧ bw = .slice A p c ∧ iv = .int .i64 (j : Nat) ∧ p ≤ q + 1 + 18 * j ∧ St M0 wr (rowR 5 1 (.slice A p c) p (bv (Y ++ (hs.take j).flatMap holdB)) :: docB g now last vs :: docS vs r :: L))
      case atStart => exact ⟨0, A4, q + 1, c4, rfl, by omega, rfl, rfl, by omega, by simpa using H5.out⟩
      case round =>
        clear H5
        obtain ⟨j, A, p, c, hgj, hj, rfl, rfl, hp, h⟩ := hrel
        have HGJ := hide hgj
        clear hgj
        have ch : wr.cell? ⟨g, 2 + k, none⟩ = some (.slice B n d) := ((h.blk 1 rfl).cell (2 + k)).trans HTH.out
        by_cases hlt : j < n
        · have hx := List.getElem?_eq_getElem (l := hs) (i := j) (by rw [← HN.out]; exact hlt)
          generalize hs[j]'(by rw [← HN.out]; exact hlt) = x at hx
          have hpx := HPH.out x (List.mem_of_getElem? hx)
          obtain ⟨ad, rfl, hcs⟩ := (HV.out _ (h.get 2 rfl)).1.at_ holdC_len hx
          obtain ⟨e0, e1, e2, e3⟩ := cells4F hcs
          have j0 : (0 : Int) ≤ (j : Int) := by omega
          have j1 : (j : Int) < (n : Int) := by omega
          have wc : IntKind.u8.wrap x.c = x.c := IntWalk.u8_in _ (by have := hpx.1; omega)
          have wmm : IntKind.u8.wrap x.m = x.m := IntWalk.u8_in _ (by have := hpx.2.1; omega)
          have htk : hs.take (j + 1) = hs.take j ++ [x] := by rw [List.take_add_one, hx]; rfl
          obtain ⟨X, hX⟩ : ∃ X, X = Y ++ (hs.take j).flatMap holdB := ⟨_, rfl⟩
          rw [← hX] at h
          have HF := hide (show Y ++ (hs.take (j + 1)).flatMap holdB = X ++ [x.c, x.m] ++ numI x.t 8 ++ numI x.u 8 by
            rw [htk, List.flatMap_append, ← List.append_assoc, ← hX, List.flatMap_cons, List.flatMap_nil, List.append_nil, holdB_pk hpx]
            simp only [List.append_assoc])
          have HPX := hide hpx
          have h2 := h.alloc 91 #[.int .i64 x.c, .int .i64 x.m, .int .u64 x.t, .int .u64 x.u]
          generalize hy : wr.heap.size = y at h2
          have HYY := hide hy
          have x0 : (wr.alloc (.cells #[.int .i64 x.c, .int .i64 x.m, .int .u64 x.t, .int .u64 x.u] 91)).cell? ⟨wr.heap.size, 0, none⟩ = some (.int .i64 x.c) := by rw [hy]; exact (h2.blk 0 rfl).cell 0
          have x1 : (wr.alloc (.cells #[.int .i64 x.c, .int .i64 x.m, .int .u64 x.t, .int .u64 x.u] 91)).cell? ⟨wr.heap.size, 1, none⟩ = some (.int .i64 x.m) := by rw [hy]; exact (h2.blk 0 rfl).cell 1
          have hbld2 := u8_build2
          have h3 := h2.alloc 5 #[.int .u8 x.c, .int .u8 x.m]
          rw [World.size_alloc] at h3
          have HB := hide (h3.blk 0 rfl)
          have H3 := hide (h3.sub (L' := rowR 5 1 (.slice A p c) p (bv X) :: blkR y 91 #[.int .i64 x.c, .int .i64 x.m, .int .u64 x.t, .int .u64 x.u] :: docB g now last vs :: docS vs r :: L) (by (repeat (first | with_reducible exact Sub.refl _ | (with_reducible apply Sub.take; focus (repeat (first | with_reducible exact At.here | with_reducible apply At.there))) | with_reducible apply Sub.drop))))
          clear h h2 h3 hx hcs htk hX hpx hy
          go_wp2_with (at_builtin; refine St.app_step u8_row H3.out rfl _ _ rfl rfl _ 2 2 rfl (bv [x.c, x.m]) (sl_blk (xs := bv [x.c, x.m]) HB.out) (bv_one _) (by omega) (by omega) ?_; intro A5 c5 w5 h6; have z2 : w5.cell? ⟨wr.heap.size, 2, none⟩ = some (.int .u64 x.t) := by rw [HYY.out]; exact (h6.blk 1 rfl).cell 2)
          rw [← bv_append] at h6
          have H6 := hide h6
          clear h6 H3 HB x0 x1
          refine (rnum_st x.t 8 _ HPX.out.2.2.1.1 (by have := HPX.out.2.2.1.2; omega) H6.out).mono ?_
          rintro e w6 ⟨v6, rfl, h⟩
          clear z2
          obtain ⟨A6, c6, rfl⟩ := h.slice
          rw [numI8_len] at h ⊢
          have HS2 := hide ((h.ints.get 0 rfl).sl.2.2.2)
          have H7 := hide (h.front (X := rowR 5 1 (.slice A5 (p + 2) c5) (p + 2) (bv (X ++ [x.c, x.m]))) (by (repeat (first | with_reducible exact At.here | with_reducible apply At.there))))
          clear h H6
          go_wp2_with (at_builtin; refine St.app_step u8_row H7.out rfl _ _ rfl rfl A6 8 c6 rfl (bv (numI x.t 8)) HS2.out (bv_one _) (by omega) (by omega) ?_; intro A7 c7 w7 h8; have z3 : w7.cell? ⟨wr.heap.size, 3, none⟩ = some (.int .u64 x.u) := by rw [HYY.out]; exact (h8.blkA (g := y) (t := 91) (cs := #[.int .i64 x.c, .int .i64 x.m, .int .u64 x.t, .int .u64 x.u]) (by (repeat (first | with_reducible exact At.here | with_reducible apply At.there)))).cell 3)
          rw [← bv_append] at h8
          have H8 := hide (h8.sub (L' := rowR 5 1 (.slice A7 (p + 2 + 8) c7) (p + 2 + 8) (bv (X ++ [x.c, x.m] ++ numI x.t 8)) :: docB g now last vs :: docS vs r :: L) (by (repeat (first | with_reducible exact Sub.refl _ | (with_reducible apply Sub.take; focus (repeat (first | with_reducible exact At.here | with_reducible apply At.there))) | with_reducible apply Sub.drop))))
          clear h8 H7 HS2
          refine (rnum_st x.u 8 _ HPX.out.2.2.2.1 (by have := HPX.out.2.2.2.2; omega) H8.out).mono ?_
          rintro e w8 ⟨v8, rfl, h⟩
          clear z3
          obtain ⟨A8, c8, rfl⟩ := h.slice
          rw [numI8_len] at h ⊢
          have HS2 := hide ((h.ints.get 0 rfl).sl.2.2.2)
          have H9 := hide (h.front (X := rowR 5 1 (.slice A7 (p + 2 + 8) c7) (p + 2 + 8) (bv (X ++ [x.c, x.m] ++ numI x.t 8))) (by (repeat (first | with_reducible exact At.here | with_reducible apply At.there))))
          clear h H8
          go_wp2_with (at_builtin; refine St.app_step u8_row H9.out rfl _ _ rfl rfl A8 8 c8 rfl (bv (numI x.u 8)) HS2.out (bv_one _) (by omega) (by omega) ?_; intro A9 c9 w9 h10)
          rw [← bv_append] at h10
          have H10 := hide (h10.sub (L' := rowR 5 1 (.slice A9 (p + 2 + 8 + 8) c9) (p + 2 + 8 + 8) (bv (X ++ [x.c, x.m] ++ numI x.t 8 ++ numI x.u 8)) :: docB g now last vs :: docS vs r :: L) (by (repeat (first | with_reducible exact Sub.refl _ | (with_reducible apply Sub.take; focus (repeat (first | with_reducible exact At.here | with_reducible apply At.there))) | with_reducible apply Sub.drop))))
          clear h10 H9 HS2
          go_roundg (n - (j + 1))
          case measure => have := HGJ.out; omega
          case rel => exact ⟨j + 1, A9, p + 18, c9, rfl, by omega, rfl, by go_num, by omega, by rw [HF.out]; exact H10.out⟩
        · obtain rfl : n = j := by omega
          obtain ⟨Y2, hY2⟩ : ∃ Y2, Y2 = Y ++ hs.flatMap holdB ++ [(m : Int)] := ⟨_, rfl⟩
          rw [List.take_of_length_le (by rw [← HN.out]; exact Nat.le_refl _)] at h
          have cw : wr.cell? ⟨g, 6 + k, none⟩ = some (.slice Cw m dw) := ((h.blk 1 rfl).cell (6 + k)).trans HTW.out
          have hbld := u8_build1
          have h2 := h.alloc 5 #[.int .u8 (m : Int)]
          have HB := hide (h2.blk 0 rfl)
          have H1 := hide (h2.front (X := rowR 5 1 (.slice A p c) p (bv (Y ++ hs.flatMap holdB))) (by (repeat (first | with_reducible exact At.here | with_reducible apply At.there))))
          clear h h2
          go_wp2_with (at_builtin; refine St.app_step u8_row H1.out rfl _ _ rfl rfl (some ⟨wr.heap.size, 0, none⟩) 1 1 rfl (bv [(m : Int)]) (sl_blk (xs := bv [(m : Int)]) HB.out) (bv_one _) (by omega) (by omega) ?_; intro A4 c4 w4 h5)
          rw [← bv_append, ← hY2] at h5
          have HY2 := hide hY2
          have H5 := hide (h5.sub (L' := rowR 5 1 (.slice A4 (p + 1) c4) (p + 1) (bv Y2) :: docB g now last vs :: docS vs r :: L) (by (repeat (first | with_reducible exact Sub.refl _ | (with_reducible apply Sub.take; focus (repeat (first | with_reducible exact At.here | with_reducible apply At.there))) | with_reducible apply Sub.drop))))
          clear h5 H1 HB hY2 ch cw
          have hp2 : p + 1 ≤ 200 + q := by omega
          obtain ⟨q2, hq2⟩ : ∃ q2, q2 = p + 1 := ⟨_, rfl⟩
          rw [← hq2] at H5 hp2 ⊢
          clear hq2 hp
          go_loopg [3, 7] m (fun gh bw iv wr => ∃ (j : Nat) (A : Option Addr) (p c : Nat), gh = m - j ∧ j ≤ m ∧ bw = .slice A p c ∧ iv = .int .i64 (j : Nat) ∧ p ≤ q2 + 2 * j ∧ St M0 wr (rowR 5 1 (.slice A p c) p (bv (Y2 ++ (ws.take j).flatMap wantB)) :: docB g now last vs :: docS vs r :: L))
          case atStart => exact ⟨0, A4, q2, c4, rfl, by omega, rfl, rfl, by omega, by simpa using H5.out⟩
          case round =>
            clear H5
            obtain ⟨j, A, p, c, hgj2, hj2, rfl, rfl, hp, h⟩ := hrel
            have HGJ := hide hgj2
            clear hgj2
            have cw : wr.cell? ⟨g, 6 + k, none⟩ = some (.slice Cw m dw) := ((h.blk 1 rfl).cell (6 + k)).trans HTW.out
            by_cases hlt : j < m
            · have hx := List.getElem?_eq_getElem (l := ws) (i := j) (by rw [← HM.out]; exact hlt)
              generalize ws[j]'(by rw [← HM.out]; exact hlt) = x at hx
              have hpx := HPW.out x (List.mem_of_getElem? hx)
              obtain ⟨ad, rfl, _⟩ := (HV.out _ (h.get 2 rfl)).2.at_ wantC_len hx
              have HVW := hide (show ∀ W, docP vs r W → FlatP wantC 2 W (.slice (some ad) m dw) ws from fun W hW => (HV.out W hW).2)
              have HXJ := hide hx
              have j0 : (0 : Int) ≤ (j : Int) := by omega
              have j1 : (j : Int) < (m : Int) := by omega
              have wc : IntKind.u8.wrap x.c = x.c := IntWalk.u8_in _ (by have := hpx.1; omega)
              have wmm : IntKind.u8.wrap x.m = x.m := IntWalk.u8_in _ (by have := hpx.2; omega)
              have htk : ws.take (j + 1) = ws.take j ++ [x] := by rw [List.take_add_one, hx]; rfl
              obtain ⟨X, hX⟩ : ∃ X, X = Y2 ++ (ws.take j).flatMap wantB := ⟨_, rfl⟩
              rw [← hX] at h
              have HX := hide hX
              have HFW := hide (show (ws.take (j + 1)).flatMap wantB = (ws.take j).flatMap wantB ++ [x.c, x.m] by
                rw [htk, List.flatMap_append, List.flatMap_cons, List.flatMap_nil, List.append_nil, wantB_pk hpx])
              have H1 := hide h
              clear h hx hX htk hpx
              go_wp2_with fail
              clear cw
              refine region_mix (fun W => W.cell? ⟨g, 6 + k, none⟩ = some (.slice (some ad) m dw) ∧ W.cell? (ad.add (j * 2)) = some (.int .i64 x.c) ∧ W.cell? ⟨(ad.add (j * 2)).block, (ad.add (j * 2)).off + 1, none⟩ = some (.int .i64 x.m)) 25 [0, 1, 2, 3, 4, 5, 6, 7, 8, 9, 10, 11, 12, 13, 14, 15, 16, 17, 18, 19, 20, 21, 22] [23, 24, 25] (by kernel_rfl) (by kernel_rfl) (fun d => by cases d <;> exact fun _ _ _ _ h => h) (fun W hW => ?_)
              have hS : St M0 W _ := hW ▸ H1.out.drew
              have hS2 := hide hS
              clear hW H1
              have KEY := hide (show ∀ (W' : World) (L' : List Res), St M0 W' (docB g now last vs :: docS vs r :: L') → W'.cell? ⟨g, 6 + k, none⟩ = some (.slice (some ad) m dw) ∧ W'.cell? (ad.add (j * 2)) = some (.int .i64 x.c) ∧ W'.cell? ⟨(ad.add (j * 2)).block, (ad.add (j * 2)).off + 1, none⟩ = some (.int .i64 x.m) from fun W' L' h => by
                obtain ⟨_, hae, hcs⟩ := (HVW.out _ (h.get 1 rfl)).at_ wantC_len HXJ.out
                injection hae with hae
                subst hae
                obtain ⟨e0, e1⟩ := cells2F hcs
                exact ⟨((h.blk 0 rfl).cell (6 + k)).trans HTW.out, e0, e1⟩)
              refine ⟨KEY.out _ _ hS.tail, ?_⟩
              clear hS
              iterate 23 (refine take_run rfl rfl (fun W hW => by (rcases hW with ⟨_, _, _⟩; go_simp; try rfl)) ?_; (simp only [Act.put, List.setIfInBounds_toArray, List.set_cons_succ, List.set_cons_zero]))
              refine take_nil ?_
              have h4 := hS2.out.alloc 5 #[.int .u8 x.c, .int .u8 x.m]
              have hz := sl_blk (xs := bv [x.c, x.m]) (h4.blk 0 rfl)
              refine seq_buildSlice2 rfl rfl 48 2 0 1 _ _ (.int .u8 x.c) (.int .u8 x.m) rfl rfl rfl (u8_build2 _ _ _) (fun _ => KEY.out _ _ h4.tail.tail) ?_
              (simp only [Act.put, List.setIfInBounds_toArray, List.set_cons_succ, List.set_cons_zero])
              refine seq_app u8_row (h4.sub (L' := rowR 5 1 (.slice A p c) p (bv X) :: docB g now last vs :: docS vs r :: L) (by (repeat (first | with_reducible exact Sub.refl _ | (with_reducible apply Sub.take; focus (repeat (first | with_reducible exact At.here | with_reducible apply At.there))) | with_reducible apply Sub.drop)))) rfl rfl _ _ rfl rfl (some ⟨W.heap.size, 0, none⟩) 2 2 rfl (bv [x.c, x.m]) hz (bv_one _) (by omega) (by omega) (fun A' c' w' h5 => ⟨fun _ => KEY.out _ _ h5.tail, ?_⟩)
              (simp only [Act.put, List.setIfInBounds_toArray, List.set_cons_succ, List.set_cons_zero])
              rw [← bv_append] at h5
              have H6 := hide h5
              clear h4 h5 hz hS2 KEY
              refine seq_read rfl rfl (by (go_simp; try rfl)) (fun h => absurd h (by decide)) ?_
              (simp only [Act.put, List.setIfInBounds_toArray, List.set_cons_succ, List.set_cons_zero])
              refine seq_nil ?_
              go_wp2_with fail
              go_roundg (m - (j + 1))
              case measure => have := HGJ.out; omega
              case rel => exact ⟨j + 1, A', p + 2, c', rfl, by omega, rfl, by go_num, by omega, by rw [HFW.out, ← List.append_assoc, ← HX.out]; exact H6.out⟩
            · obtain rfl : m = j := by omega
              rw [List.take_of_length_le (by rw [← HM.out]; exact Nat.le_refl _)] at h
              have HFIN := hide (show Y2 ++ ws.flatMap wantB = P0 ++ lpackTo r (k + 1) by
                have en : numI ((r k).h.length : Nat) 1 = [((r k).h.length : Int)] := numI1L (by omega) (by have := HOK.out.hl k hk4; have : (r k).h.length ≤ 4 := this; omega)
                have em : numI ((r k).w.length : Nat) 1 = [((r k).w.length : Int)] := numI1L (by omega) (by have := HOK.out.wl k hk4; have : (r k).w.length ≤ 4 := this; omega)
                rw [HY2.out, HY.out, lpackTo_succ]
                unfold lregB
                rw [en, em, HM.out, HN.out, HHS.out, HWS.out]
                simp only [List.append_assoc])
              rw [HFIN.out] at h
              have H1 := hide h
              clear h
              go_wp2_with fail
              go_roundg (4 - (k + 1))
              case measure => have := HG.out; omega
              case rel => exact ⟨k + 1, A, p, c, rfl, by omega, rfl, by go_num, by omega, H1.out⟩
    · obtain rfl : k = 4 := by omega
      have E := hide (show P0 ++ lpackTo r 4 = packT ⟨now, last, r⟩ by rw [HP0.out]; rfl)
      rw [E.out] at h
      have H1 := hide h
      clear h
      go_wp2_with fail
      go_ret
      have hl : q = (packT ⟨now, last, r⟩).length := by
        obtain ⟨A', c', e, _⟩ := H1.out.ints.get 0 rfl
        injection e
      subst hl
      have h9 := St.docCl (H1.out.sub (L' := docB g now last vs :: docS vs r :: rowR 5 1 (.slice A (packT ⟨now, last, r⟩).length c) (packT ⟨now, last, r⟩).length (bv (packT ⟨now, last, r⟩)) :: L) (by (repeat (first | with_reducible exact Sub.refl _ | (with_reducible apply Sub.take; focus (repeat (first | with_reducible exact At.here | with_reducible apply At.there))) | with_reducible apply Sub.drop))))
      exact ⟨_, rfl, h9.swap⟩
end Go.Proofs.Ytbgknfdaaffeaaa
