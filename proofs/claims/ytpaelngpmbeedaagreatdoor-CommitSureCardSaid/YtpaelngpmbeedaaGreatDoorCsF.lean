/- A server on a disk with a fuse: what a request, a checkpoint, a crash leave (plain). -/
import Derived.Test.YtpaelngpmbeedaaGreatDoorCsE
namespace Go.Proofs.YtpaelngpmbeedaaGreatDoor

/-- the disk has the image M: vault with image B, journal J -/
structure HzB (D : DS) (a : Int) (ring : Nat) (J : JM) (B M : Nat → Rg) (K T d : Int) : Prop where
  v : Vt D a B K
  j : Jt D J K T d
  at_ : J.at_ = a + 44
  g : J.n = ring
  m : MI M
  p : replayM B J.all = M
  d : ∀ b ∈ J.all, decQe b = 0 ∧ Abs M (decQ b)
def Hz (D : DS) (a : Int) (ring : Nat) (J : JM) (M : Nat → Rg) (K T d : Int) : Prop := ∃ B, HzB D a ring J B M K T d
theorem Hz.mono {D : DS} {a : Int} {ring : Nat} {J : JM} {M : Nat → Rg} {K K' T T' d : Int} (h : Hz D a ring J M K T d) (hk : K ≤ K') (ht : T ≤ T') : Hz D a ring J M K' T' d := by
  obtain ⟨B, h⟩ := h
  exact ⟨B, h.v.mono hk, h.j.mono hk ht, h.at_, h.g, h.m, h.p, h.d⟩
theorem Hz.rest {D : DS} {a : Int} {ring : Nat} {J : JM} {M : Nat → Rg} {K T : Int} (h : Hz D a ring J M K T 0) : Hz D a ring J M K T 1 := by
  obtain ⟨B, h⟩ := h
  exact ⟨B, h.v, h.j.rest, h.at_, h.g, h.m, h.p, h.d⟩
theorem Hz.alike {D E : DS} {a : Int} {ring : Nat} {J : JM} {M : Nat → Rg} {K T d : Int} (h : Hz D a ring J M K T d) (hb : Bytes D.seen) (hn : E.n = D.n) (hr : ∀ j, E.read j = D.read j) : Hz E a ring J M K T d := by
  obtain ⟨B, h⟩ := h
  exact ⟨B, h.v.alike hb hn (fun j _ _ => hr j), h.j.alike hn (fun j _ _ => hr j), h.at_, h.g, h.m, h.p, h.d⟩
/-- a disk at rest that has M -/
def Rest (D : DS) (a : Int) (ring : Nat) (M : Nat → Rg) (K T : Int) : Prop := ∃ J, Hz D a ring J M K T 1
theorem Rest.mono {D : DS} {a : Int} {ring : Nat} {M : Nat → Rg} {K K' T T' : Int} (h : Rest D a ring M K T) (hk : K ≤ K') (ht : T ≤ T') : Rest D a ring M K' T' := by
  obtain ⟨J, h⟩ := h
  exact ⟨J, h.mono hk ht⟩
/-- a server that is up -/
structure Up (s : SM) (a : Int) (ring : Nat) (K T : Int) : Prop where
  dn : s.dn = false
  c : Calm s.D
  h : Hz s.D a ring s.J s.M K T 0
theorem Up.mono {s : SM} {a : Int} {ring : Nat} {K K' T T' : Int} (h : Up s a ring K T) (hk : K ≤ K') (ht : T ≤ T') : Up s a ring K' T' := ⟨h.dn, h.c, h.h.mono hk ht⟩
theorem Up.mi {s : SM} {a : Int} {ring : Nat} {K T : Int} (h : Up s a ring K T) : MI s.M := by
  obtain ⟨B, h⟩ := h.h
  exact h.m
theorem Up.sok {s : SM} {a : Int} {ring : Nat} {K T : Int} (h : Up s a ring K T) (hK : K ≤ 4000000000) (kk : Nat) : SOk s a ring kk := by
  obtain ⟨B, hh⟩ := h.h
  have h1 := hh.v.r
  have h2 := hh.j.r
  have h3 := hh.j.f
  have h4 := hh.at_
  have h5 := hh.j.ok.n0
  exact ⟨h.c.dsok kk, hh.m.mok, hh.j.ok, by omega, h1, by omega, hh.g⟩
/-- a server that is down; any crash leaves its image, or N -/
structure Down (s : SM) (a : Int) (ring : Nat) (N : Nat → Rg) (K T : Int) : Prop where
  dn : s.dn = true
  ok : SOk s a ring 60
  c : Dead s.D (fun E => E.n = s.D.n ∧ (Rest E a ring s.M K T ∨ Rest E a ring N K T))
theorem Down.mono {s : SM} {a : Int} {ring : Nat} {N : Nat → Rg} {K K' T T' : Int} (h : Down s a ring N K T) (hk : K ≤ K') (ht : T ≤ T') : Down s a ring N K' T' :=
  ⟨h.dn, h.ok, h.c.mono (fun _ _ _ ⟨hn, h⟩ => ⟨hn, h.imp (fun x => x.mono hk ht) (fun x => x.mono hk ht)⟩)⟩
/-- a crash of a server that is up -/
theorem Up.crash {s : SM} {a : Int} {ring : Nat} {K T : Int} (h : Up s a ring K T) (picks : List Int) : Calm (s.D.crash picks) ∧ Live (s.D.crash picks) ∧ (s.D.crash picks).n = s.D.n ∧ Rest (s.D.crash picks) a ring s.M K T := by
  obtain ⟨h1, h2⟩ := h.c.db.crash picks
  exact ⟨h1, h2, rfl, s.J, (Hz.alike (E := s.D.crash picks) h.h h.c.db.b rfl (fun j => h.c.crash_read picks j)).rest⟩
theorem Down.crash {s : SM} {a : Int} {ring : Nat} {N : Nat → Rg} {K T : Int} (h : Down s a ring N K T) (picks : List Int) : Calm (s.D.crash picks) ∧ Live (s.D.crash picks) ∧ (s.D.crash picks).n = s.D.n ∧ (Rest (s.D.crash picks) a ring s.M K T ∨ Rest (s.D.crash picks) a ring N K T) := by
  obtain ⟨h1, h2⟩ := h.c.db.crash picks
  exact ⟨h1, h2, rfl, (h.c.cr picks).2⟩
/-- the fuse may be set -/
def DS.fused (D : DS) (n : Int) : DS := { D with fuse := n }
theorem Up.fuse {s : SM} {a : Int} {ring : Nat} {K T : Int} (h : Up s a ring K T) {n : Int} (hn : -9223372036854775808 ≤ n ∧ n ≤ 9223372036854775807) : Up { s with D := s.D.fused n } a ring K T := by
  have hb := h.c.db
  refine ⟨h.dn, ⟨⟨⟨hb.ok.n1, hb.ok.n2, hb.ok.hs, hb.ok.hu, hb.ok.hp, hn.1, hn.2⟩, hb.b, hb.u, hb.p, hb.so⟩, h.c.dn, h.c.pn⟩, ?_⟩
  exact Hz.alike (D := s.D) (E := s.D.fused n) h.h hb.b rfl (fun _ => rfl)
theorem Down.fuse {s : SM} {a : Int} {ring : Nat} {N : Nat → Rg} {K T : Int} (h : Down s a ring N K T) {n : Int} (hn : -9223372036854775808 ≤ n ∧ n ≤ 9223372036854775807) : Down { s with D := s.D.fused n } a ring N K T := by
  have hb := h.c.db
  have ho := h.ok
  exact ⟨h.dn, ⟨⟨⟨hb.ok.n1, hb.ok.n2, hb.ok.hs, hb.ok.hu, hb.ok.hp, hn.1, hn.2⟩, ho.d.b, ho.d.p⟩, ho.m, ho.j, ho.f, ho.a0, ho.j0, ho.g⟩,
    ⟨⟨⟨hb.ok.n1, hb.ok.n2, hb.ok.hs, hb.ok.hu, hb.ok.hp, hn.1, hn.2⟩, hb.b, hb.u, hb.p, hb.so⟩, h.c.dn, h.c.cr⟩⟩

/-! ### opened -/
theorem Rest.open_ {D : DS} {a : Int} {ring : Nat} {M : Nat → Rg} {K T : Int} (h : Rest D a ring M K T) (hc : Calm D) (hl : Live D) (hK : K ≤ 4000000000) (hT : T ≤ 250) :
    OpOk D a ring ∧ openM D a ring = M ∧ Up ⟨openM D a ring, openD D a ring, openJ D a ring, false⟩ a ring (K + 1) (T + 1) ∧ Live (openD D a ring) ∧ (openD D a ring).n = D.n := by
  obtain ⟨J, B, h⟩ := h
  have hv := h.v
  have hj := h.j
  have hat := h.at_
  have hg := h.g
  have hr := hv.r
  have hok := hj.ok
  have hN := hok.n0
  have hjr := hj.r
  have he := hj.e
  have he0 := hok.e0
  have hA := hok.a0
  obtain ⟨f1, f2, f3, f4⟩ := hj.found (by omega)
  rw [hat, hg] at f3 f4
  rw [hat] at f1 f2
  have hJ : openJ D a ring = J.up := f4
  have hD : openD D a ring = saveD D (a + 44) J.up.slot := by show saveD D (a + 44) (jOpenJ D (a + 44) ring).slot = _; rw [f4]
  have hM : openM D a ring = M := by
    unfold openM
    rw [hJ, hv.bg]
    exact h.p
  have hjs := hj.s
  have hjq := hj.q
  rw [hat] at hjs hjq
  obtain ⟨l1, l2, _⟩ := hl.save hc.db.b (a := a + 44) (b := J.up.slot) (by omega) (by rw [JM.slot_len]; omega) (by omega)
  rcases hc.save (a := a + 44) (b := J.up.slot) (by omega) (by rw [JM.slot_len]; omega) J.up.slot_bytes hjs (by omega) with ⟨s1, s2, s3, s4, s5, s6⟩ | ⟨s1, _⟩
  · have hjf := hj.f
    refine ⟨⟨hr, hv.un, ⟨by omega, by rw [← hg]; exact hN, fun _ => f2, ?_, ?_, ?_, ?_⟩, ?_⟩, hM, ⟨rfl, by rw [hD]; exact s2, B, ?_⟩, by rw [hD]; exact l2, by rw [hD]; exact s3⟩
    · rw [f3]; exact hok.f0
    · rw [f3]; show 0 ≤ J.ep ∧ J.ep < _; omega
    · rw [f3]; exact hok.l0
    · rw [f4]; exact s1
    · intro b hb
      rw [hJ] at hb
      exact (h.d b hb).1
    · show HzB (openD D a ring) a ring (openJ D a ring) B (openM D a ring) (K + 1) (T + 1) 0
      rw [hD, hJ, hM]
      refine ⟨(hv.alike hc.db.b s3 (fun j _ _ => s6 j (by omega) (by omega))).mono (by omega), ?_, hat, hg, h.m, h.p, h.d⟩
      have := hj.reslot (J' := J.up) (T' := T + 1) (d' := 0) (p := putI D (a + 44)) (hok.up (by omega)) rfl rfl rfl (by show J.ep ≤ J.ep + 1; omega) (by show J.ep + 1 ≤ J.ep + 1 + 0; omega) (by show J.ep + 1 ≤ T + 1; omega) hjf (hj.c.mono (by show J.ep ≤ J.ep + 1; omega)) hj.h (E := saveD D (a + 44) J.up.slot) s3 (by rw [hat]; exact s5) (by rw [hat]; exact s4) (fun j h1 h2 => s6 j (by omega) (by omega))
      exact this
  · rw [l1] at s1; cases s1

/-! ### a checkpoint -/
theorem replay_abs {M : Nat → Rg} : ∀ (l : List (List Int)), (∀ b ∈ l, Abs M (decQ b)) → replayM M l = M
  | [], _ => rfl
  | b :: r, h => by
    show replayM (doM M (decQ b)) r = M
    rw [abs_doM (h b List.mem_cons_self)]
    exact replay_abs r (fun x hx => h x (List.mem_cons_of_mem _ hx))
theorem Up.cp {s : SM} {a : Int} {ring : Nat} {K T : Int} (h : Up s a ring K T) (hK : K ≤ 3000000000) :
    (cpE s.M s.D s.J a = 0 ∧ (cpJ s.M s.D s.J a).held = [] ∧ Up (s.cpS a) a ring (K + 2) T ∧ (cpD s.M s.D s.J a).n = s.D.n) ∨
    (cpE s.M s.D s.J a = 43 ∧ Down (s.cpS a) a ring s.M (K + 2) T ∧ (cpD s.M s.D s.J a).n = s.D.n) := by
  obtain ⟨M, D, J, dn⟩ := s
  obtain ⟨hdn, hc, B, hh⟩ := h
  have hc : Calm D := hc
  have hv : Vt D a B K := hh.v
  have hj : Jt D J K T 0 := hh.j
  have hm : MI M := hh.m
  have hat : J.at_ = a + 44 := hh.at_
  have hjf := hj.f
  have hall : ∀ b ∈ J.all, decQe b = 0 ∧ Abs M (decQ b) := hh.d
  have hrep : replayM M J.all = M := replay_abs _ (fun b hb => (hall b hb).2)
  have hvr := hv.r
  have hjr := hj.r
  have hN := hj.ok.n0
  have hco := cpD_ok (J := J) (a := a) (hc.dsok 0) hm.mok
  have tall : J.trim.all = [] := rfl
  have hdown : ∀ (JJ : JM) (c : Dead (cpD M D J a) (fun E => E.n = D.n ∧ (∃ J', Hz E a ring J' M (K + 2) T 1))), JOk JJ → JJ.first + (JJ.held.length : Nat) ≤ 4000000000 → JJ.at_ = a + 44 → JJ.n = ring → Down ⟨M, cpD M D J a, JJ, true⟩ a ring M (K + 2) T := by
    intro JJ c j1 j2 j3 j4
    refine ⟨rfl, ⟨⟨hco.1.ok, hco.1.b, Nat.le_trans hco.1.p (by omega)⟩, hm.mok, j1, j2, ?_, ?_, j4⟩, c.mono (fun E _ _ ⟨t1, t2⟩ => ⟨t1.trans hco.2.symm, .inl t2⟩)⟩
    · show 0 ≤ a ∧ a + 44 ≤ ((cpD M D J a).n : Int)
      rw [hco.2]; exact hvr
    · show 0 ≤ JJ.at_ ∧ JJ.at_ + 1 < ((cpD M D J a).n : Int)
      rw [hco.2, j3]; omega
  have htr : JOk J.trim := hj.ok.trim (by omega)
  have htf : J.trim.first + (J.trim.held.length : Nat) ≤ 4000000000 := by show J.first + (J.held.length : Nat) + ((0 : Nat) : Int) ≤ _; omega
  rcases hc.vSave hv (by omega) hm with ⟨v1, v2, v3, v4, v5⟩ | ⟨v1, v2⟩
  · have E0 : cpV M D a = 0 := v1
    have E1 : cpE M D J a = saveE (vSaveD D a (packI M)) J.at_ J.trim.slot := if_pos E0
    have E2 : cpD M D J a = saveD (vSaveD D a (packI M)) J.at_ J.trim.slot := if_pos E0
    have E3 : cpJ M D J a = J.trim := if_pos E0
    have hj2 : Jt (vSaveD D a (packI M)) J (K + 1) T 0 := (hj.alike v3 (fun j h1 _ => v5 j (.inr (by omega)))).mono (by omega) (Int.le_refl _)
    generalize vSaveD D a (packI M) = V at *
    have hzT : ∀ (E : DS) (d : Int), E.n = D.n → Jt E J.trim (K + 2) T d → (∀ j, j ≠ J.at_ → j ≠ J.at_ + 1 → E.read j = V.read j) → Hz E a ring J.trim M (K + 2) T d := fun E d hn ht hr =>
      ⟨M, (v4.alike v2.db.b (hn.trans v3.symm) (fun j _ _ => hr j (by omega) (by omega))).mono (by omega), ht, hat, hh.g, hm, rfl, fun b hb => by rw [tall] at hb; exact absurd hb List.not_mem_nil⟩
    rcases hj2.trimS v2 (by omega) with ⟨t1, t2, t3, t4, t5⟩ | ⟨t1, t2⟩
    · refine .inl ⟨E1.trans t1, by show (cpJ M D J a).held = []; rw [E3]; rfl, ⟨?_, ?_, ?_⟩, hco.2⟩
      · show (cpE M D J a == 43) = false
        rw [E1.trans t1]; rfl
      · show Calm (cpD M D J a)
        rw [E2]; exact t2
      · show Hz (cpD M D J a) a ring (cpJ M D J a) M (K + 2) T 0
        rw [E2, E3]
        exact hzT _ 0 (t3.trans v3) (t4.mono (by omega) (Int.le_refl _)) t5
    · have hS : SM.cpS ⟨M, D, J, dn⟩ a = ⟨M, cpD M D J a, J.trim, true⟩ := by
        show SM.mk M (cpD M D J a) (cpJ M D J a) (cpE M D J a == 43) = _
        rw [E1.trans t1, E3]
        rfl
      refine .inr ⟨E1.trans t1, ?_, hco.2⟩
      rw [hS]
      refine hdown J.trim ?_ htr htf hat hh.g
      rw [E2]
      refine t2.mono (fun E _ _ ⟨u1, u2, u3⟩ => ⟨u1.trans v3, ?_⟩)
      rcases u2 with u2 | u2
      · exact ⟨J.trim, (hzT E 0 (u1.trans v3) (u2.mono (by omega) (Int.le_refl _)) u3).rest⟩
      · exact ⟨J, M, (v4.alike v2.db.b u1 (fun j _ _ => u3 j (by omega) (by omega))).mono (by omega), (u2.mono (by omega) (Int.le_refl _)).rest, hat, hh.g, hm, hrep, hall⟩
  · have E0 : cpV M D a = 43 := v1
    have E00 : ¬ cpV M D a = 0 := by rw [E0]; decide
    have E1 : cpE M D J a = 43 := (if_neg E00).trans E0
    have E2 : cpD M D J a = vSaveD D a (packI M) := if_neg E00
    have E3 : cpJ M D J a = J := if_neg E00
    have hS : SM.cpS ⟨M, D, J, dn⟩ a = ⟨M, cpD M D J a, J, true⟩ := by
      show SM.mk M (cpD M D J a) (cpJ M D J a) (cpE M D J a == 43) = _
      rw [E1, E3]
      rfl
    refine .inr ⟨E1, ?_, hco.2⟩
    rw [hS]
    refine hdown J ?_ hj.ok (by omega) hat hh.g
    rw [E2]
    refine v2.mono (fun E _ _ ⟨u1, u2, u3⟩ => ⟨u1, J, ?_⟩)
    have hjE : Jt E J (K + 2) T 1 := ((hj.alike u1 (fun j h1 _ => u3 j (.inr (by omega)))).mono (by omega) (Int.le_refl _)).rest
    rcases u2 with u2 | u2
    · exact ⟨M, u2.mono (by omega), hjE, hat, hh.g, hm, hrep, hall⟩
    · exact ⟨B, u2.mono (by omega), hjE, hat, hh.g, hm, hh.p, hall⟩

/-! ### a request -/
theorem replayM_app (B : Nat → Rg) (l : List (List Int)) (b : List Int) : replayM B (l ++ [b]) = doM (replayM B l) (decQ b) := by
  unfold replayM
  rw [List.foldl_append]
  rfl
/-- the append of a change, and its sync -/
theorem Up.ap {s : SM} {a : Int} {ring : Nat} {K T : Int} (h : Up s a ring K T) (hK : K ≤ 3500000000) (hT : T < 256) (hlt : s.J.held.length < s.J.n) {r : RQ} (hr : r.ok) (hb : Bytes r.data) (h0 : (checkI s.M r).2 = 0) (h1 : (checkI s.M r).1 = true) :
    (apE s.D s.J (encQ r) = 0 ∧ (apD s.D s.J (encQ r)).down = false ∧ Up ⟨doM s.M r, apD s.D s.J (encQ r), s.J.app (encQ r), false⟩ a ring (K + 1) T ∧ (apD s.D s.J (encQ r)).n = s.D.n) ∨
    (apE s.D s.J (encQ r) = 43 ∧ (apD s.D s.J (encQ r)).down = true ∧ Down ⟨s.M, apD s.D s.J (encQ r), s.J.app (encQ r), true⟩ a ring (doM s.M r) (K + 1) T ∧ (apD s.D s.J (encQ r)).n = s.D.n) := by
  obtain ⟨M, D, J, dn⟩ := s
  obtain ⟨hdn, hc, B, hh⟩ := h
  have hc : Calm D := hc
  have hv : Vt D a B K := hh.v
  have hj : Jt D J K T 0 := hh.j
  have hm : MI M := hh.m
  have hat : J.at_ = a + 44 := hh.at_
  have hlt : J.held.length < J.n := hlt
  have hjf := hj.f
  have hvr := hv.r
  have hjr := hj.r
  have hN := hj.ok.n0
  have h0 : (checkI M r).2 = 0 := h0
  have h1 : (checkI M r).1 = true := h1
  have hw := (check_ok h0).w
  have hq : encQ r = reqB r := if_pos hw
  obtain ⟨d1, d2⟩ := dec_enc_req hr hw
  have hall : ∀ b ∈ J.all, decQe b = 0 ∧ Abs M (decQ b) := hh.d
  have eall : (J.app (encQ r)).all = J.all ++ [encQ r] := by show (J.held ++ [(J.ep, encQ r)]).map Prod.snd = _; rw [List.map_append]; rfl
  have hm2 := hm.doM hr hb
  have hrep2 : replayM B (J.app (encQ r)).all = doM M r := by
    rw [eall, replayM_app, show replayM B J.all = M from hh.p, hq, d2]
  have hall2 : ∀ b ∈ (J.app (encQ r)).all, decQe b = 0 ∧ Abs (doM M r) (decQ b) := by
    intro b hb2
    rw [eall] at hb2
    rcases List.mem_append.1 hb2 with hb2 | hb2
    · exact ⟨(hall b hb2).1, abs_keep (hall b hb2).2⟩
    · rw [List.mem_singleton.1 hb2, hq]
      exact ⟨d1, by rw [d2]; exact abs_self h0 h1⟩
  have hal : (J.app (encQ r)).held.length = J.held.length + 1 := by show (J.held ++ [(J.ep, encQ r)]).length = _; rw [List.length_append]; rfl
  have vE : ∀ E : DS, E.n = D.n → (∀ j, j < J.at_ + 2 → E.read j = D.read j) → Vt E a B (K + 1) := fun E hn hr2 => (hv.alike hc.db.b hn (fun j _ _ => hr2 j (by omega))).mono (by omega)
  rcases hj.appS hc (encQ_43 r) (encQ_bytes hb) hlt (by omega) hT with ⟨a1, a2, a3, a4, a5⟩ | ⟨a1, a2⟩
  · exact .inl ⟨a1, a2.dn, ⟨rfl, a2, B, vE _ a3 a5, a4, hat, hh.g, hm2, hrep2, hall2⟩, a3⟩
  · have hok : DsOk (apD D J (encQ r)) 60 ∧ (apD D J (encQ r)).n = D.n := by
      obtain ⟨o1, o2⟩ := apD_ok (J := J) (hc.dsok 0) (encQ_bytes hb)
      have o1 : DsOk (J.appD D (encQ r)) 60 := o1.mono (by omega)
      unfold apD
      split
      · exact ⟨o1.sync, by rw [DS.sync_nV]; exact o2⟩
      · exact ⟨o1, o2⟩
    refine .inr ⟨a1, a2.dn, ⟨rfl, ⟨hok.1, hm.mok, hj.ok.app (encQ_43 r) (encQ_bytes hb) hlt, ?_, ?_, ?_, hh.g⟩, a2.mono (fun E _ _ ⟨t1, t2, t3⟩ => ⟨t1.trans hok.2.symm, ?_⟩)⟩, hok.2⟩
    · show J.first + ((J.app (encQ r)).held.length : Nat) ≤ 4000000000
      rw [hal]; omega
    · show 0 ≤ a ∧ a + 44 ≤ ((apD D J (encQ r)).n : Int)
      rw [hok.2]; exact hvr
    · show 0 ≤ J.at_ ∧ J.at_ + 1 < ((apD D J (encQ r)).n : Int)
      rw [hok.2, hat]; omega
    · rcases t2 with t2 | t2
      · exact .inr ⟨_, B, vE _ t1 t3, t2, hat, hh.g, hm2, hrep2, hall2⟩
      · exact .inl ⟨J, B, vE _ t1 t3, t2.mono (by omega) (Int.le_refl _), hat, hh.g, hm, hh.p, hall⟩
/-- a request's all -/
theorem Up.doS {s : SM} {a : Int} {ring : Nat} {K T : Int} (h : Up s a ring K T) (hK : K ≤ 3000000000) (hT : T < 256) {r : RQ} (hr : r.ok) (hb : Bytes r.data) :
    (s.doE a ring r = (checkI s.M r).2 ∧ Up (s.doS a ring r) a ring (K + 3) T ∧ (s.doS a ring r).M = (if (checkI s.M r).2 = 0 then doM s.M r else s.M) ∧ (s.doS a ring r).D.n = s.D.n) ∨
    (s.doE a ring r = 43 ∧ s.lg r = true ∧ Down (s.doS a ring r) a ring (doM s.M r) (K + 3) T ∧ (s.doS a ring r).M = s.M ∧ (s.doS a ring r).D.n = s.D.n) := by
  have hdn : ¬ s.dn = true := by rw [h.dn]; exact Bool.false_ne_true
  by_cases hl : s.lg r = true
  · have hl2 := hl
    unfold SM.lg at hl2
    rw [h.dn] at hl2
    simp only [Bool.not_false, Bool.true_and, Bool.and_eq_true, beq_iff_eq] at hl2
    obtain ⟨h0, h1⟩ := hl2
    have eE : s.logE a ring r = lgE s.M s.D s.J a ring (encQ r) := if_pos hl
    have eS : s.logS a ring r = ⟨s.M, lgD s.M s.D s.J a ring (encQ r), lgJ s.M s.D s.J a ring (encQ r), lgN s.M s.D s.J a ring (encQ r)⟩ := if_pos hl
    -- behind the checkpoint that may be wanted
    have core : ∀ (t : SM), Up t a ring (K + 2) T → t.M = s.M → t.D.n = s.D.n → t.J.held.length < t.J.n → lgE1 s.M s.D s.J a ring = 0 → lgD1 s.M s.D s.J a ring = t.D → lgJ1 s.M s.D s.J a ring = t.J →
        (s.doE a ring r = (checkI s.M r).2 ∧ Up (s.doS a ring r) a ring (K + 3) T ∧ (s.doS a ring r).M = (if (checkI s.M r).2 = 0 then doM s.M r else s.M) ∧ (s.doS a ring r).D.n = s.D.n) ∨
        (s.doE a ring r = 43 ∧ s.lg r = true ∧ Down (s.doS a ring r) a ring (doM s.M r) (K + 3) T ∧ (s.doS a ring r).M = s.M ∧ (s.doS a ring r).D.n = s.D.n) := by
      intro t ht hM hn hlt e1 e2 e3
      have lE : lgE s.M s.D s.J a ring (encQ r) = apE t.D t.J (encQ r) := by unfold lgE; rw [if_pos e1, e2, e3]
      have lD : lgD s.M s.D s.J a ring (encQ r) = apD t.D t.J (encQ r) := by unfold lgD; rw [if_pos e1, e2, e3]
      have lJ : lgJ s.M s.D s.J a ring (encQ r) = t.J.app (encQ r) := by unfold lgJ; rw [if_pos e1, e3]
      have lN : lgN s.M s.D s.J a ring (encQ r) = (apD t.D t.J (encQ r)).down := by unfold lgN; rw [if_pos e1, e2, e3]
      rcases ht.ap (by omega) hT hlt hr hb (by rw [hM]; exact h0) (by rw [hM]; exact h1) with ⟨a1, a2, a3, a4⟩ | ⟨a1, a2, a3, a4⟩
      · have d0 : s.doE a ring r = (checkI s.M r).2 := by
          unfold SM.doE
          rw [if_neg hdn, eE, lE, a1, if_pos rfl]
        have dS : s.doS a ring r = ⟨doM s.M r, apD t.D t.J (encQ r), t.J.app (encQ r), false⟩ := by
          unfold SM.doS
          rw [d0, if_pos h0, eS, lD, lJ, lN, a2]
        rw [hM] at a3
        exact .inl ⟨d0, by rw [dS]; exact a3.mono (by omega) (Int.le_refl _), by rw [dS, if_pos h0], by rw [dS]; exact a4.trans hn⟩
      · have d0 : s.doE a ring r = 43 := by
          unfold SM.doE
          rw [if_neg hdn, eE, lE, a1, if_neg (by decide)]
        have dS : s.doS a ring r = ⟨s.M, apD t.D t.J (encQ r), t.J.app (encQ r), true⟩ := by
          unfold SM.doS
          rw [d0, if_neg (by decide), eS, lD, lJ, lN, a2]
        rw [hM] at a3
        exact .inr ⟨d0, hl, by rw [dS]; exact a3.mono (by omega) (Int.le_refl _), by rw [dS], by rw [dS]; exact a4.trans hn⟩
    obtain ⟨B, hh⟩ := h.h
    by_cases hc : ring ≤ s.J.held.length
    · have e1 : lgE1 s.M s.D s.J a ring = cpE s.M s.D s.J a := if_pos hc
      have e2 : lgD1 s.M s.D s.J a ring = cpD s.M s.D s.J a := if_pos hc
      have e3 : lgJ1 s.M s.D s.J a ring = cpJ s.M s.D s.J a := if_pos hc
      rcases h.cp hK with ⟨c1, c2, c3, c4⟩ | ⟨c1, c2, c4⟩
      · refine core (s.cpS a) c3 rfl c4 ?_ (e1.trans c1) e2 e3
        obtain ⟨B2, hh2⟩ := c3.h
        have hN := hh2.j.ok.n0
        show (cpJ s.M s.D s.J a).held.length < _
        rw [c2]
        exact hN.1
      · have lz : ¬ lgE1 s.M s.D s.J a ring = 0 := by rw [e1, c1]; decide
        have lE : lgE s.M s.D s.J a ring (encQ r) = 43 := by unfold lgE; rw [if_neg lz, e1, c1]
        have lD : lgD s.M s.D s.J a ring (encQ r) = cpD s.M s.D s.J a := by unfold lgD; rw [if_neg lz, e2]
        have lJ : lgJ s.M s.D s.J a ring (encQ r) = cpJ s.M s.D s.J a := by unfold lgJ; rw [if_neg lz, e3]
        have lN : lgN s.M s.D s.J a ring (encQ r) = true := by unfold lgN; rw [if_neg lz, e1, c1]; rfl
        have d0 : s.doE a ring r = 43 := by
          unfold SM.doE
          rw [if_neg hdn, eE, lE, if_neg (by decide)]
        have dS : s.doS a ring r = s.cpS a := by
          unfold SM.doS
          rw [d0, if_neg (by decide), eS, lD, lJ, lN]
          show _ = SM.mk s.M (cpD s.M s.D s.J a) (cpJ s.M s.D s.J a) (cpE s.M s.D s.J a == 43)
          rw [c1]
          rfl
        refine .inr ⟨d0, hl, ?_, by rw [dS]; rfl, by rw [dS]; exact c4⟩
        rw [dS]
        exact ⟨c2.dn, c2.ok, c2.c.mono (fun E _ _ ⟨t1, t2⟩ => ⟨t1, .inl ((t2.elim id id).mono (by omega) (Int.le_refl _))⟩)⟩
    · have hlt : s.J.held.length < s.J.n := by rw [hh.g]; omega
      exact core s (h.mono (by omega) (Int.le_refl _)) rfl rfl hlt (if_neg hc) (if_neg hc) (if_neg hc)
  · have eE : s.logE a ring r = 0 := if_neg hl
    have eS : s.logS a ring r = s := if_neg hl
    have d0 : s.doE a ring r = (checkI s.M r).2 := by
      unfold SM.doE
      rw [if_neg hdn, if_pos eE]
    have hM : doM s.M r = s.M := by
      unfold doM
      refine if_neg (fun hc => hl ?_)
      unfold SM.lg
      rw [h.dn, hc.1, hc.2]
      rfl
    have dS : s.doS a ring r = s := by
      unfold SM.doS
      rw [eS, hM]
      obtain ⟨M, D, J, dn⟩ := s
      split <;> rfl
    refine .inl ⟨d0, by rw [dS]; exact h.mono (by omega) (Int.le_refl _), ?_, by rw [dS]⟩
    rw [dS, hM]
    split <;> rfl
/-- a server that is down does nothing -/
theorem down_do {s : SM} (h : s.dn = true) (a : Int) (ring : Nat) (r : RQ) : s.doE a ring r = 43 ∧ s.doS a ring r = s ∧ s.doO a ring r = [] := by
  have hl : s.lg r = false := by unfold SM.lg; rw [h]; rfl
  have d0 : s.doE a ring r = 43 := if_pos h
  refine ⟨d0, ?_, ?_⟩
  · unfold SM.doS SM.logS
    rw [d0, hl]
    rfl
  · unfold SM.doO
    rw [d0]
    rfl
end Go.Proofs.YtpaelngpmbeedaaGreatDoor
