/- A journal on a disk with a fuse (plain). -/
import Derived.Test.YtpaelngpmbeedaaGreatDoorCsD
namespace Go.Proofs.YtpaelngpmbeedaaGreatDoor

/-! ### epochs rise -/
def Chain (ep : Int) : Int → List RecJ → Prop
  | low, [] => low ≤ ep
  | low, x :: r => low ≤ x.1 ∧ Chain ep x.1 r
theorem Chain.le {ep : Int} : ∀ {l : List RecJ} {low : Int}, Chain ep low l → low ≤ ep
  | [], _, h => h
  | _ :: _, _, h => Int.le_trans h.1 h.2.le
theorem Chain.mono {ep ep' : Int} (he : ep ≤ ep') : ∀ {l : List RecJ} {low : Int}, Chain ep low l → Chain ep' low l
  | [], _, h => Int.le_trans h he
  | _ :: _, _, h => ⟨h.1, h.2.mono he⟩
theorem Chain.app {ep : Int} (b : List Int) : ∀ {l : List RecJ} {low : Int}, Chain ep low l → Chain ep low (l ++ [(ep, b)])
  | [], _, h => ⟨h, Int.le_refl _⟩
  | _ :: _, _, h => ⟨h.1, h.2.app b⟩
theorem Chain.last {ep : Int} : ∀ {l : List RecJ} {low : Int}, Chain ep low l → (l.getLast?.map Prod.fst).getD low ≤ ep
  | [], _, h => h
  | [x], _, h => h.2
  | _ :: y :: r, _, h => by
    have := Chain.last (l := y :: r) h.2
    rw [List.getLast?_cons_cons]
    cases hg : (y :: r).getLast? with
    | none => simp at hg
    | some z => rw [hg] at this; exact this

/-! ### the slot's numbers -/
theorem meta_back {J : JM} (h1 : 0 ≤ J.first ∧ J.first < 4294967296) (h2 : 0 ≤ J.ep ∧ J.ep < 4294967296) (h3 : 0 ≤ J.low ∧ J.low < 4294967296) : (metaA J.slot).1 = J.first ∧ (metaB J.slot).1 = J.ep ∧ (metaC J.slot).1 = J.low ∧ (metaC J.slot).2.endE = 0 := by
  have p4 : (256 : Int) ^ 4 = 4294967296 := by decide
  have e1 : metaA J.slot = (J.first, ⟨numB J.ep 4 ++ (numB J.low 4 ++ []), false⟩) := by
    show (Rd.mk J.slot false).num ((4 : Nat) : Int) = _
    rw [show J.slot = numB J.first 4 ++ (numB J.ep 4 ++ (numB J.low 4 ++ [])) by unfold JM.slot; rw [List.append_assoc, List.append_nil]]
    exact numQ_back h1.1 (by rw [p4]; exact h1.2) (by omega) (by omega) _
  have e2 : metaB J.slot = (J.ep, ⟨numB J.low 4 ++ [], false⟩) := by
    show (metaA J.slot).2.num ((4 : Nat) : Int) = _
    rw [e1]
    exact numQ_back h2.1 (by rw [p4]; exact h2.2) (by omega) (by omega) _
  have e3 : metaC J.slot = (J.low, ⟨[], false⟩) := by
    show (metaB J.slot).2.num ((4 : Nat) : Int) = _
    rw [e2]
    exact numQ_back h3.1 (by rw [p4]; exact h3.2) (by omega) (by omega) _
  rw [e1, e2, e3]
  exact ⟨rfl, rfl, rfl, rfl⟩

/-! ### a journal on a disk -/
/-- a sector of the ring in which no number as late as q stands -/
structure Below (q e : Int) (s : List Int) : Prop where
  a : alsM s ≤ e
  p : epoM s ≤ e
  u : seqM s < q
  g : agaM s < q
theorem Below.next {q q' e : Int} {s : List Int} (h : Below q e s) (hl : s.length = 64) (hb : Bytes s) (hq : q ≤ q') : NextOk q' e s :=
  ⟨hl, hb, h.a, h.p, fun x => absurd x (by have h1 := h.g; omega), fun x => by have := h.u; have := x.2; omega⟩
theorem Below.mono {q q' e e' : Int} {s : List Int} (h : Below q e s) (hq : q ≤ q') (he : e ≤ e') : Below q' e' s :=
  ⟨Int.le_trans h.a he, Int.le_trans h.p he, Int.lt_of_lt_of_le h.u hq, Int.lt_of_lt_of_le h.g hq⟩
/-- the journal J lies on disk D; d = 1: the disk is at rest, and the next one is written by an epoch above -/
structure Jt (D : DS) (J : JM) (K T d : Int) : Prop where
  ok : JOk J
  r : J.at_ + 2 + (J.n : Int) ≤ (D.n : Int)
  s : SlotI D J.at_
  q : 1 ≤ (lastM D J.at_).q ∧ (lastM D J.at_).q ≤ K
  b : (lastM D J.at_).b = J.slot
  f : 1 ≤ J.first ∧ J.first + (J.held.length : Nat) ≤ K
  e : J.ep ≤ T
  c : Chain J.ep J.low J.held
  h : ∀ (k : Nat) (x : RecJ), J.held[k]? = some x → recM D (J.at_ + 2 + (J.first + (k : Nat)) % (J.n : Nat)) = ⟨J.first + (k : Nat), x.1, x.2, true⟩
  o : ∀ i : Nat, i < J.n → ((i : Nat) : Int) ≠ J.next % (J.n : Nat) → Below J.next J.ep (D.read (J.at_ + 2 + (i : Nat)))
  x : NextOk J.next (J.ep + d) (D.read (J.sec J.next))
theorem Jt.mono {D : DS} {J : JM} {K K' T T' d : Int} (h : Jt D J K T d) (hk : K ≤ K') (ht : T ≤ T') : Jt D J K' T' d :=
  ⟨h.ok, h.r, h.s, ⟨h.q.1, Int.le_trans h.q.2 hk⟩, h.b, ⟨h.f.1, Int.le_trans h.f.2 hk⟩, Int.le_trans h.e ht, h.c, h.h, h.o, h.x⟩
theorem Jt.rest {D : DS} {J : JM} {K T : Int} (h : Jt D J K T 0) : Jt D J K T 1 :=
  ⟨h.ok, h.r, h.s, h.q, h.b, h.f, h.e, h.c, h.h, h.o, h.x.mono (by omega)⟩
theorem ring_in {J : JM} (h : JOk J) (q : Int) : 0 ≤ q % (J.n : Int) ∧ q % (J.n : Int) < (J.n : Int) := by
  have := h.n0
  exact ⟨Int.emod_nonneg _ (by omega), Int.emod_lt_of_pos _ (by omega)⟩
/-- as it reads alike -/
theorem Jt.alike {D E : DS} {J : JM} {K T d : Int} (h : Jt D J K T d) (hn : E.n = D.n) (hr : ∀ j, J.at_ ≤ j → j < J.at_ + 2 + (J.n : Int) → E.read j = D.read j) : Jt E J K T d := by
  have hN := h.ok.n0
  have r0 := hr J.at_ (by omega) (by omega)
  have r1 := hr (J.at_ + 1) (by omega) (by omega)
  have hl := lastM_same r0 r1
  refine ⟨h.ok, by rw [hn]; exact h.r, h.s.same r0 r1, by rw [hl]; exact h.q, by rw [hl]; exact h.b, h.f, h.e, h.c, fun k x hx => ?_, fun i hi hne => ?_, ?_⟩
  · have := ring_in h.ok (J.first + (k : Nat))
    rw [recM_eq (hr _ (by omega) (by omega))]
    exact h.h k x hx
  · rw [hr _ (by omega) (by omega)]
    exact h.o i hi hne
  · have := ring_in h.ok J.next
    have hs : J.sec J.next = J.at_ + 2 + J.next % (J.n : Nat) := rfl
    rw [hr _ (by omega) (by omega)]
    exact h.x

/-! ### it is found again -/
theorem scan_all {D : DS} {a : Int} {n : Nat} {first ep : Int} (held : List RecJ) (hh : ∀ (k : Nat) (x : RecJ), held[k]? = some x → recM D (a + 2 + (first + (k : Nat)) % (n : Nat)) = ⟨first + (k : Nat), x.1, x.2, true⟩)
    (hx : ∀ low, scanOk (scanP D a n first held.length) (first + (held.length : Nat)) low ep = false) : ∀ (rest acc : List RecJ) (f : Nat) (low : Int), held = acc ++ rest → rest.length ≤ f → Chain ep low rest → scanL D a n first ep f low acc = held
  | [], acc, 0, _, he, _, _ => by rw [he, List.append_nil]; rfl
  | [], acc, f + 1, low, he, _, _ => by
    rw [List.append_nil] at he
    subst he
    exact scanL_no (hx low)
  | x :: r, acc, 0, _, _, hl, _ => by simp at hl
  | x :: r, acc, f + 1, low, he, hl, hc => by
    have hk : held[acc.length]? = some x := by rw [he, List.getElem?_append_right (Nat.le_refl _), Nat.sub_self]; rfl
    have hp : scanP D a n first acc.length = ⟨first + (acc.length : Nat), x.1, x.2, true⟩ := hh _ _ hk
    have h1 := hc.1
    have h2 := hc.2.le
    have hs : scanOk (scanP D a n first acc.length) (first + (acc.length : Nat)) low ep = true := by
      rw [hp]
      unfold scanOk
      show (true && !((first + (acc.length : Nat)) != (first + (acc.length : Nat))) && !decide (x.1 < low) && !decide (x.1 > ep)) = true
      rw [show ((first + ((acc.length : Nat) : Int)) != (first + (acc.length : Nat))) = false by simp, decide_eq_false (by omega), decide_eq_false (by omega)]
      rfl
    rw [scanL_go hs, hp]
    exact scan_all held hh hx r (acc ++ [x]) f x.1 (by rw [he, List.append_assoc]; rfl) (by simp at hl; omega) hc.2
theorem NextOk.stop {q e low ep : Int} {s : List Int} (h : NextOk q e s) : scanOk (parseM s) q low ep = false := by
  unfold scanOk
  cases hf : fineM s with
  | false => rw [parseM_no hf]; rfl
  | true =>
    rw [parseM_yes hf]
    have hne : seqM s ≠ q := fun e => h.n ⟨hf, e⟩
    show (true && !(seqM s != q) && _ && _) = false
    rw [show (seqM s != q) = true by simpa using hne]
    rfl
def JM.up (J : JM) : JM := { J with ep := J.ep + 1 }
theorem Jt.found {D : DS} {J : JM} {K T : Int} (h : Jt D J K T 1) (_hT : T ≤ 1000) : loadE D J.at_ = 0 ∧ metaOk (loadB D J.at_) = true ∧ jMetaJ D J.at_ J.n = { J with held := [] } ∧ jOpenJ D J.at_ J.n = J.up := by
  have hq : ¬ (lastM D J.at_).q = 0 := by have := h.q.1; omega
  have hE : loadE D J.at_ = 0 := if_neg hq
  have hB : loadB D J.at_ = J.slot := (if_neg hq).trans h.b
  have hok := h.ok
  have he := h.e
  obtain ⟨m1, m2, m3, m4⟩ := meta_back (J := J) (by have := hok.f0; omega) hok.e0 hok.l0
  have hM : jMetaJ D J.at_ J.n = { J with held := [] } := by
    unfold jMetaJ
    rw [if_pos hE, hB, m1, m2, m3]
  refine ⟨hE, ?_, hM, ?_⟩
  · rw [hB]
    unfold metaOk
    rw [m1, m2, m3, m4]
    have := h.f.1
    have := h.c.le
    rw [decide_eq_true (by omega), decide_eq_true (by omega)]
    rfl
  · have hsc : ({ J with held := [] } : JM).scan D = J.held := by
      show scanL D J.at_ J.n J.first J.ep J.n J.low [] = J.held
      refine scan_all J.held h.h (fun low => ?_) J.held [] J.n J.low rfl hok.h0 h.c
      exact h.x.stop
    unfold jOpenJ jScanJ
    rw [hM, hsc]
    rfl
theorem JOk.up {J : JM} (h : JOk J) (he : J.ep ≤ 1000) : JOk J.up := ⟨h.a0, h.n0, h.f0, by show 0 ≤ J.ep + 1 ∧ J.ep + 1 < _; have := h.e0; omega, h.l0, h.h0, h.b0⟩

/-! ### the slot is saved anew -/
theorem Jt.reslot {D E : DS} {J J' : JM} {K T T' d d' p : Int} (h : Jt D J K T d) (ok' : JOk J') (ha : J'.at_ = J.at_) (hnn : J'.n = J.n) (hx : J'.next = J.next) (hep : J.ep ≤ J'.ep) (hd : J.ep + d ≤ J'.ep + d') (hT : J'.ep ≤ T')
    (hf : 1 ≤ J'.first ∧ J'.first + (J'.held.length : Nat) ≤ K) (hc : Chain J'.ep J'.low J'.held)
    (hh : ∀ (k : Nat) (x : RecJ), J'.held[k]? = some x → recM D (J'.at_ + 2 + (J'.first + (k : Nat)) % (J'.n : Nat)) = ⟨J'.first + (k : Nat), x.1, x.2, true⟩)
    (hn : E.n = D.n) (hs : SlotI E J.at_) (hl : lastM E J.at_ = ⟨p, (lastM D J.at_).q + 1, J'.slot⟩) (hr : ∀ j, j ≠ J.at_ → j ≠ J.at_ + 1 → E.read j = D.read j) : Jt E J' (K + 1) T' d' := by
  have hq := h.q
  refine ⟨ok', by rw [ha, hnn, hn]; exact h.r, by rw [ha]; exact hs, ?_, by rw [ha, hl], ⟨hf.1, by omega⟩, hT, hc, fun k x hk => ?_, fun i hi hne => ?_, ?_⟩
  · rw [ha, hl]
    show 1 ≤ (lastM D J.at_).q + 1 ∧ (lastM D J.at_).q + 1 ≤ K + 1
    omega
  · have := ring_in ok' (J'.first + (k : Nat))
    rw [recM_eq (hr _ (by omega) (by omega))]
    exact hh k x hk
  · rw [hx, hnn] at hne
    rw [hnn] at hi
    rw [hx, ha, hr _ (by omega) (by omega)]
    exact (h.o i hi hne).mono (Int.le_refl _) hep
  · have e : J'.sec J'.next = J.sec J.next := by unfold JM.sec; rw [hx, ha, hnn]
    have := ring_in h.ok J.next
    have hs : J.sec J.next = J.at_ + 2 + J.next % (J.n : Nat) := rfl
    rw [e, hx, hr _ (by omega) (by omega)]
    exact h.x.mono hd
theorem JM.trim_next (J : JM) : J.trim.next = J.next := by
  show J.first + (J.held.length : Nat) + ((0 : Nat) : Int) = J.first + (J.held.length : Nat)
  omega
/-- what a trim of all may leave -/
theorem Jt.trimS {D : DS} {J : JM} {K T : Int} (h : Jt D J K T 0) (hD : Calm D) (hK : K ≤ 4000000000) :
    (saveE D J.at_ J.trim.slot = 0 ∧ Calm (saveD D J.at_ J.trim.slot) ∧ (saveD D J.at_ J.trim.slot).n = D.n ∧ Jt (saveD D J.at_ J.trim.slot) J.trim (K + 1) T 0 ∧ ∀ j, j ≠ J.at_ → j ≠ J.at_ + 1 → (saveD D J.at_ J.trim.slot).read j = D.read j) ∨
    (saveE D J.at_ J.trim.slot = 43 ∧ Dead (saveD D J.at_ J.trim.slot) (fun E => E.n = D.n ∧ (Jt E J.trim (K + 1) T 0 ∨ Jt E J K T 0) ∧ ∀ j, j ≠ J.at_ → j ≠ J.at_ + 1 → E.read j = D.read j)) := by
  have hN := h.ok.n0
  have hA := h.ok.a0
  have hr0 := h.r
  have hf := h.f
  have mk : ∀ (E : DS) (p : Int), E.n = D.n → SlotI E J.at_ → lastM E J.at_ = ⟨p, (lastM D J.at_).q + 1, J.trim.slot⟩ → (∀ j, j ≠ J.at_ → j ≠ J.at_ + 1 → E.read j = D.read j) → Jt E J.trim (K + 1) T 0 := fun E p hn hs hl hr =>
    h.reslot (J' := J.trim) (h.ok.trim (by omega)) rfl rfl J.trim_next (Int.le_refl _) (Int.le_refl _) h.e ⟨by show 1 ≤ J.first + _; omega, by show J.first + (J.held.length : Nat) + ((0 : Nat) : Int) ≤ K; omega⟩ h.c.last (fun k x hk => by simp [JM.trim] at hk) hn hs hl hr
  rcases hD.save (a := J.at_) (b := J.trim.slot) (by omega) (by rw [JM.slot_len]; omega) J.trim.slot_bytes h.s (by have := h.q; omega) with ⟨s1, s2, s3, s4, s5, s6⟩ | ⟨s1, s2⟩
  · exact .inl ⟨s1, s2, s3, mk _ _ s3 s5 s4 s6, s6⟩
  · refine .inr ⟨s1, s2.mono (fun E _ _ ⟨t1, t2, t3, t4⟩ => ⟨t1, ?_, t4⟩)⟩
    rcases t2 with t2 | t2
    · exact .inl (mk _ _ t1 t3 t2 t4)
    · refine .inr ⟨h.ok, by rw [t1]; exact h.r, t3, by rw [t2]; exact h.q, by rw [t2]; exact h.b, h.f, h.e, h.c, fun k x hk => ?_, fun i hi hne => ?_, ?_⟩
      · have := ring_in h.ok (J.first + (k : Nat))
        rw [recM_eq (t4 _ (by omega) (by omega))]
        exact h.h k x hk
      · rw [t4 _ (by omega) (by omega)]
        exact h.o i hi hne
      · have := ring_in h.ok J.next
        have hs : J.sec J.next = J.at_ + 2 + J.next % (J.n : Nat) := rfl
        rw [t4 _ (by omega) (by omega)]
        exact h.x

/-! ### a record is appended -/
theorem mod_ne {n : Nat} {q : Int} {k m : Nat} (hk : k < m) (_hm : m ≤ n) (_hn : 1 ≤ n) (h : (q + (k : Nat)) % (n : Int) = (q + (m : Nat)) % (n : Int)) : k = 0 ∧ m = n ∨ (m - k) % n = 0 := by
  refine .inr ?_
  have h1 : ((q + (m : Nat)) - (q + (k : Nat))) % (n : Int) = 0 := by
    rw [Int.sub_emod, h, Int.sub_self, Int.zero_emod]
  have h2 : (q + ((m : Nat) : Int)) - (q + (k : Nat)) = ((m - k : Nat) : Int) := by omega
  rw [h2] at h1
  omega
/-- a held record's sector is not the next one's, while there is room -/
theorem Jt.apart {D : DS} {J : JM} {K T d : Int} (h : Jt D J K T d) (hlt : J.held.length < J.n) {k : Nat} (hk : k < J.held.length) : (J.first + (k : Nat)) % (J.n : Int) ≠ J.next % (J.n : Int) := by
  intro he
  have hN := h.ok.n0
  have he : (J.first + (k : Nat)) % (J.n : Int) = (J.first + (J.held.length : Nat)) % (J.n : Int) := he
  rcases mod_ne (q := J.first) hk (Nat.le_of_lt hlt) (by omega) he with h1 | h1
  · omega
  · have : (J.held.length - k) % J.n = J.held.length - k := Nat.mod_eq_of_lt (by omega)
    omega
theorem JOk.app {J : JM} (h : JOk J) {b : List Int} (hl : b.length ≤ 43) (hb : Bytes b) (hlt : J.held.length < J.n) : JOk (J.app b) := by
  refine ⟨h.a0, h.n0, h.f0, h.e0, h.l0, ?_, fun x hx => ?_⟩
  · show (J.held ++ [(J.ep, b)]).length ≤ J.n
    rw [List.length_append]
    exact hlt
  · rcases List.mem_append.1 hx with hx | hx
    · exact h.b0 x hx
    · rw [List.mem_singleton.1 hx]
      exact ⟨hl, hb, h.e0⟩
theorem JM.app_next (J : JM) (b : List Int) : (J.app b).next = J.next + 1 := by
  show J.first + ((J.held ++ [(J.ep, b)]).length : Nat) = J.first + (J.held.length : Nat) + 1
  rw [List.length_append]
  show J.first + ((J.held.length + 1 : Nat) : Int) = _
  omega
/-- the record stands there -/
theorem Jt.appNew {D E : DS} {J : JM} {K T : Int} (h : Jt D J K T 0) (hD : Calm D) {b : List Int} (hl : b.length ≤ 43) (hb : Bytes b) (hlt : J.held.length < J.n) (hK : K < 4294967290) (hn : E.n = D.n)
    (hr : ∀ j, 0 ≤ j → E.read j = if j = J.sec J.next then stampM J.next J.ep b else D.read j) : Jt E (J.app b) (K + 1) T 0 := by
  have hN := h.ok.n0
  have hA := h.ok.a0
  have hr0 := h.r
  have hf := h.f
  have he0 := h.ok.e0
  have hnx : J.next = J.first + (J.held.length : Nat) := rfl
  have hi := ring_in h.ok J.next
  have hs : J.sec J.next = J.at_ + 2 + J.next % (J.n : Nat) := rfl
  have r0 := (hr J.at_ (by omega)).trans (if_neg (by omega))
  have r1 := (hr (J.at_ + 1) (by omega)).trans (if_neg (by omega))
  have hla := lastM_same r0 r1
  obtain ⟨f0, f1, f2, f3, f4⟩ := stamp_flds (q := J.next) (e := J.ep) (b := b) (by omega) he0 hl
  have hbel : ∀ i : Nat, i < J.n → Below (J.next + 1) J.ep (E.read (J.at_ + 2 + (i : Nat))) := by
    intro i hi2
    rw [hr _ (by omega)]
    by_cases hc : J.at_ + 2 + ((i : Nat) : Int) = J.sec J.next
    · rw [if_pos hc]
      exact ⟨by omega, by omega, by omega, by omega⟩
    · rw [if_neg hc]
      exact (h.o i hi2 (by omega)).mono (by omega) (Int.le_refl _)
  refine ⟨h.ok.app hl hb hlt, by rw [hn]; exact h.r, h.s.same r0 r1, ?_, ?_, ⟨hf.1, ?_⟩, h.e, h.c.app b, fun k x hk => ?_, fun i hi2 _ => ?_, ?_⟩
  · show 1 ≤ (lastM E J.at_).q ∧ (lastM E J.at_).q ≤ K + 1
    rw [hla]
    have := h.q
    omega
  · show (lastM E J.at_).b = J.slot
    rw [hla]
    exact h.b
  · show J.first + ((J.held ++ [(J.ep, b)]).length : Nat) ≤ K + 1
    rw [List.length_append]
    show J.first + ((J.held.length + 1 : Nat) : Int) ≤ K + 1
    omega
  · have hk : (J.held ++ [(J.ep, b)])[k]? = some x := hk
    show recM E (J.at_ + 2 + (J.first + (k : Nat)) % (J.n : Nat)) = _
    have hri := ring_in h.ok (J.first + (k : Nat))
    by_cases hkl : k < J.held.length
    · rw [List.getElem?_append_left hkl] at hk
      have hne := h.apart hlt hkl
      rw [recM_eq ((hr _ (by omega)).trans (if_neg (by omega)))]
      exact h.h k x hk
    · rw [List.getElem?_append_right (by omega)] at hk
      have hk0 : k - J.held.length = 0 := by
        rcases Nat.eq_zero_or_pos (k - J.held.length) with h1 | h1
        · exact h1
        · rw [List.getElem?_eq_none (by simp; omega)] at hk; cases hk
      obtain rfl : k = J.held.length := by omega
      rw [Nat.sub_self] at hk
      obtain rfl : (J.ep, b) = x := Option.some.inj hk
      unfold recM
      rw [hr _ (by omega)]
      rw [if_pos (by rw [hs]; rfl)]
      exact parse_stamp (by omega) he0 hl
  · rw [JM.app_next]
    exact hbel i hi2
  · have e : (J.app b).sec (J.app b).next = J.at_ + 2 + (J.next + 1) % (J.n : Nat) := by unfold JM.sec; rw [JM.app_next]; rfl
    have hri := ring_in h.ok (J.next + 1)
    rw [e, JM.app_next]
    obtain ⟨i, hi3⟩ : ∃ i : Nat, ((i : Nat) : Int) = (J.next + 1) % (J.n : Nat) := ⟨((J.next + 1) % (J.n : Nat)).toNat, by omega⟩
    rw [← hi3]
    have hb2 := hbel i (by omega)
    have hEl : (E.read (J.at_ + 2 + (i : Nat))).length = 64 ∧ Bytes (E.read (J.at_ + 2 + (i : Nat))) := by
      rw [hr _ (by omega)]
      split
      · exact ⟨stampM_length _ _ hl, stampM_bytes _ _ hb⟩
      · exact ⟨read_len hD.db.ok (by omega) (by omega), DS.read_bytes hD.db.b _⟩
    show NextOk (J.next + 1) (J.ep + 0) _
    rw [Int.add_zero]
    exact hb2.next hEl.1 hEl.2 (Int.le_refl _)
/-- a torn one stands there, that tells nothing -/
theorem Jt.appOld {D E : DS} {J : JM} {K T : Int} {t : List Int} (h : Jt D J K T 0) (hlt : J.held.length < J.n) (hn : E.n = D.n) (ht : NextOk J.next (J.ep + 1) t)
    (hr : ∀ j, 0 ≤ j → E.read j = if j = J.sec J.next then t else D.read j) : Jt E J K T 1 := by
  have hN := h.ok.n0
  have hA := h.ok.a0
  have hr0 := h.r
  have hi := ring_in h.ok J.next
  have hs : J.sec J.next = J.at_ + 2 + J.next % (J.n : Nat) := rfl
  have r0 := (hr J.at_ (by omega)).trans (if_neg (by omega))
  have r1 := (hr (J.at_ + 1) (by omega)).trans (if_neg (by omega))
  have hla := lastM_same r0 r1
  refine ⟨h.ok, by rw [hn]; exact h.r, h.s.same r0 r1, by rw [hla]; exact h.q, by rw [hla]; exact h.b, h.f, h.e, h.c, fun k x hk => ?_, fun i hi2 hne => ?_, ?_⟩
  · have hri := ring_in h.ok (J.first + (k : Nat))
    have hne := h.apart hlt (List.getElem?_eq_some_iff.1 hk).1
    rw [recM_eq ((hr _ (by omega)).trans (if_neg (by omega)))]
    exact h.h k x hk
  · rw [hr _ (by omega), if_neg (by omega)]
    exact h.o i hi2 hne
  · rw [hr _ (by omega), if_pos rfl]
    exact ht
/-- what an append, and its sync, may leave -/
theorem Jt.appS {D : DS} {J : JM} {K T : Int} (h : Jt D J K T 0) (hD : Calm D) {b : List Int} (hl : b.length ≤ 43) (hb : Bytes b) (hlt : J.held.length < J.n) (hK : K < 4294967290) (hT : T < 256) :
    (apE D J b = 0 ∧ Calm (apD D J b) ∧ (apD D J b).n = D.n ∧ Jt (apD D J b) (J.app b) (K + 1) T 0 ∧ ∀ j, j < J.at_ + 2 → (apD D J b).read j = D.read j) ∨
    (apE D J b = 43 ∧ Dead (apD D J b) (fun E => E.n = D.n ∧ (Jt E (J.app b) (K + 1) T 1 ∨ Jt E J K T 1) ∧ ∀ j, j < J.at_ + 2 → E.read j = D.read j)) := by
  have hN := h.ok.n0
  have hA := h.ok.a0
  have hr0 := h.r
  have hf := h.f
  have he0 := h.ok.e0
  have he := h.e
  have hnx : J.next = J.first + (J.held.length : Nat) := rfl
  have hi := ring_in h.ok J.next
  have hs : J.sec J.next = J.at_ + 2 + J.next % (J.n : Nat) := rfl
  have hsl : (stampM J.next J.ep b).length = 64 := stampM_length _ _ hl
  have hneg : ∀ (E : DS) (j : Int), j < 0 → E.n = D.n → E.read j = D.read j := fun E j hj hn => by unfold DS.read; rw [if_pos (by omega), if_pos (by omega)]
  have far : ∀ (E : DS) (t : List Int), E.n = D.n → (∀ j, 0 ≤ j → E.read j = if j = J.sec J.next then t else D.read j) → ∀ j, j < J.at_ + 2 → E.read j = D.read j := by
    intro E t hn hr j hj
    by_cases h0 : 0 ≤ j
    · rw [hr j h0, if_neg (by omega)]
    · exact hneg E j (by omega) hn
  rcases hD.one (i := J.sec J.next) (b := stampM J.next J.ep b) (by omega) (by omega) hsl (stampM_bytes _ _ hb) with ⟨w1, w⟩ | ⟨w1, w2⟩
  · have e0 : J.appE D b = 0 := w1
    have e1 : apD D J b = (D.write (J.sec J.next) (stampM J.next J.ep b)).sync := if_pos e0
    rcases w with ⟨g1, g2, g3⟩ | g
    · refine .inl ⟨?_, by rw [e1]; exact g1, by rw [e1]; exact g2, by rw [e1]; exact h.appNew hD hl hb hlt hK g2 g3, by rw [e1]; exact far _ _ g2 g3⟩
      unfold apE
      rw [e1, g1.dn]
      exact e0
    · refine .inr ⟨?_, ?_⟩
      · unfold apE
        rw [e1, g.dn]
        rfl
      · rw [e1]
        refine g.mono (fun E _ _ ⟨t1, p, hp, t2⟩ => ⟨t1, ?_, far _ _ t1 t2⟩)
        rcases torn_ring (q := J.next) (e := J.ep) (b := b) (s := D.read (J.sec J.next)) (p := p) (by omega) (by omega) hl hb hp (by have := h.x; rw [Int.add_zero] at this; exact this) with ht | ht
        · rw [ht] at t2
          exact .inl (h.appNew hD hl hb hlt hK t1 t2).rest
        · exact .inr (h.appOld hlt t1 ht t2)
  · have e0 : J.appE D b = 43 := w1
    have e00 : ¬ J.appE D b = 0 := by rw [e0]; decide
    have e1 : apD D J b = D.write (J.sec J.next) (stampM J.next J.ep b) := if_neg e00
    refine .inr ⟨?_, ?_⟩
    · unfold apE
      rw [e1, w2.dn]
      rfl
    · rw [e1]
      exact w2.mono (fun E _ _ ⟨t1, t2⟩ => ⟨t1, .inr (h.alike t1 (fun j _ _ => t2 j)).rest, fun j _ => t2 j⟩)
end Go.Proofs.YtpaelngpmbeedaaGreatDoor
