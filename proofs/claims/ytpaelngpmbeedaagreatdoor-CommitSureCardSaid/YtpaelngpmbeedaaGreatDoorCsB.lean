/- A disk with a fuse, and its crash; a slot's save on it (plain). -/
import Derived.Test.YtpaelngpmbeedaaGreatDoorCsA
namespace Go.Proofs.YtpaelngpmbeedaaGreatDoor

/-! ### sectors -/
def sec (s : List Int) (j : Nat) : List Int := (s.drop (j * 64)).take 64
theorem sec_len {s : List Int} {j : Nat} (h : j * 64 + 64 ≤ s.length) : (sec s j).length = 64 := by
  unfold sec
  rw [List.length_take, List.length_drop]
  omega
theorem sec_bytes {s : List Int} (h : Bytes s) (j : Nat) : Bytes (sec s j) := (h.drop _).take _
/-- a beginning of a sector is written -/
theorem at_part {s v : List Int} {i : Nat} (j : Nat) (hv : v.length ≤ 64) (hs : i * 64 + 64 ≤ s.length) : sec (splice s (i * 64) v) j = if j = i then v ++ (sec s i).drop v.length else sec s j := by
  unfold sec
  apply List.ext_getElem?
  intro k
  rw [List.getElem?_take]
  by_cases hk : k < 64
  · rw [if_pos hk, List.getElem?_drop, splice_getJ _ _ _ _ (by omega)]
    by_cases hij : j = i
    · subst hij
      rw [if_pos rfl]
      by_cases h1 : k < v.length
      · rw [if_pos (by omega), List.getElem?_append_left h1, Nat.add_sub_cancel_left]
      · rw [if_neg (by omega), List.getElem?_append_right (by omega), List.getElem?_drop, List.getElem?_take, if_pos (by omega), List.getElem?_drop]
        congr 1
        omega
    · rw [if_neg (by omega), if_neg hij, List.getElem?_take, if_pos hk, List.getElem?_drop]
  · rw [if_neg hk]
    split
    · rw [List.getElem?_eq_none (by rw [List.length_append, List.length_drop, List.length_take]; omega)]
    · rw [List.getElem?_eq_none (by rw [List.length_take]; omega)]
theorem tear_far (picks : List Int) {j : Nat} : ∀ (l : List (Nat × List Int)) (s : List Int) (k : Nat), (∀ p ∈ l, p.1 * 64 + 64 ≤ s.length ∧ p.2.length = 64) → (∀ p ∈ l, p.1 ≠ j) → sec (tear picks s k l) j = sec s j
  | [], _, _, _, _ => rfl
  | p :: r, s, k, h, hj => by
    have h1 := h p List.mem_cons_self
    have hl : (p.2.take (keeps picks k)).length ≤ 64 := by rw [List.length_take]; omega
    have hsl : (splice s (p.1 * 64) (p.2.take (keeps picks k))).length = s.length := splice_length _ _ _ (by omega)
    show sec (tear picks (splice s (p.1 * 64) (p.2.take (keeps picks k))) (k + 1) r) j = _
    rw [tear_far picks r _ (k + 1) (fun q hq => by rw [hsl]; exact h q (List.mem_cons_of_mem _ hq)) (fun q hq => hj q (List.mem_cons_of_mem _ hq)), at_part j hl h1.1, if_neg (fun e => hj p List.mem_cons_self e.symm)]
theorem tear_one (picks : List Int) {s b : List Int} {i : Nat} (j : Nat) (hs : i * 64 + 64 ≤ s.length) (hb : b.length = 64) : sec (tear picks s 0 [(i, b)]) j = if j = i then torn b (sec s i) (keeps picks 0) else sec s j := by
  show sec (splice s (i * 64) (b.take (keeps picks 0))) j = _
  have hk := keeps_le picks 0
  rw [at_part j (by rw [List.length_take]; omega) hs, List.length_take, hb, Nat.min_eq_left hk]
  rfl

/-! ### disks -/
structure DB (D : DS) : Prop where
  ok : D.ok
  b : Bytes D.seen
  u : Bytes D.sure
  p : ∀ x ∈ D.pend, Bytes x.2
  so : D.seen = onto D.sure D.pend
theorem onto_bytes : ∀ (l : List (Nat × List Int)) (s : List Int), Bytes s → (∀ x ∈ l, Bytes x.2) → Bytes (onto s l)
  | [], _, h, _ => h
  | p :: r, _, h, hl => onto_bytes r _ (splice_bytes h (hl p List.mem_cons_self)) (fun q hq => hl q (List.mem_cons_of_mem _ hq))
theorem tear_bytes (picks : List Int) : ∀ (l : List (Nat × List Int)) (s : List Int) (k : Nat), Bytes s → (∀ x ∈ l, Bytes x.2) → Bytes (tear picks s k l)
  | [], _, _, h, _ => h
  | p :: r, _, _, h, hl => tear_bytes picks r _ _ (splice_bytes h ((hl p List.mem_cons_self).take _)) (fun q hq => hl q (List.mem_cons_of_mem _ hq))
theorem DB.after {D : DS} (h : DB D) : DB D.after := ⟨h.ok.after, h.b, h.u, h.p, h.so⟩
theorem full_bytes {b : List Int} (h : Bytes b) : Bytes (full b) := h.append (zeros_bytes _)
theorem DB.put {D : DS} (h : DB D) {i : Nat} {b : List Int} (hi : i < D.n) (hb : b.length ≤ 64) (hbb : Bytes b) : DB (D.put i b) := by
  refine ⟨h.ok.put i b hi hb, splice_bytes h.b (full_bytes hbb), h.u, fun x hx => ?_, ?_⟩
  · rcases List.mem_append.1 hx with hx | hx
    · exact h.p x hx
    · rw [List.mem_singleton.1 hx]; exact full_bytes hbb
  · show splice D.seen (i * 64) (full b) = onto D.sure (D.pend ++ [(i, full b)])
    rw [onto_append, ← h.so]
    rfl
theorem DB.sync {D : DS} (h : DB D) : DB D.sync := by
  have hk := h.ok.sync
  unfold DS.sync at hk ⊢
  split
  · rename_i hg
    rw [if_pos hg] at hk
    exact ⟨hk, h.b, onto_bytes _ _ h.u h.p, fun x hx => absurd hx List.not_mem_nil, h.so⟩
  · exact h.after

structure Calm (D : DS) : Prop where
  db : DB D
  dn : D.down = false
  pn : D.pend = []
theorem Calm.su {D : DS} (h : Calm D) : D.sure = D.seen := by
  have := h.db.so
  rw [h.pn] at this
  exact this.symm
theorem Calm.dsok {D : DS} (h : Calm D) (k : Nat) : DsOk D k := ⟨h.db.ok, h.db.b, by rw [h.pn]; exact Nat.zero_le _⟩
theorem DB.crash {D : DS} (h : DB D) (picks : List Int) : Calm (D.crash picks) ∧ Live (D.crash picks) := by
  have hk := h.ok.crash picks
  have hb := tear_bytes picks D.pend D.sure 0 h.u h.p
  exact ⟨⟨⟨hk, hb, hb, fun x hx => absurd hx List.not_mem_nil, rfl⟩, rfl, rfl⟩, ⟨hk, rfl, rfl⟩⟩
theorem read_eq {D E : DS} (hn : E.n = D.n) {j : Int} (h : 0 ≤ j → j < (D.n : Int) → sec E.seen j.toNat = sec D.seen j.toNat) : E.read j = D.read j := by
  unfold DS.read
  rw [hn]
  split
  · rfl
  · exact h (by omega) (by omega)
theorem read_in {D : DS} {j : Int} (h0 : 0 ≤ j) (h1 : j < (D.n : Int)) : D.read j = sec D.seen j.toNat := if_neg (by omega)
theorem read_len {D : DS} (h : D.ok) {j : Int} (h0 : 0 ≤ j) (h1 : j < (D.n : Int)) : (D.read j).length = 64 := by
  rw [read_in h0 h1]
  have := h.hs
  exact sec_len (by omega)
theorem Calm.crash_read {D : DS} (h : Calm D) (picks : List Int) (j : Int) : (D.crash picks).read j = D.read j := by
  refine read_eq (D := D) (E := D.crash picks) (j := j) rfl (fun _ _ => ?_)
  show sec (tear picks D.sure 0 D.pend) _ = _
  rw [h.pn, h.su]
  rfl

/-- a disk that is down: what any crash makes of it -/
structure Dead (D : DS) (P : DS → Prop) : Prop where
  db : DB D
  dn : D.down = true
  cr : ∀ picks, P (D.crash picks)
theorem Dead.mono {D : DS} {P Q : DS → Prop} (h : Dead D P) (hq : ∀ E, Calm E → Live E → P E → Q E) : Dead D Q := ⟨h.db, h.dn, fun p => hq _ (h.db.crash p).1 (h.db.crash p).2 (h.cr p)⟩
theorem Dead.goes {D : DS} {P : DS → Prop} (h : Dead D P) : D.goes = false := by unfold DS.goes; rw [h.dn]; rfl
theorem Dead.after {D : DS} {P : DS → Prop} (h : Dead D P) : Dead D.after P := ⟨h.db.after, by show (D.down || _) = true; rw [h.dn]; rfl, h.cr⟩
theorem Dead.sync {D : DS} {P : DS → Prop} (h : Dead D P) : Dead D.sync P := by
  have : D.sync = D.after := by unfold DS.sync; rw [h.goes]; rfl
  rw [this]
  exact h.after
theorem Dead.write {D : DS} {P : DS → Prop} (h : Dead D P) {i : Int} {b : List Int} (h0 : 0 ≤ i) (hn : i < (D.n : Int)) (hb : b.length ≤ 64) : D.writeE i b = 43 ∧ Dead (D.write i b) P := by
  have h1 : ¬ (i < 0 ∨ (D.n : Int) ≤ i) := by omega
  have h2 : ¬ 64 < b.length := by omega
  have hg : ¬ D.goes = true := by rw [h.goes]; exact Bool.false_ne_true
  unfold DS.writeE DS.write
  rw [if_neg h1, if_neg h2, if_neg hg, if_neg h1, if_neg h2, if_neg hg]
  exact ⟨rfl, h.after⟩
theorem goes_or {D : DS} (h : D.down = false) : (D.goes = true ∧ D.after.down = false) ∨ (D.goes = false ∧ D.after.down = true) := by
  unfold DS.goes DS.after
  rw [h]
  show (!(false || D.fuse == 0)) = true ∧ (false || D.fuse == 0) = false ∨ (!(false || D.fuse == 0)) = false ∧ (false || D.fuse == 0) = true
  cases D.fuse == 0
  · exact .inl ⟨rfl, rfl⟩
  · exact .inr ⟨rfl, rfl⟩

/-- a disk that is not down, some writes behind one at rest; all on sectors of A -/
structure Mid (D0 D : DS) (A : Nat → Prop) : Prop where
  db : DB D
  dn : D.down = false
  n : D.n = D0.n
  su : D.sure = D0.seen
  pa : ∀ x ∈ D.pend, A x.1
  rd : ∀ j : Int, 0 ≤ j → ¬ A j.toNat → D.read j = D0.read j
theorem Calm.mid {D : DS} (h : Calm D) (A : Nat → Prop) : Mid D D A := ⟨h.db, h.dn, rfl, h.su, fun x hx => by rw [h.pn] at hx; exact absurd hx List.not_mem_nil, fun _ _ _ => rfl⟩
/-- what a crash leaves of what lies apart -/
theorem Mid.far {D0 D : DS} {A : Nat → Prop} (h : Mid D0 D A) (picks : List Int) {j : Int} (_h0 : 0 ≤ j) (hj : ¬ A j.toNat) : (D.crash picks).read j = D0.read j := by
  refine read_eq (D := D0) (E := D.crash picks) (j := j) h.n (fun _ _ => ?_)
  show sec (tear picks D.sure 0 D.pend) _ = _
  have hu := h.db.ok.hu
  rw [tear_far picks (j := j.toNat) D.pend D.sure 0 (fun p hp => ⟨by have := (h.db.ok.hp p hp).1; rw [hu]; omega, (h.db.ok.hp p hp).2⟩) (fun p hp e => hj (by rw [← e]; exact h.pa p hp)), h.su]
theorem Mid.dead {D0 D : DS} {A : Nat → Prop} (h : Mid D0 D A) (hd : D.after.down = true) : Dead D.after (fun E => E.n = D0.n ∧ ∀ j : Int, 0 ≤ j → ¬ A j.toNat → E.read j = D0.read j) :=
  ⟨h.db.after, hd, fun p => ⟨h.n, fun _ h0 hj => h.far p h0 hj⟩⟩
theorem Mid.write {D0 D : DS} {A : Nat → Prop} (h : Mid D0 D A) {i : Int} {b : List Int} (h0 : 0 ≤ i) (hn : i < (D0.n : Int)) (hA : A i.toNat) (hb : b.length ≤ 64) (hbb : Bytes b) :
    (D.writeE i b = 0 ∧ Mid D0 (D.write i b) A ∧ (D.write i b).pend = D.pend ++ [(i.toNat, full b)] ∧ ∀ j, 0 ≤ j → (D.write i b).read j = if j = i then full b else D.read j) ∨
    (D.writeE i b = 43 ∧ Dead (D.write i b) (fun E => E.n = D0.n ∧ ∀ j : Int, 0 ≤ j → ¬ A j.toNat → E.read j = D0.read j)) := by
  have hn' := h.n
  have h1 : ¬ (i < 0 ∨ (D.n : Int) ≤ i) := by omega
  have h2 : ¬ 64 < b.length := by omega
  unfold DS.writeE DS.write
  rw [if_neg h1, if_neg h2, if_neg h1, if_neg h2]
  rcases goes_or h.dn with ⟨hg, hd⟩ | ⟨hg, hd⟩
  · refine .inl ?_
    rw [if_pos hg, if_pos hg]
    have hs := h.db.ok.hs
    have hrd : ∀ j, 0 ≤ j → (D.after.put i.toNat b).read j = if j = i then full b else D.read j := by
      intro j hj0
      unfold DS.read
      show (if j < 0 ∨ (D.n : Int) ≤ j then [] else _) = _
      by_cases hj : j < 0 ∨ (D.n : Int) ≤ j
      · rw [if_pos hj, if_pos hj, if_neg (by omega)]
      · rw [if_neg hj, if_neg hj]
        show sec (splice D.seen (i.toNat * 64) (full b)) j.toNat = _
        have hf := full_length hb
        rw [at_part _ (by omega) (by omega)]
        by_cases hij : j = i
        · rw [if_pos hij, if_pos (by rw [hij]), hf, List.drop_eq_nil_of_le (by rw [sec_len (by omega)]; omega), List.append_nil]
        · rw [if_neg hij, if_neg (by omega)]
          rfl
    refine ⟨rfl, ⟨h.db.after.put (by show i.toNat < D.n; omega) hb hbb, hd, h.n, h.su, fun x hx => ?_, fun j hj0 hj => ?_⟩, rfl, hrd⟩
    · rcases List.mem_append.1 hx with hx | hx
      · exact h.pa x hx
      · rw [List.mem_singleton.1 hx]; exact hA
    · have hne : ¬ j = i := fun e => hj (by rw [e]; exact hA)
      rw [hrd j hj0, if_neg hne]
      exact h.rd j hj0 hj
  · have hg : ¬ D.goes = true := by rw [hg]; exact Bool.false_ne_true
    rw [if_neg hg, if_neg hg]
    exact .inr ⟨rfl, h.dead hd⟩
theorem Mid.sync {D0 D : DS} {A : Nat → Prop} (h : Mid D0 D A) :
    (Calm D.sync ∧ D.sync.n = D0.n ∧ ∀ j, D.sync.read j = D.read j) ∨ Dead D.sync (fun E => E.n = D0.n ∧ ∀ j : Int, 0 ≤ j → ¬ A j.toNat → E.read j = D0.read j) := by
  rcases goes_or h.dn with ⟨hg, hd⟩ | ⟨hg, hd⟩
  · have e : D.sync = { D.after with sure := onto D.sure D.pend, pend := [] } := by unfold DS.sync; rw [if_pos hg]
    refine .inl ⟨⟨h.db.sync, by rw [e]; exact hd, by rw [e]⟩, by rw [e]; exact h.n, fun j => by rw [e]; rfl⟩
  · have e : D.sync = D.after := by unfold DS.sync; rw [hg]; rfl
    rw [e]
    exact .inr (h.dead hd)
/-- one write, that is not synced: a crash tears it -/
theorem Calm.one {D : DS} (h : Calm D) {i : Int} {b : List Int} (h0 : 0 ≤ i) (hn : i < (D.n : Int)) (hb : b.length = 64) (hbb : Bytes b) :
    ((D.writeE i b = 0) ∧ ((Calm (D.write i b).sync ∧ (D.write i b).sync.n = D.n ∧ ∀ j, 0 ≤ j → (D.write i b).sync.read j = if j = i then b else D.read j) ∨
      Dead (D.write i b).sync (fun E => E.n = D.n ∧ ∃ p, p ≤ 64 ∧ ∀ j, 0 ≤ j → E.read j = if j = i then torn b (D.read i) p else D.read j))) ∨
    (D.writeE i b = 43 ∧ Dead (D.write i b) (fun E => E.n = D.n ∧ ∀ j, E.read j = D.read j)) := by
  rcases (h.mid (fun k => k = i.toNat)).write h0 hn rfl (by omega) hbb with ⟨w1, w2, w3, w4⟩ | ⟨w1, w2⟩
  · refine .inl ⟨w1, ?_⟩
    rw [full_of hb] at w3
    have w4 : ∀ j, 0 ≤ j → (D.write i b).read j = if j = i then b else D.read j := fun j hj => by rw [w4 j hj, full_of hb]
    rcases w2.sync with ⟨s1, s2, s3⟩ | s
    · exact .inl ⟨s1, s2, fun j hj => (s3 j).trans (w4 j hj)⟩
    · refine .inr ⟨s.db, s.dn, fun picks => ⟨?_, keeps picks 0, keeps_le _ _, fun j hj => ?_⟩⟩
      · exact (s.cr picks).1
      · by_cases hji : j = i
        · subst hji
          rw [if_pos rfl]
          have hc : (D.write j b).sync.crash picks = (D.write j b).crash picks := by
            have hg : (D.write j b).goes = false := by
              cases hg : (D.write j b).goes with
              | false => rfl
              | true =>
                have h2 := s.dn
                unfold DS.sync at h2
                rw [if_pos hg] at h2
                have h3 : (D.write j b).after.down = true := h2
                rcases goes_or w2.dn with ⟨_, h4⟩ | ⟨h4, _⟩
                · rw [h4] at h3; cases h3
                · rw [h4] at hg; cases hg
            have e : (D.write j b).sync = (D.write j b).after := by unfold DS.sync; rw [hg]; rfl
            rw [e]
            rfl
          rw [hc, read_in (D := (D.write j b).crash picks) h0 (by show j < ((D.write j b).n : Int); rw [w2.n]; exact hn)]
          show sec (tear picks (D.write j b).sure 0 (D.write j b).pend) j.toNat = _
          rw [w3, h.pn, w2.su]
          have hs := h.db.ok.hs
          rw [List.nil_append, tear_one picks _ (by omega) hb, if_pos rfl, read_in h0 hn]
        · rw [if_neg hji]
          exact (s.cr picks).2 j hj (by omega)
  · refine .inr ⟨w1, w2.db, w2.dn, fun picks => ⟨(w2.cr picks).1, fun j => ?_⟩⟩
    have hd := w2.cr picks
    by_cases hj0 : 0 ≤ j
    · by_cases hji : j = i
      · subst hji
        have h1 : ¬ (j < 0 ∨ (D.n : Int) ≤ j) := by omega
        have h2 : ¬ 64 < b.length := by omega
        have hg : ¬ D.goes = true := by
          intro hg
          unfold DS.writeE at w1
          rw [if_neg h1, if_neg h2, if_pos hg] at w1
          cases w1
        have e : D.write j b = D.after := by unfold DS.write; rw [if_neg h1, if_neg h2, if_neg hg]
        rw [e]
        exact h.crash_read picks j
      · exact hd.2 j hj0 (by omega)
    · unfold DS.read
      rw [if_pos (by omega), if_pos (by omega)]

/-! ### a slot -/
structure SlotI (D : DS) (a : Int) : Prop where
  s : ∀ i, i = a ∨ i = a + 1 → (D.read i).length = 64 ∧ Bytes (D.read i) ∧ alsM (D.read i) = 0 ∧ agaM (D.read i) ≤ (lastM D a).q
  o : agaM (D.read (putI D a)) < (lastM D a).q ∨ agaM (D.read (putI D a)) = 0
theorem SlotI.tail {D : DS} {a : Int} (h : SlotI D a) : TailOk (lastM D a).q (D.read (putI D a)) := by
  obtain ⟨h1, h2, h3, _⟩ := h.s _ (putI_at D a)
  exact ⟨h1, h2, h3, h.o⟩
theorem SlotI.same {D E : DS} {a : Int} (h : SlotI D a) (h0 : E.read a = D.read a) (h1 : E.read (a + 1) = D.read (a + 1)) : SlotI E a := by
  have hl := lastM_same h0 h1
  have hp : putI E a = putI D a := by unfold putI; rw [hl]
  refine ⟨fun i hi => ?_, ?_⟩
  · rw [hl]
    rcases hi with rfl | rfl
    · rw [h0]; exact h.s _ (.inl rfl)
    · rw [h1]; exact h.s _ (.inr rfl)
  · rw [hp, hl]
    rcases putI_at D a with h2 | h2
    · rw [h2, h0]; have := h.o; rw [h2] at this; exact this
    · rw [h2, h1]; have := h.o; rw [h2] at this; exact this
/-- the next record stands there -/
theorem slot_new {D E : DS} {a : Int} {b : List Int} (hD : Bytes D.seen) (h : SlotI D a) (hq : (lastM D a).q < 4294967295) (hb : b.length ≤ 43) (hbb : Bytes b)
    (hr : ∀ j, E.read j = if j = putI D a then stampM ((lastM D a).q + 1) 0 b else D.read j) : lastM E a = ⟨putI D a, (lastM D a).q + 1, b⟩ ∧ SlotI E a := by
  have q0 := (lastM_q hD a).1
  have hl : lastM E a = ⟨putI D a, (lastM D a).q + 1, b⟩ := by
    refine last_put rfl q0 (fun j => ?_)
    unfold recM
    rw [hr j]
    split
    · exact parse_stamp (by omega) (by omega) hb
    · rfl
  obtain ⟨f0, f1, f2, f3, f4⟩ := stamp_flds (q := (lastM D a).q + 1) (e := 0) (b := b) (by omega) (by omega) hb
  have hpe : putI E a = (lastM D a).at_ := by
    unfold putI
    rw [hl]
    show 2 * a + 1 - (2 * a + 1 - (lastM D a).at_) = _
    omega
  refine ⟨hl, ⟨fun i hi => ?_, ?_⟩⟩
  · rw [hl, hr i]
    by_cases hp : i = putI D a
    · rw [if_pos hp]
      exact ⟨stampM_length _ _ hb, stampM_bytes _ _ hbb, f4, by rw [f3]; exact Int.le_refl _⟩
    · rw [if_neg hp]
      obtain ⟨h1, h2, h3, h4⟩ := h.s i hi
      exact ⟨h1, h2, h3, by show _ ≤ (lastM D a).q + 1; omega⟩
  · rw [hpe, hl, hr]
    have hne : (lastM D a).at_ ≠ putI D a := by unfold putI; have := lastTo_at D a 2 (by omega); have : (lastM D a).at_ = a ∨ (lastM D a).at_ = a + 1 := this; omega
    rw [if_neg hne]
    obtain ⟨_, _, _, h4⟩ := h.s _ (lastTo_at D a 2 (by omega))
    have h4 : agaM (D.read (lastM D a).at_) ≤ (lastM D a).q := h4
    exact .inl (by show _ < (lastM D a).q + 1; omega)
/-- a torn one stands there, that tells nothing -/
theorem slot_old {D E : DS} {a : Int} {t : List Int} (hD : Bytes D.seen) (h : SlotI D a) (ht : TailOk (lastM D a).q t)
    (hr : ∀ j, E.read j = if j = putI D a then t else D.read j) : lastM E a = lastM D a ∧ SlotI E a := by
  have q0 := (lastM_q hD a).1
  have htr : isRec (parseM t) = true → (parseM t).q < (lastM D a).q := fun hi => ht.rec_ (by unfold isRec at hi; simp only [Bool.and_eq_true] at hi; exact hi.1)
  have hl : lastM E a = lastM D a := by
    have hL := lastM_eq D a
    rw [lastM_eq E a]
    rcases putI_at D a with hp | hp
    · have e0 : recM E a = parseM t := by unfold recM; rw [hr a, if_pos hp.symm]
      have e1 : recM E (a + 1) = recM D (a + 1) := by unfold recM; rw [hr (a + 1), if_neg (by omega)]
      have hat : (lastM D a).at_ = a + 1 := by unfold putI at hp; omega
      obtain ⟨x, hx⟩ : ∃ x, x = pickM D a ⟨a + 1, 0, []⟩ := ⟨_, rfl⟩
      obtain ⟨y, hy⟩ : ∃ y, y = pickM E a ⟨a + 1, 0, []⟩ := ⟨_, rfl⟩
      rw [← hx] at hL
      rw [← hy]
      unfold pickM at hL ⊢
      rw [e1]
      by_cases hc : isRec (recM D (a + 1)) = true ∧ (recM D (a + 1)).q > x.q
      · rw [if_pos hc] at hL
        rw [hL, if_pos]
        refine ⟨hc.1, ?_⟩
        have hq : (lastM D a).q = (recM D (a + 1)).q := by rw [hL]
        rw [hy]
        unfold pickM
        rw [e0]
        split
        · rename_i h1
          have := htr h1.1
          show _ > (parseM t).q
          omega
        · show _ > (0 : Int)
          have hx0 : 0 ≤ x.q := by
            rw [hx]
            unfold pickM
            split
            · exact (parseM_range (DS.read_bytes hD a)).1
            · exact Int.le_refl _
          omega
      · rw [if_neg hc] at hL
        have hxa : x = ⟨a + 1, 0, []⟩ := by
          have h1 : x.at_ = a + 1 := by rw [← hL]; exact hat
          rw [hx] at h1 ⊢
          unfold pickM at h1 ⊢
          split at h1
          · have h1 : a = a + 1 := h1
            omega
          · rename_i h2
            rw [if_neg h2]
        have hql : (lastM D a).q = 0 := by rw [hL, hxa]
        have hyx : y = ⟨a + 1, 0, []⟩ := by
          rw [hy]
          unfold pickM
          rw [e0, if_neg]
          rintro ⟨h1, h2⟩
          have := htr h1
          have h2 : (parseM t).q > 0 := h2
          omega
        rw [hyx, hL, hxa, if_neg]
        rw [hxa] at hc
        exact hc
    · have e0 : recM E a = recM D a := by unfold recM; rw [hr a, if_neg (by omega)]
      have e1 : recM E (a + 1) = parseM t := by unfold recM; rw [hr (a + 1), if_pos hp.symm]
      have hat : (lastM D a).at_ = a := by unfold putI at hp; omega
      have hxe : pickM E a ⟨a + 1, 0, []⟩ = pickM D a ⟨a + 1, 0, []⟩ := by unfold pickM; rw [e0]
      rw [hxe]
      obtain ⟨x, hx⟩ : ∃ x, x = pickM D a ⟨a + 1, 0, []⟩ := ⟨_, rfl⟩
      rw [← hx] at hL ⊢
      have hLx : lastM D a = x := by
        rw [hL]
        unfold pickM
        refine if_neg (fun hc => ?_)
        rw [hL] at hat
        unfold pickM at hat
        rw [if_pos hc] at hat
        have hat : a + 1 = a := hat
        omega
      rw [hLx]
      unfold pickM
      rw [e1]
      refine if_neg (fun hc => ?_)
      have := htr hc.1
      rw [hLx] at this
      omega
  have hp : putI E a = putI D a := by unfold putI; rw [hl]
  refine ⟨hl, ⟨fun i hi => ?_, ?_⟩⟩
  · rw [hl, hr i]
    by_cases hpi : i = putI D a
    · rw [if_pos hpi]
      exact ⟨ht.1, ht.2.1, ht.2.2.1, by rcases ht.2.2.2 with h5 | h5 <;> omega⟩
    · rw [if_neg hpi]; exact h.s i hi
  · rw [hp, hl, hr, if_pos rfl]
    exact ht.2.2.2
/-- what a save may leave -/
theorem Calm.save {D : DS} (h : Calm D) {a : Int} {b : List Int} (ha : 0 ≤ a ∧ a + 1 < (D.n : Int)) (hl : b.length ≤ 43) (hb : Bytes b) (hs : SlotI D a) (hq : (lastM D a).q < 4294967295) :
    (saveE D a b = 0 ∧ Calm (saveD D a b) ∧ (saveD D a b).n = D.n ∧ lastM (saveD D a b) a = ⟨putI D a, (lastM D a).q + 1, b⟩ ∧ SlotI (saveD D a b) a ∧ ∀ j, j ≠ a → j ≠ a + 1 → (saveD D a b).read j = D.read j) ∨
    (saveE D a b = 43 ∧ Dead (saveD D a b) (fun E => E.n = D.n ∧ (lastM E a = ⟨putI D a, (lastM D a).q + 1, b⟩ ∨ lastM E a = lastM D a) ∧ SlotI E a ∧ ∀ j, j ≠ a → j ≠ a + 1 → E.read j = D.read j)) := by
  have q0 := (lastM_q h.db.b a).1
  have hlen : (putS D a b).length = 64 := stampM_length _ _ hl
  have hlb : Bytes (putS D a b) := stampM_bytes _ _ hb
  have hne : ¬ (lastM D a).q = 4294967295 := by omega
  have hI := putI_at D a
  have eE : putE D a b = D.sync.writeE (putI D a) (putS D a b) := if_neg hne
  have eD : putD D a b = D.sync.write (putI D a) (putS D a b) := if_neg hne
  have hneg : ∀ (E : DS) (j : Int), j < 0 → E.n = D.n → E.read j = D.read j := fun E j hj hn => by unfold DS.read; rw [if_pos (by omega), if_pos (by omega)]
  have dead0 : ∀ E : DS, E.n = D.n → (∀ j, 0 ≤ j → E.read j = D.read j) → E.n = D.n ∧ (lastM E a = ⟨putI D a, (lastM D a).q + 1, b⟩ ∨ lastM E a = lastM D a) ∧ SlotI E a ∧ ∀ j, j ≠ a → j ≠ a + 1 → E.read j = D.read j := by
    intro E hn hr
    have hr' : ∀ j, E.read j = D.read j := fun j => by
      by_cases hj : 0 ≤ j
      · exact hr j hj
      · exact hneg E j (by omega) hn
    exact ⟨hn, .inr (lastM_same (hr' _) (hr' _)), hs.same (hr' _) (hr' _), fun j _ _ => hr' j⟩
  rcases (h.mid (fun _ => False)).sync with ⟨c1, c2, c3⟩ | c
  · -- the first sync is done
    have hlast := lastM_same (c3 a) (c3 (a + 1))
    have hput : putI D.sync a = putI D a := by unfold putI; rw [hlast]
    rcases c1.one (i := putI D a) (b := putS D a b) (by omega) (by rw [c2]; omega) hlen hlb with ⟨w1, w⟩ | ⟨w1, w2⟩
    · have hE : putE D a b = 0 := eE.trans w1
      have hS : saveD D a b = (D.sync.write (putI D a) (putS D a b)).sync := (if_pos hE).trans (by rw [eD])
      have hSE : saveE D a b = if (D.sync.write (putI D a) (putS D a b)).sync.down = true then 43 else 0 := (if_pos hE).trans (by rw [eD])
      rcases w with ⟨g1, g2, g3⟩ | g
      · refine .inl ?_
        rw [hSE, hS, g1.dn]
        have hrd : ∀ j, (D.sync.write (putI D a) (putS D a b)).sync.read j = if j = putI D a then stampM ((lastM D a).q + 1) 0 b else D.read j := by
          intro j
          by_cases hj : 0 ≤ j
          · rw [g3 j hj]
            split
            · rfl
            · exact c3 j
          · rw [if_neg (by omega)]
            exact hneg _ j (by omega) (g2.trans c2)
        obtain ⟨n1, n2⟩ := slot_new h.db.b hs hq hl hb hrd
        exact ⟨rfl, g1, g2.trans c2, n1, n2, fun j h1 h2 => by rw [hrd j, if_neg (by omega)]⟩
      · refine .inr ?_
        rw [hSE, hS, g.dn]
        refine ⟨rfl, g.mono (fun E _ _ ⟨e1, p, hp, e2⟩ => ?_)⟩
        have hn := e1.trans c2
        rw [c3 (putI D a)] at e2
        have hrd : ∀ j, E.read j = if j = putI D a then torn (putS D a b) (D.read (putI D a)) p else D.read j := by
          intro j
          by_cases hj : 0 ≤ j
          · rw [e2 j hj]
            split
            · rfl
            · exact c3 j
          · rw [if_neg (by omega)]
            exact hneg _ j (by omega) hn
        rcases torn_slot (p := p) ⟨q0, hq⟩ hl hb hp hs.tail with ht | ht
        · have ht : torn (putS D a b) (D.read (putI D a)) p = stampM ((lastM D a).q + 1) 0 b := ht
          rw [ht] at hrd
          obtain ⟨n1, n2⟩ := slot_new h.db.b hs hq hl hb hrd
          exact ⟨hn, .inl n1, n2, fun j h1 h2 => by rw [hrd j, if_neg (by omega)]⟩
        · obtain ⟨n1, n2⟩ := slot_old h.db.b hs ht hrd
          exact ⟨hn, .inr n1, n2, fun j h1 h2 => by rw [hrd j, if_neg (by omega)]⟩
    · have hE : putE D a b = 43 := eE.trans w1
      have hE0 : ¬ putE D a b = 0 := by rw [hE]; decide
      refine .inr ⟨(if_neg hE0).trans hE, ?_⟩
      rw [show saveD D a b = D.sync.write (putI D a) (putS D a b) from (if_neg hE0).trans eD]
      exact w2.mono (fun E _ _ ⟨e1, e2⟩ => dead0 E (e1.trans c2) (fun j _ => (e2 j).trans (c3 j)))
  · have hn : D.sync.n = D.n := DS.sync_nV D
    obtain ⟨w1, w2⟩ := c.write (i := putI D a) (b := putS D a b) (by omega) (by rw [hn]; omega) (by omega)
    have hE : putE D a b = 43 := eE.trans w1
    have hE0 : ¬ putE D a b = 0 := by rw [hE]; decide
    refine .inr ⟨(if_neg hE0).trans hE, ?_⟩
    rw [show saveD D a b = D.sync.write (putI D a) (putS D a b) from (if_neg hE0).trans eD]
    exact w2.mono (fun E _ _ ⟨e1, e2⟩ => dead0 E e1 (fun j hj => e2 j hj (fun x => x)))
end Go.Proofs.YtpaelngpmbeedaaGreatDoor
