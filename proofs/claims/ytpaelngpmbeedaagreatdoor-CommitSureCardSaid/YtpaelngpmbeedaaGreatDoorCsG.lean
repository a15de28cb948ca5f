/- A disk without a fuse stays so; a server on it never goes down (plain). -/
import Derived.Test.YtpaelngpmbeedaaGreatDoorCsF
namespace Go.Proofs.YtpaelngpmbeedaaGreatDoor

def NF (D : DS) : Prop := D.fuse = -1 ∧ D.down = false
theorem NF.after {D : DS} (h : NF D) : D.after = D := by
  obtain ⟨n, se, su, pe, fu, dn⟩ := D
  have h1 : fu = -1 := h.1
  have h2 : dn = false := h.2
  subst h1; subst h2
  rfl
theorem NF.write {D : DS} (h : NF D) (i : Int) (b : List Int) : NF (D.write i b) := by
  unfold DS.write
  split; · exact h
  split; · exact h
  rw [h.after]
  split
  · exact h
  · exact h
theorem NF.sync {D : DS} (h : NF D) : NF D.sync := by
  unfold DS.sync
  rw [h.after]
  split
  · exact h
  · exact h
theorem NF.put {D : DS} (h : NF D) (a : Int) (b : List Int) : NF (putD D a b) := by
  unfold putD
  split
  · exact h
  · exact h.sync.write _ _
theorem NF.save {D : DS} (h : NF D) (a : Int) (b : List Int) : NF (saveD D a b) := by
  unfold saveD
  split
  · exact (h.put a b).sync
  · exact h.put a b
theorem NF.svs {D : DS} (h : NF D) (a ar nu : Int) (b : List Int) : ∀ j, NF (svGo D a ar nu b j).1
  | 0 => h
  | j + 1 => by
    by_cases h0 : (svGo D a ar nu b j).2 = 0
    · rw [svGo_go h0]
      exact (NF.svs h a ar nu b j).write _ _
    · rw [svGo_stop h0 1]
      exact NF.svs h a ar nu b j
theorem NF.vSave {D : DS} (h : NF D) (a : Int) (b : List Int) : NF (vSaveD D a b) := by
  unfold vSaveD
  split
  · exact h
  · split
    · exact (NF.svs h _ _ _ _ _).sync.save _ _
    · exact NF.svs h _ _ _ _ _
theorem NF.cp {D : DS} (h : NF D) (M : Nat → Rg) (J : JM) (a : Int) : NF (cpD M D J a) := by
  unfold cpD
  split
  · exact (h.vSave _ _).save _ _
  · exact h.vSave _ _
theorem NF.lg {D : DS} (h : NF D) (M : Nat → Rg) (J : JM) (a : Int) (ring : Nat) (b : List Int) : NF (lgD M D J a ring b) := by
  have h1 : NF (lgD1 M D J a ring) := by
    unfold lgD1
    split
    · exact h.cp M J a
    · exact h
  unfold lgD
  split
  · unfold apD
    split
    · exact (h1.write _ _).sync
    · exact h1.write _ _
  · exact h1
theorem NF.doS {s : SM} (h : NF s.D) (a : Int) (ring : Nat) (r : RQ) : NF (s.doS a ring r).D := by
  have h1 : NF (s.logS a ring r).D := by
    unfold SM.logS
    split
    · exact h.lg _ _ _ _ _
    · exact h
  unfold SM.doS
  split
  · exact h1
  · exact h1
theorem Live.nf {D : DS} (h : Live D) : NF D := ⟨h.fz, h.dn⟩
/-- on a disk that lives each request goes well -/
theorem Up.live {s : SM} {a : Int} {ring : Nat} {K T : Int} (h : Up s a ring K T) (hn : NF s.D) (hK : K ≤ 3000000000) (hT : T < 256) {r : RQ} (hr : r.ok) (hb : Bytes r.data) :
    s.doE a ring r = (checkI s.M r).2 ∧ Up (s.doS a ring r) a ring (K + 3) T ∧ NF (s.doS a ring r).D ∧ (s.doS a ring r).M = doM s.M r := by
  have h1 := NF.doS hn a ring r
  rcases h.doS hK hT hr hb with ⟨d1, d2, d3, _⟩ | ⟨_, _, d3, _⟩
  · refine ⟨d1, d2, h1, ?_⟩
    rw [d3]
    split
    · rfl
    · rename_i h0
      unfold doM
      rw [if_neg (fun hc => h0 hc.1)]
  · have := d3.c.dn
    rw [h1.2] at this
    cases this

/-! ### a new disk -/
theorem at4_zeros (k o : Nat) : at4 (zeros k) o = 0 := by
  unfold at4 zeros
  rw [List.drop_replicate, List.take_replicate]
  generalize min 4 (k - o) = m
  induction m with
  | zero => rfl
  | succ m ih => rw [List.replicate_succ, ofB, ih]; rfl
theorem new_read {n : Nat} {j : Int} (h0 : 0 ≤ j) (h1 : j < (n : Int)) : (DS.new n).read j = zeros 64 := by
  rw [read_in (D := DS.new n) h0 h1]
  unfold sec DS.new zeros
  rw [List.drop_replicate, List.take_replicate]
  congr 1
  omega
theorem zeros_parse : parseM (zeros 64) = ⟨0, 0, [], false⟩ := by
  refine parseM_no ?_
  cases hf : fineM (zeros 64) with
  | false => rfl
  | true => exact absurd (at4_zeros 64 0) (fine_same hf).2.2
theorem new_calm {n : Nat} (h1 : 1 ≤ n) (h2 : n ≤ 512) : Calm (DS.new n) ∧ Live (DS.new n) :=
  ⟨⟨⟨DS.new_ok h1 h2, zeros_bytes _, zeros_bytes _, fun _x hx => absurd hx List.not_mem_nil, rfl⟩, rfl, rfl⟩, ⟨DS.new_ok h1 h2, rfl, rfl⟩⟩
theorem new_last {n : Nat} {a : Int} (h0 : 0 ≤ a) (h1 : a + 1 < (n : Int)) : lastM (DS.new n) a = ⟨a + 1, 0, []⟩ := by
  rw [lastM_eq]
  unfold pickM recM
  rw [new_read h0 (by omega), new_read (by omega) h1, zeros_parse]
  rfl
theorem new_slot {n : Nat} {a : Int} (h0 : 0 ≤ a) (h1 : a + 1 < (n : Int)) : SlotI (DS.new n) a := by
  have hl := new_last h0 h1
  refine ⟨fun i hi => ?_, ?_⟩
  · rw [hl, new_read (by omega) (by omega)]
    exact ⟨by simp [zeros], zeros_bytes _, at4_zeros 64 60, Int.le_of_eq (at4_zeros 64 56)⟩
  · have := putI_at (DS.new n) a
    rw [hl, new_read (by omega) (by omega)]
    exact .inr (at4_zeros 64 56)
/-- the first opening: a disk that never was written -/
theorem new_open {n : Nat} {a : Int} {ring : Nat} (h0 : 0 ≤ a) (hr : 1 ≤ ring ∧ ring ≤ 100) (h1 : a + 46 + (ring : Int) ≤ (n : Int)) (h2 : n ≤ 512) :
    OpOk (DS.new n) a ring ∧ openM (DS.new n) a ring = aw0 ∧ Up ⟨openM (DS.new n) a ring, openD (DS.new n) a ring, openJ (DS.new n) a ring, false⟩ a ring 10 1 ∧ Live (openD (DS.new n) a ring) ∧ (openD (DS.new n) a ring).n = n := by
  obtain ⟨hc, hl⟩ := new_calm (n := n) (by omega) h2
  have hN : (DS.new n).n = n := rfl
  have l1 := new_last (n := n) (a := a) h0 (by omega)
  have l2 := new_last (n := n) (a := a + 44) (by omega) (by omega)
  have s1 := new_slot (n := n) (a := a) h0 (by omega)
  have s2 := new_slot (n := n) (a := a + 44) (by omega) (by omega)
  have hE1 : loadE (DS.new n) a = 41 := by unfold loadE; rw [l1]; rfl
  have hE2 : loadE (DS.new n) (a + 44) = 41 := by unfold loadE; rw [l2]; rfl
  have hmk : markM (DS.new n) a = mark0 := by unfold markM; rw [hE1]; rfl
  have hv : vLoadO (DS.new n) a = none := by unfold vLoadO; rw [hmk]; rfl
  have hvE : vLoadE (DS.new n) a = 41 := by unfold vLoadE; rw [hv]; rfl
  have hbg : beginM (DS.new n) a = aw0 := by unfold beginM; rw [hvE]; rfl
  have hmj : jMetaJ (DS.new n) (a + 44) ring = ⟨a + 44, ring, 1, 0, 0, []⟩ := by unfold jMetaJ; rw [hE2]; rfl
  have hsc : JM.scan ⟨a + 44, ring, 1, 0, 0, []⟩ (DS.new n) = [] := by
    obtain ⟨r, hrr⟩ : ∃ r, ring = r + 1 := ⟨ring - 1, by omega⟩
    subst hrr
    show scanL (DS.new n) (a + 44) (r + 1) 1 0 (r + 1) 0 [] = []
    refine scanL_no ?_
    unfold scanP recM
    have hm : 0 ≤ (1 + (([] : List RecJ).length : Int)) % ((r + 1 : Nat) : Int) ∧ (1 + (([] : List RecJ).length : Int)) % ((r + 1 : Nat) : Int) < ((r + 1 : Nat) : Int) := ⟨Int.emod_nonneg _ (by omega), Int.emod_lt_of_pos _ (by omega)⟩
    rw [new_read (by omega) (by omega), zeros_parse]
    rfl
  have hJ : openJ (DS.new n) a ring = ⟨a + 44, ring, 1, 1, 0, []⟩ := by
    unfold openJ jOpenJ jScanJ
    rw [hmj, hsc]
    rfl
  obtain ⟨J, hJd⟩ : ∃ J : JM, J = ⟨a + 44, ring, 1, 1, 0, []⟩ := ⟨_, rfl⟩
  have hat : J.at_ = a + 44 := by rw [hJd]
  have hD : openD (DS.new n) a ring = saveD (DS.new n) (a + 44) J.slot := by show saveD _ _ (openJ (DS.new n) a ring).slot = _; rw [hJ, hJd]
  have hM : openM (DS.new n) a ring = aw0 := by unfold openM; rw [hJ, hbg]; rfl
  have e0 : (lastM (DS.new n) (a + 44)).q = 0 := by rw [l2]
  obtain ⟨v1, v2, _⟩ := hl.save hc.db.b (a := a + 44) (b := J.slot) (by omega) (by rw [JM.slot_len]; omega) (by omega)
  rcases hc.save (a := a + 44) (b := J.slot) (by omega) (by rw [JM.slot_len]; omega) J.slot_bytes s2 (by omega) with ⟨t1, t2, t3, t4, t5, t6⟩ | ⟨t1, _⟩
  · have hvt : Vt (DS.new n) a aw0 10 := ⟨by omega, s1, by rw [l1]; show (0 : Int) ≤ 10; omega, by rw [hmk]; show (0 : Int) ≤ 10; omega, hbg, fun h => (by rw [hvE] at h; cases h)⟩
    refine ⟨⟨by omega, fun h => (by rw [hvE] at h; cases h), ⟨by omega, hr, fun h => (by rw [hE2] at h; cases h), by rw [hmj]; show (0 : Int) ≤ 1 ∧ (1 : Int) ≤ _; omega, by rw [hmj]; show (0 : Int) ≤ 0 ∧ (0 : Int) < _; omega, by rw [hmj]; show (0 : Int) ≤ 0 ∧ (0 : Int) < _; omega, ?_⟩, fun b hb => ?_⟩, hM, ⟨rfl, by rw [hD]; exact t2, aw0, ?_⟩, by rw [hD]; exact v2, by rw [hD]; exact t3⟩
    · show saveE (DS.new n) (a + 44) (openJ (DS.new n) a ring).slot = 0
      rw [hJ, ← hJd]; exact t1
    · rw [hJ] at hb
      exact absurd hb List.not_mem_nil
    · show HzB (openD (DS.new n) a ring) a ring (openJ (DS.new n) a ring) aw0 (openM (DS.new n) a ring) 10 1 0
      rw [hD, hJ, hM, ← hJd]
      have hok : JOk J := by
        rw [hJd]
        exact ⟨by show 0 ≤ a + 44 ∧ a + 44 ≤ 1000; omega, hr, by show (0 : Int) ≤ 1 ∧ (1 : Int) ≤ _; omega, by show (0 : Int) ≤ 1 ∧ (1 : Int) < _; omega, by show (0 : Int) ≤ 0 ∧ (0 : Int) < _; omega, Nat.zero_le _, fun x hx => absurd hx List.not_mem_nil⟩
      have hnx : J.next = 1 := by rw [hJd]; rfl
      have hnn : J.n = ring := by rw [hJd]
      have hri := ring_in hok J.next
      have hep : J.ep = 1 := by rw [hJd]
      have hrd : ∀ i : Int, 0 ≤ i → i < (ring : Int) → (saveD (DS.new n) (a + 44) J.slot).read (a + 44 + 2 + i) = zeros 64 := fun i hi0 hi1 => by
        rw [t6 _ (by omega) (by omega)]
        exact new_read (by omega) (by omega)
      have hbel : Below 1 1 (zeros 64) := ⟨by rw [show alsM (zeros 64) = 0 from at4_zeros 64 60]; omega, by rw [show epoM (zeros 64) = 0 from at4_zeros 64 4]; omega, by rw [show seqM (zeros 64) = 0 from at4_zeros 64 0]; omega, by rw [show agaM (zeros 64) = 0 from at4_zeros 64 56]; omega⟩
      refine ⟨hvt.alike hc.db.b t3 (fun j _ _ => t6 j (by omega) (by omega)), ⟨hok, by rw [hat, hnn, t3, hN]; omega, by rw [hat]; exact t5, by rw [hat, t4, e0]; show (1 : Int) ≤ 0 + 1 ∧ (0 : Int) + 1 ≤ 10; omega, by rw [hat, t4], ?_, by rw [hep]; exact Int.le_refl _, ?_, ?_, fun i hi _ => ?_, ?_⟩, hat, hnn, MI.aw0, ?_, ?_⟩
      · rw [hJd]; show (1 : Int) ≤ 1 ∧ (1 : Int) + ((0 : Nat) : Int) ≤ 10; omega
      · rw [hJd]; show (0 : Int) ≤ 1; omega
      · intro k x hk; rw [hJd] at hk; exact absurd hk (by simp)
      · rw [hat, hnx, hep, hrd _ (by omega) (by omega)]
        exact hbel
      · have hs : J.sec J.next = a + 44 + 2 + J.next % (J.n : Nat) := by rw [← hat]; rfl
        rw [hs, hrd _ (by omega) (by omega), hnx, hep]
        exact hbel.next (by simp [zeros]) (zeros_bytes _) (Int.le_refl _)
      · rw [hJd]; rfl
      · intro b hb; rw [hJd] at hb; exact absurd hb List.not_mem_nil
  · rw [v1] at t1; cases t1
end Go.Proofs.YtpaelngpmbeedaaGreatDoor
