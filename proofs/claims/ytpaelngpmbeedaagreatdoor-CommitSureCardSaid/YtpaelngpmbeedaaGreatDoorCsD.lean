/- A vault's save on a disk with a fuse (plain). -/
import Derived.Test.YtpaelngpmbeedaaGreatDoorCsC
namespace Go.Proofs.YtpaelngpmbeedaaGreatDoor

/-- what a vault tells: the image B -/
structure Vt (D : DS) (a : Int) (B : Nat → Rg) (K : Int) : Prop where
  r : 0 ≤ a ∧ a + 44 ≤ (D.n : Int)
  s : SlotI D a
  q : (lastM D a).q ≤ K
  nu : (markM D a).nu ≤ K
  bg : beginM D a = B
  un : vLoadE D a = 0 → unpE (vLoadB D a) = 0
theorem Vt.mono {D : DS} {a : Int} {B : Nat → Rg} {K K' : Int} (h : Vt D a B K) (hk : K ≤ K') : Vt D a B K' := ⟨h.r, h.s, Int.le_trans h.q hk, Int.le_trans h.nu hk, h.bg, h.un⟩
theorem lvGo_same {D E : DS} {a ar nu sz : Int} (h : ∀ i : Nat, i < 21 → E.read (a + 2 + ar * 21 + (i : Nat)) = D.read (a + 2 + ar * 21 + (i : Nat))) : ∀ j, j ≤ 21 → lvGo E a ar nu sz j = lvGo D a ar nu sz j
  | 0, _ => rfl
  | j + 1, hj => by
    have ih := lvGo_same (nu := nu) (sz := sz) h j (by omega)
    have e : lvP E a ar j = lvP D a ar j := recM_eq (h j (by omega))
    show (lvGo E a ar nu sz j).bind _ = (lvGo D a ar nu sz j).bind _
    rw [ih]
    simp only [e]
theorem Vt.same {D E : DS} {a : Int} {B : Nat → Rg} {K : Int} (h : Vt D a B K) (hn : E.n = D.n) (hs : SlotI E a) (hl : lastM E a = lastM D a)
    (hr : ∀ i : Nat, i < 21 → E.read (a + 2 + (markM D a).ar * 21 + (i : Nat)) = D.read (a + 2 + (markM D a).ar * 21 + (i : Nat))) : Vt E a B K := by
  have hm := markM_same hl
  have hv : vLoadO E a = vLoadO D a := by
    unfold vLoadO
    rw [hm, lvGo_same hr 21 (Nat.le_refl _)]
  have hb : vLoadB E a = vLoadB D a := by unfold vLoadB; rw [hv]
  have he : vLoadE E a = vLoadE D a := by unfold vLoadE; rw [hv]
  refine ⟨by rw [hn]; exact h.r, hs, by rw [hl]; exact h.q, by rw [hm]; exact h.nu, ?_, ?_⟩
  · unfold beginM
    rw [he, hb]
    exact h.bg
  · rw [he, hb]; exact h.un
/-- as it reads alike -/
theorem Vt.alike {D E : DS} {a : Int} {B : Nat → Rg} {K : Int} (h : Vt D a B K) (hb : Bytes D.seen) (hn : E.n = D.n) (hr : ∀ j, a ≤ j → j < a + 44 → E.read j = D.read j) : Vt E a B K := by
  have hm := markM_range hb a
  exact h.same hn (h.s.same (hr a (by omega) (by omega)) (hr (a + 1) (by omega) (by omega))) (lastM_same (hr a (by omega) (by omega)) (hr (a + 1) (by omega) (by omega))) (fun i hi => hr _ (by omega) (by omega))
theorem partB_len (b : List Int) (j : Nat) : (partB b j).length = min 43 (b.length - 43 * j) := by unfold partB; rw [List.length_take, List.length_drop]
theorem lvGo_parts {E : DS} {a ar nu : Int} {b : List Int} (hnu : 0 ≤ nu ∧ nu < 4294967296) (hr : ∀ i : Nat, i < (b.length + 42) / 43 → E.read (svI a ar i) = stampM (((i : Nat) : Int) + 1) nu (partB b i)) : ∀ j, j ≤ 21 → lvGo E a ar nu (b.length : Nat) j = some (b.take (43 * j))
  | 0, _ => rfl
  | j + 1, hj => by
    have ih := lvGo_parts hnu hr j (by omega)
    show (lvGo E a ar nu (b.length : Nat) j).bind _ = _
    rw [ih]
    show (if ((j : Nat) : Int) * 43 < ((b.length : Nat) : Int) then _ else _) = _
    by_cases hc : ((j : Nat) : Int) * 43 < ((b.length : Nat) : Int)
    · rw [if_pos hc]
      have hpl : (partB b j).length ≤ 43 := by rw [partB_len]; omega
      have e : lvP E a ar j = ⟨((j : Nat) : Int) + 1, nu, partB b j, true⟩ := by
        show parseM (E.read (svI a ar j)) = _
        rw [hr j (by omega)]
        exact parse_stamp (by omega) hnu hpl
      have ht : (b.take (43 * j)).length = 43 * j := by rw [List.length_take]; omega
      have hok : lvOk (lvP E a ar j) j nu (b.length : Nat) (b.take (43 * j)).length = true := by
        rw [e, ht]
        unfold lvOk
        have h1 : ((((j : Nat) : Int) + 1) != ((j : Nat) : Int) + 1) = false := by simp
        have h2 : (nu != nu) = false := by simp
        have h3 : (((partB b j).length : Int) != min 43 (((b.length : Nat) : Int) - ((43 * j : Nat) : Int))) = false := by
          rw [bne_eq_false_iff_eq, partB_len]
          omega
        show (true && !((((j : Nat) : Int) + 1) != ((j : Nat) : Int) + 1) && !(nu != nu) && !(((partB b j).length : Int) != min 43 (((b.length : Nat) : Int) - ((43 * j : Nat) : Int)))) = true
        rw [h1, h2, h3]
        rfl
      rw [if_pos hok, e]
      show some (b.take (43 * j) ++ (b.drop (43 * j)).take 43) = _
      rw [← List.take_add, Nat.mul_succ]
    · rw [if_neg hc, List.take_of_length_le (by omega), List.take_of_length_le (by omega)]

/-- the sectors of an area -/
def areaP (a ar : Int) (k : Nat) : Prop := a + 2 + ar * 21 ≤ (k : Int) ∧ (k : Int) < a + 2 + ar * 21 + 21
theorem Calm.svs {D : DS} (h : Calm D) {a ar nu : Int} {b : List Int} (ha : 0 ≤ a ∧ a + 44 ≤ (D.n : Int)) (har : 0 ≤ ar ∧ ar ≤ 1) (hb : Bytes b) : ∀ j, j ≤ 21 →
    ((svGo D a ar nu b j).2 = 0 ∧ Mid D (svGo D a ar nu b j).1 (areaP a ar) ∧ ∀ i : Nat, i < j → (svGo D a ar nu b j).1.read (svI a ar i) = stampM (((i : Nat) : Int) + 1) nu (partB b i)) ∨
    ((svGo D a ar nu b j).2 = 43 ∧ Dead (svGo D a ar nu b j).1 (fun E => E.n = D.n ∧ ∀ j : Int, 0 ≤ j → ¬ areaP a ar j.toNat → E.read j = D.read j))
  | 0, _ => .inl ⟨rfl, h.mid _, fun i hi => absurd hi (Nat.not_lt_zero _)⟩
  | j + 1, hj => by
    rcases Calm.svs h (nu := nu) ha har hb j (by omega) with ⟨h1, h2, h3⟩ | ⟨h1, h2⟩
    · rw [svGo_go h1]
      have hi : svI a ar j = a + 2 + ar * 21 + (j : Nat) := rfl
      have hl : (partB b j).length ≤ 43 := by rw [partB_len]; omega
      have hsl : (stampM (((j : Nat) : Int) + 1) nu (partB b j)).length = 64 := stampM_length _ _ hl
      rcases h2.write (i := svI a ar j) (b := stampM (((j : Nat) : Int) + 1) nu (partB b j)) (by omega) (by omega) (by unfold areaP; omega) (by omega) (stampM_bytes _ _ (partB_bytes hb j)) with ⟨w1, w2, _, w4⟩ | ⟨w1, w2⟩
      · refine .inl ⟨w1, w2, fun i hi2 => ?_⟩
        have hi3 : svI a ar i = a + 2 + ar * 21 + (i : Nat) := rfl
        show (DS.write _ _ _).read _ = _
        rw [w4 _ (by omega)]
        by_cases hij : i = j
        · rw [hij, if_pos rfl, full_of hsl]
        · rw [if_neg (by omega)]
          exact h3 i (by omega)
      · exact .inr ⟨w1, w2⟩
    · have hne : (svGo D a ar nu b j).2 ≠ 0 := by rw [h1]; decide
      rw [svGo_stop hne 1]
      exact .inr ⟨h1, h2⟩
/-- the next record of a vault stands there -/
theorem vt_new {D E : DS} {a p : Int} {M : Nat → Rg} {K : Int} (hb : Bytes D.seen) (hM : MI M) (ha : 0 ≤ a ∧ a + 44 ≤ (D.n : Int)) (hn : E.n = D.n) (hs : SlotI E a) (hq0 : 0 ≤ (lastM D a).q) (hq : (lastM D a).q ≤ K) (hnu : (markM D a).nu ≤ K) (hK : K < 4294967290)
    (hl : lastM E a = ⟨p, (lastM D a).q + 1, markW (vMark D a (packI M))⟩)
    (hr : ∀ i : Nat, i < ((packI M).length + 42) / 43 → E.read (svI a (vMark D a (packI M)).ar i) = stampM (((i : Nat) : Int) + 1) (vMark D a (packI M)).nu (partB (packI M) i)) : Vt E a M (K + 1) := by
  have hm := markM_range hb a
  have hpl := hM.mok.pl
  obtain ⟨mk, hmk⟩ : ∃ mk, mk = vMark D a (packI M) := ⟨_, rfl⟩
  have m1 : mk.nu = (markM D a).nu + 1 := by rw [hmk]; rfl
  have m2 : mk.ar = 1 - (markM D a).ar := by rw [hmk]; rfl
  have m3 : mk.sz = ((packI M).length : Nat) := by rw [hmk]; rfl
  have m4 : mk.ok = true := by rw [hmk]; rfl
  rw [← hmk] at hl hr
  have hW : markB (markW mk) = mk := markB_W (by omega) (by omega) (by omega) m4
  have hq1 : ¬ (lastM E a).q = 0 := by rw [hl]; show ¬ (lastM D a).q + 1 = 0; omega
  have hmE : markM E a = mk := by
    unfold markM
    rw [show loadE E a = 0 from if_neg hq1, if_pos rfl, show loadB E a = _ from if_neg hq1, hl]
    exact hW
  have hgo := lvGo_parts (E := E) (a := a) (ar := mk.ar) (nu := mk.nu) (b := packI M) (by omega) hr 21 (Nat.le_refl _)
  have hv : vLoadO E a = some (packI M) := by
    unfold vLoadO
    rw [hmE, m3, m4, if_neg (by rintro (h | h); cases h; omega), hgo, List.take_of_length_le (by omega)]
  have he : vLoadE E a = 0 := by unfold vLoadE; rw [hv]; rfl
  have hB : vLoadB E a = packI M := by unfold vLoadB; rw [hv]; rfl
  refine ⟨by rw [hn]; exact ha, hs, ?_, ?_, ?_, ?_⟩
  · rw [hl]; show (lastM D a).q + 1 ≤ _; omega
  · rw [hmE, m1]; omega
  · unfold beginM
    rw [he, if_pos rfl, hB, img_back hM]
  · intro _
    rw [hB]
    exact unp_back hM
/-- what a vault's save may leave -/
theorem Calm.vSave {D : DS} (h : Calm D) {a : Int} {B M : Nat → Rg} {K : Int} (hv : Vt D a B K) (hK : K < 4294967290) (hM : MI M) :
    (vSaveE D a (packI M) = 0 ∧ Calm (vSaveD D a (packI M)) ∧ (vSaveD D a (packI M)).n = D.n ∧ Vt (vSaveD D a (packI M)) a M (K + 1) ∧ ∀ j, (j < a ∨ a + 44 ≤ j) → (vSaveD D a (packI M)).read j = D.read j) ∨
    (vSaveE D a (packI M) = 43 ∧ Dead (vSaveD D a (packI M)) (fun E => E.n = D.n ∧ (Vt E a M (K + 1) ∨ Vt E a B K) ∧ ∀ j, (j < a ∨ a + 44 ≤ j) → E.read j = D.read j)) := by
  have hm := markM_range h.db.b a
  have hpl := hM.mok.pl
  have hpb := hM.mok.pb
  have ha := hv.r
  have hmark : (vMark D a (packI M)).ar = 1 - (markM D a).ar := rfl
  have hj : ((packI M).length + 42) / 43 ≤ 21 := by omega
  have hne : ¬ (markM D a).nu = 4294967295 := by have := hv.nu; omega
  have hq0 := (lastM_q h.db.b a).1
  have hneg : ∀ (E : DS) (j : Int), j < 0 → E.n = D.n → E.read j = D.read j := fun E j hj hn => by unfold DS.read; rw [if_pos (by omega), if_pos (by omega)]
  have hG := h.svs (a := a) (ar := (vMark D a (packI M)).ar) (nu := (vMark D a (packI M)).nu) (b := packI M) ha (by omega) hpb (((packI M).length + 42) / 43) hj
  have e1 : (vSaveG D a (packI M)).2 = 0 → vSaveE D a (packI M) = saveE (vSaveG D a (packI M)).1.sync a (markW (vMark D a (packI M))) := fun h1 => (if_neg hne).trans (if_pos h1)
  have e2 : (vSaveG D a (packI M)).2 = 0 → vSaveD D a (packI M) = saveD (vSaveG D a (packI M)).1.sync a (markW (vMark D a (packI M))) := fun h1 => (if_neg hne).trans (if_pos h1)
  have e3 : ¬ (vSaveG D a (packI M)).2 = 0 → vSaveE D a (packI M) = (vSaveG D a (packI M)).2 := fun h1 => (if_neg hne).trans (if_neg h1)
  have e4 : ¬ (vSaveG D a (packI M)).2 = 0 → vSaveD D a (packI M) = (vSaveG D a (packI M)).1 := fun h1 => (if_neg hne).trans (if_neg h1)
  have hG : ((vSaveG D a (packI M)).2 = 0 ∧ Mid D (vSaveG D a (packI M)).1 (areaP a (vMark D a (packI M)).ar) ∧ ∀ i : Nat, i < ((packI M).length + 42) / 43 → (vSaveG D a (packI M)).1.read (svI a (vMark D a (packI M)).ar i) = stampM (((i : Nat) : Int) + 1) (vMark D a (packI M)).nu (partB (packI M) i)) ∨
    ((vSaveG D a (packI M)).2 = 43 ∧ Dead (vSaveG D a (packI M)).1 (fun E => E.n = D.n ∧ ∀ j : Int, 0 ≤ j → ¬ areaP a (vMark D a (packI M)).ar j.toNat → E.read j = D.read j)) := hG
  have old : ∀ E : DS, E.n = D.n → (∀ j : Int, 0 ≤ j → ¬ areaP a (vMark D a (packI M)).ar j.toNat → E.read j = D.read j) → E.n = D.n ∧ (Vt E a M (K + 1) ∨ Vt E a B K) ∧ ∀ j, (j < a ∨ a + 44 ≤ j) → E.read j = D.read j := by
    intro E hn hr
    have r0 := hr a (by omega) (by unfold areaP; omega)
    have r1 := hr (a + 1) (by omega) (by unfold areaP; omega)
    refine ⟨hn, .inr (hv.same hn (hv.s.same r0 r1) (lastM_same r0 r1) (fun i hi => hr _ (by omega) (by unfold areaP; omega))), fun j hj => ?_⟩
    by_cases h0 : 0 ≤ j
    · exact hr j h0 (by unfold areaP; omega)
    · exact hneg E j (by omega) hn
  generalize vSaveG D a (packI M) = G at hG e1 e2 e3 e4
  rcases hG with ⟨g1, g2, g3⟩ | ⟨g1, g2⟩
  · have e1 := e1 g1
    have e2 := e2 g1
    rw [e1, e2]
    rcases g2.sync with ⟨c1, c2, c3⟩ | c
    · -- the area is sure
      have hr : ∀ j : Int, 0 ≤ j → ¬ areaP a (vMark D a (packI M)).ar j.toNat → G.1.sync.read j = D.read j := fun j h0 hj => (c3 j).trans (g2.rd j h0 hj)
      have r0 := hr a (by omega) (by unfold areaP; omega)
      have r1 := hr (a + 1) (by omega) (by unfold areaP; omega)
      have hlast := lastM_same r0 r1
      have hsl := hv.s.same r0 r1
      have hpart : ∀ i : Nat, i < ((packI M).length + 42) / 43 → G.1.sync.read (svI a (vMark D a (packI M)).ar i) = stampM (((i : Nat) : Int) + 1) (vMark D a (packI M)).nu (partB (packI M) i) := fun i hi => (c3 _).trans (g3 i hi)
      have hfar : ∀ j, (j < a ∨ a + 44 ≤ j) → G.1.sync.read j = D.read j := by
        intro j hj
        by_cases h0 : 0 ≤ j
        · exact hr j h0 (by unfold areaP; omega)
        · exact hneg _ j (by omega) c2
      have hvs : Vt G.1.sync a B K := hv.same c2 hsl hlast (fun i hi => hr _ (by omega) (by unfold areaP; omega))
      have hsz : ∀ (E : DS) (p : Int), E.n = G.1.sync.n → SlotI E a → lastM E a = ⟨p, (lastM G.1.sync a).q + 1, markW (vMark D a (packI M))⟩ → (∀ j, j ≠ a → j ≠ a + 1 → E.read j = G.1.sync.read j) → Vt E a M (K + 1) := by
        intro E p hn hs hl hr2
        rw [hlast] at hl
        refine vt_new h.db.b hM ha (hn.trans c2) hs hq0 hv.q hv.nu hK hl (fun i hi => ?_)
        have hi3 : svI a (vMark D a (packI M)).ar i = a + 2 + (vMark D a (packI M)).ar * 21 + (i : Nat) := rfl
        rw [hr2 _ (by omega) (by omega)]
        exact hpart i hi
      have hr3 : ∀ E : DS, (∀ j, j ≠ a → j ≠ a + 1 → E.read j = G.1.sync.read j) → ∀ j, (j < a ∨ a + 44 ≤ j) → E.read j = D.read j := fun E he j hj => (he j (by omega) (by omega)).trans (hfar j hj)
      rcases c1.save (a := a) (b := markW (vMark D a (packI M))) (by rw [c2]; omega) (by rw [markW_length]; omega) (markW_bytes _) hsl (by rw [hlast]; have := hv.q; omega) with ⟨s1, s2, s3, s4, s5, s6⟩ | ⟨s1, s2⟩
      · exact .inl ⟨s1, s2, s3.trans c2, hsz _ _ s3 s5 s4 s6, hr3 _ s6⟩
      · refine .inr ⟨s1, s2.mono (fun E _ _ ⟨t1, t2, t3, t4⟩ => ⟨t1.trans c2, ?_, hr3 _ t4⟩)⟩
        rcases t2 with t2 | t2
        · exact .inl (hsz _ _ t1 t3 t2 t4)
        · exact .inr (hvs.same t1 t3 t2 (fun i _ => t4 _ (by have := (markM_range c1.db.b a); omega) (by have := (markM_range c1.db.b a); omega)))
    · -- the area's sync is not done
      have hgn : G.1.sync.n = D.n := (DS.sync_nV _).trans g2.n
      have cc : Dead (saveD G.1.sync a (markW (vMark D a (packI M)))) (fun E => E.n = D.n ∧ ∀ j : Int, 0 ≤ j → ¬ areaP a (vMark D a (packI M)).ar j.toNat → E.read j = D.read j) ∧ saveE G.1.sync a (markW (vMark D a (packI M))) = 43 := by
        have hqS : ¬ (lastM G.1.sync a).q = 4294967295 := by
          have r0 : G.1.sync.read a = D.read a := by
            have : G.1.sync.read a = G.1.read a := by unfold DS.read; rw [DS.sync_nV]; unfold DS.at_; rw [DS.sync_seen]
            rw [this]; exact g2.rd a (by omega) (by unfold areaP; omega)
          have r1 : G.1.sync.read (a + 1) = D.read (a + 1) := by
            have : G.1.sync.read (a + 1) = G.1.read (a + 1) := by unfold DS.read; rw [DS.sync_nV]; unfold DS.at_; rw [DS.sync_seen]
            rw [this]; exact g2.rd (a + 1) (by omega) (by unfold areaP; omega)
          rw [lastM_same r0 r1]
          have := hv.q
          omega
        have hI := putI_at G.1.sync a
        have hlen : (putS G.1.sync a (markW (vMark D a (packI M)))).length = 64 := stampM_length _ _ (by rw [markW_length]; omega)
        have hn2 : G.1.sync.sync.n = D.n := (DS.sync_nV _).trans hgn
        obtain ⟨w1, w2⟩ := c.sync.write (i := putI G.1.sync a) (b := putS G.1.sync a (markW (vMark D a (packI M)))) (by omega) (by rw [hn2]; omega) (by omega)
        have hE : putE G.1.sync a (markW (vMark D a (packI M))) = 43 := (if_neg hqS).trans w1
        have hD : putD G.1.sync a (markW (vMark D a (packI M))) = _ := if_neg hqS
        have hE0 : ¬ putE G.1.sync a (markW (vMark D a (packI M))) = 0 := by rw [hE]; decide
        refine ⟨?_, (if_neg hE0).trans hE⟩
        rw [show saveD G.1.sync a (markW (vMark D a (packI M))) = _ from (if_neg hE0).trans hD]
        exact w2
      exact .inr ⟨cc.2, cc.1.mono (fun E _ _ ⟨t1, t2⟩ => old E t1 t2)⟩
  · have hne0 : ¬ G.2 = 0 := by rw [g1]; decide
    rw [e3 hne0, e4 hne0]
    exact .inr ⟨g1, g2.mono (fun E _ _ ⟨t1, t2⟩ => old E t1 t2)⟩
end Go.Proofs.YtpaelngpmbeedaaGreatDoor
