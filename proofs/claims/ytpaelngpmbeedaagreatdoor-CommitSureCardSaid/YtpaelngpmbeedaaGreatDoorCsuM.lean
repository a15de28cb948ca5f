/- CommitSure: plain. -/
import Derived.Test.YtpaelngpmbeedaaGreatDoorCsG
namespace Go.Proofs.YtpaelngpmbeedaaGreatDoor

theorem pack_inj {m q : Nat → Rg} (hm : MI m) (hq : MI q) (h : packI m = packI q) : m = q := by
  have h1 := img_back hm
  rw [h, img_back hq] at h1
  exact (congrArg Prod.fst h1).symm
/-- the law's bookkeeping: s the server, m what is sure, q what may be -/
def SureI (s : SM) (m q : Nat → Rg) (K T : Int) : Prop :=
  MI m ∧ MI q ∧ s.M = m ∧ ((q = m ∧ Up s 1 6 K T) ∨ ∃ N, (N = m ∨ N = q) ∧ Down s 1 6 N K T)
theorem SureI.mono {s : SM} {m q : Nat → Rg} {K K' T T' : Int} (h : SureI s m q K T) (hk : K ≤ K') (ht : T ≤ T') : SureI s m q K' T' := by
  obtain ⟨h1, h2, h3, h4⟩ := h
  refine ⟨h1, h2, h3, h4.imp (fun ⟨e, u⟩ => ⟨e, u.mono hk ht⟩) (fun ⟨N, e, d⟩ => ⟨N, e, d.mono hk ht⟩)⟩
theorem SureI.fuse {s : SM} {m q : Nat → Rg} {K T : Int} (h : SureI s m q K T) {n : Int} (hn : -9223372036854775808 ≤ n ∧ n ≤ 9223372036854775807) : SureI { s with D := { s.D with fuse := n } } m q K T := by
  obtain ⟨h1, h2, h3, h4⟩ := h
  refine ⟨h1, h2, h3, h4.imp (fun ⟨e, u⟩ => ⟨e, u.fuse hn⟩) (fun ⟨N, e, d⟩ => ⟨N, e, d.fuse hn⟩)⟩
/-- a crash: what is found is the one or the other -/
theorem SureI.crash {s : SM} {m q : Nat → Rg} {K T : Int} (h : SureI s m q K T) (hK : K ≤ 4000000000) (hT : T ≤ 250) (picks : List Int) :
    DsOk s.D 900000 ∧ OpOk (s.D.crash picks) 1 6 ∧ DsOk (s.D.crash picks) 10 ∧ (openM (s.D.crash picks) 1 6 = m ∨ openM (s.D.crash picks) 1 6 = q) ∧ Up ⟨openM (s.D.crash picks) 1 6, openD (s.D.crash picks) 1 6, openJ (s.D.crash picks) 1 6, false⟩ 1 6 (K + 1) (T + 1) := by
  obtain ⟨_, _, h3, ⟨_, h⟩ | ⟨N, hN, h⟩⟩ := h
  · obtain ⟨hC, hL, _, hR⟩ := h.crash picks
    obtain ⟨o1, o2, o3, _⟩ := hR.open_ hC hL hK hT
    exact ⟨h.c.dsok _, o1, hC.dsok _, .inl (o2.trans h3), o3⟩
  · obtain ⟨hC, hL, _, hR⟩ := h.crash picks
    have hd : DsOk s.D 900000 := h.ok.d.mono (by omega)
    rcases hR with hR | hR
    · obtain ⟨o1, o2, o3, _⟩ := hR.open_ hC hL hK hT
      exact ⟨hd, o1, hC.dsok _, .inl (o2.trans h3), o3⟩
    · obtain ⟨o1, o2, o3, _⟩ := hR.open_ hC hL hK hT
      exact ⟨hd, o1, hC.dsok _, hN.imp o2.trans o2.trans, o3⟩
/-- after a request: what the law's books say -/
theorem SureI.do_ {s : SM} {m q : Nat → Rg} {K T : Int} (h : SureI s m q K T) (hK : K ≤ 3000000000) (hT : T < 256) {r : RQ} (hr : r.ok) (hb : Bytes r.data) :
    (s.doE 1 6 r = 0 → SureI (s.doS 1 6 r) (doM m r) (doM m r) (K + 3) T) ∧
    (s.doE 1 6 r = 43 → q = m → SureI (s.doS 1 6 r) m (doM m r) (K + 3) T) ∧
    (s.doE 1 6 r = 43 → q ≠ m → SureI (s.doS 1 6 r) m q (K + 3) T) ∧
    (s.doE 1 6 r ≠ 0 → s.doE 1 6 r ≠ 43 → SureI (s.doS 1 6 r) m q (K + 3) T) := by
  obtain ⟨hm, hq, h3, h4⟩ := h
  have hd := hm.doM hr hb
  rcases h4 with ⟨eq, h⟩ | ⟨N, hN, h⟩
  · rcases h.doS hK hT hr hb with ⟨d1, d2, d3, _⟩ | ⟨d1, _, d3, d4, _⟩
    · rw [h3] at d1 d3
      refine ⟨fun e => ?_, fun e _ => ?_, fun _ hne => absurd eq hne, fun e _ => ?_⟩
      · rw [if_pos (d1.symm.trans e)] at d3
        exact ⟨hd, hd, d3, .inl ⟨rfl, d2⟩⟩
      · have hz : ¬ (checkI m r).2 = 0 := by rw [← d1, e]; decide
        rw [if_neg hz] at d3
        have e1 : doM m r = m := if_neg (fun hc => hz hc.1)
        rw [e1]
        exact ⟨hm, hm, d3, .inl ⟨rfl, d2⟩⟩
      · have hz : ¬ (checkI m r).2 = 0 := by rw [← d1]; exact e
        rw [if_neg hz] at d3
        exact ⟨hm, hq, d3, .inl ⟨eq, d2⟩⟩
    · rw [h3] at d3 d4
      refine ⟨fun e => absurd (d1.symm.trans e) (by decide), fun _ _ => ⟨hm, hd, d4, .inr ⟨_, .inr rfl, d3⟩⟩, fun _ hne => absurd eq hne, fun _ hne => absurd d1 hne⟩
  · obtain ⟨d1, d2, _⟩ := down_do h.dn 1 6 r
    rw [d2]
    refine ⟨fun e => absurd (d1.symm.trans e) (by decide), fun _ eq => ⟨hm, hd, h3, .inr ⟨N, .inl ?_, h.mono (by omega) (Int.le_refl _)⟩⟩, fun _ _ => ⟨hm, hq, h3, .inr ⟨N, hN, h.mono (by omega) (Int.le_refl _)⟩⟩, fun _ hne => absurd d1 hne⟩
    rcases hN with e | e
    · exact e
    · exact e.trans eq
/-- a checkpoint -/
theorem SureI.cp {s : SM} {m q : Nat → Rg} {K T : Int} (h : SureI s m q K T) (hK : K ≤ 3000000000) (hdn : s.dn = false) : SureI (s.cpS 1) m q (K + 2) T := by
  obtain ⟨hm, hq, h3, h4⟩ := h
  rcases h4 with ⟨eq, h⟩ | ⟨N, hN, h⟩
  · rcases h.cp hK with ⟨_, _, d, _⟩ | ⟨_, d, _⟩
    · exact ⟨hm, hq, h3, .inl ⟨eq, d⟩⟩
    · exact ⟨hm, hq, h3, .inr ⟨_, .inl h3, d⟩⟩
  · exact absurd (hdn.symm.trans h.dn) (by decide)
/-- a new server -/
theorem SureI.new_ {D : DS} {m : Nat → Rg} {K T : Int} (hm : MI m) (h : Up ⟨openM D 1 6, openD D 1 6, openJ D 1 6, false⟩ 1 6 K T) (he : openM D 1 6 = m) : SureI ⟨openM D 1 6, openD D 1 6, openJ D 1 6, false⟩ m m K T :=
  ⟨hm, hm, he, .inl ⟨rfl, h⟩⟩
end Go.Proofs.YtpaelngpmbeedaaGreatDoor
