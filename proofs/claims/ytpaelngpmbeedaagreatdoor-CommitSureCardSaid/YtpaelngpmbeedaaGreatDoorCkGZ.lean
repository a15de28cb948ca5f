/- A disk that lives: what is read behind a write; a slot behind a save (plain). -/
import Derived.Test.YtpaelngpmbeedaaGreatDoorCkDo
import Derived.Test.YtpaelngpmbeedaaGreatDoorImgEZ
namespace Go.Proofs.YtpaelngpmbeedaaGreatDoor

theorem splice_getJ {α : Type} (xs vs : List α) (o k : Nat) (h : o + vs.length ≤ xs.length) : (splice xs o vs)[k]? = if o ≤ k ∧ k < o + vs.length then vs[k - o]? else xs[k]? := by
  unfold splice
  by_cases h1 : k < o
  · rw [if_neg (by omega), List.append_assoc, List.getElem?_append_left (by rw [List.length_take]; omega), List.getElem?_take, if_pos h1]
  · rw [List.append_assoc, List.getElem?_append_right (by rw [List.length_take]; omega), List.length_take, Nat.min_eq_left (by omega)]
    by_cases h2 : k < o + vs.length
    · rw [if_pos (by omega), List.getElem?_append_left (by omega)]
    · rw [if_neg (by omega), List.getElem?_append_right (by omega), List.getElem?_drop]
      congr 1
      omega
theorem at_put {s v : List Int} {i : Nat} (j : Nat) (hv : v.length = 64) (hs : i * 64 + 64 ≤ s.length) : ((splice s (i * 64) v).drop (j * 64)).take 64 = if j = i then v else (s.drop (j * 64)).take 64 := by
  apply List.ext_getElem?
  intro k
  rw [List.getElem?_take]
  split
  · rename_i hk
    rw [List.getElem?_drop, splice_getJ _ _ _ _ (by omega)]
    by_cases hij : j = i
    · subst hij
      rw [if_pos (by omega), if_pos rfl, Nat.add_sub_cancel_left]
    · rw [if_neg (by omega), if_neg hij, List.getElem?_take, if_pos hk, List.getElem?_drop]
  · rename_i hk
    split
    · rw [List.getElem?_eq_none (by omega)]
    · rw [List.getElem?_eq_none (by rw [List.length_take]; omega)]
structure Live (D : DS) : Prop where
  ok : D.ok
  fz : D.fuse = -1
  dn : D.down = false
theorem Live.after {D : DS} (h : Live D) : D.after = D := by
  obtain ⟨n, se, su, pe, fu, dn⟩ := D
  have h1 : fu = -1 := h.fz
  have h2 : dn = false := h.dn
  subst h1; subst h2
  rfl
theorem Live.goes {D : DS} (h : Live D) : D.goes = true := by
  unfold DS.goes
  rw [h.dn, h.fz]
  rfl
theorem Live.put {D : DS} (h : Live D) {i : Int} {b : List Int} (h0 : 0 ≤ i) (hn : i < (D.n : Int)) (hb : b.length ≤ 64) : D.writeE i b = 0 ∧ D.write i b = D.put i.toNat b := by
  have h1 : ¬ (i < 0 ∨ (D.n : Int) ≤ i) := by omega
  have h2 : ¬ 64 < b.length := by omega
  unfold DS.writeE DS.write
  rw [if_neg h1, if_neg h2, if_pos h.goes, if_neg h1, if_neg h2, if_pos h.goes, h.after]
  exact ⟨rfl, rfl⟩
theorem Live.write {D : DS} (h : Live D) {i : Int} {b : List Int} (h0 : 0 ≤ i) (hn : i < (D.n : Int)) (hb : b.length ≤ 64) : D.writeE i b = 0 ∧ Live (D.write i b) ∧ ∀ j, (D.write i b).read j = if j = i then full b else D.read j := by
  obtain ⟨h1, h2⟩ := h.put h0 hn hb
  refine ⟨h1, ⟨h.ok.write i b, by rw [h2]; exact h.fz, by rw [h2]; exact h.dn⟩, fun j => ?_⟩
  rw [h2]
  unfold DS.read
  by_cases hj : j < 0 ∨ (D.n : Int) ≤ j
  · have hne : ¬ j = i := by omega
    rw [if_neg hne]
    show (if j < 0 ∨ (D.n : Int) ≤ j then [] else _) = _
    rw [if_pos hj, if_pos hj]
  · show (if j < 0 ∨ (D.n : Int) ≤ j then [] else _) = _
    rw [if_neg hj, if_neg hj]
    show ((splice D.seen (i.toNat * 64) (full b)).drop (j.toNat * 64)).take 64 = _
    have hs := h.ok.hs
    rw [at_put j.toNat (full_length hb) (by omega)]
    by_cases hij : j = i
    · rw [if_pos hij, if_pos (by rw [hij])]
    · rw [if_neg hij, if_neg (by omega)]
      rfl
theorem Live.sync {D : DS} (h : Live D) : Live D.sync ∧ D.sync.pend = [] ∧ ∀ j, D.sync.read j = D.read j := by
  have h1 : D.sync = { D with sure := onto D.sure D.pend, pend := [] } := by
    unfold DS.sync
    rw [if_pos h.goes, h.after]
  refine ⟨⟨h.ok.sync, by rw [h1]; exact h.fz, by rw [h1]; exact h.dn⟩, by rw [h1], fun j => ?_⟩
  rw [h1]
  rfl

/-! ### a stamped sector tells what was stamped -/
theorem ofB_num {x : Int} {k : Nat} (h0 : 0 ≤ x) (h1 : x < 256 ^ k) : ofB (numB x k) = x := by
  obtain ⟨n, rfl⟩ := Int.eq_ofNat_of_zero_le h0
  rw [ofB_numB]
  have h2 : n < 256 ^ k := by
    have h3 : ((256 ^ k : Nat) : Int) = (256 : Int) ^ k := Int.natCast_pow 256 k
    rw [← h3] at h1
    exact Int.ofNat_lt.1 h1
  rw [Nat.mod_eq_of_lt h2]
theorem take_app {α : Type} {xs ys : List α} {k : Nat} (h : xs.length = k) : (xs ++ ys).take k = xs := by rw [← h, List.take_left]
theorem drop_app {α : Type} {xs ys : List α} {k : Nat} (h : xs.length = k) : (xs ++ ys).drop k = ys := by rw [← h, List.drop_left]
theorem full_of {b : List Int} (h : b.length = 64) : full b = b := by
  unfold full zeros
  rw [h]
  simp
theorem parse_stamp {q e : Int} {b : List Int} (hq : 0 < q ∧ q < 4294967296) (he : 0 ≤ e ∧ e < 4294967296) (hb : b.length ≤ 43) : parseM (stampM q e b) = ⟨q, e, b, true⟩ := by
  have hl := stampM_length q e hb
  have hh := headM_length q e hb
  obtain ⟨s, hs⟩ : ∃ s, s = stampM q e b := ⟨_, rfl⟩
  have e0 : (stampM q e b).drop 52 = numB (sumM (headM q e b)) 4 ++ numB q 4 ++ numB e 4 := drop_app hh
  have t0 : (stampM q e b).take 52 = headM q e b := take_app hh
  have es : stampM q e b = numB q 4 ++ (numB e 4 ++ (numB (b.length : Nat) 1 ++ (b ++ (zeros (43 - b.length) ++ (numB (sumM (headM q e b)) 4 ++ numB q 4 ++ numB e 4))))) := by
    unfold stampM headM
    simp only [List.append_assoc]
  have d4 : (stampM q e b).drop 4 = numB e 4 ++ (numB (b.length : Nat) 1 ++ (b ++ (zeros (43 - b.length) ++ (numB (sumM (headM q e b)) 4 ++ numB q 4 ++ numB e 4)))) := by rw [es]; exact drop_app (numB_length _ _)
  have d8 : (stampM q e b).drop 8 = numB (b.length : Nat) 1 ++ (b ++ (zeros (43 - b.length) ++ (numB (sumM (headM q e b)) 4 ++ numB q 4 ++ numB e 4))) := by
    rw [show (8 : Nat) = 4 + 4 from rfl, ← List.drop_drop, d4]; exact drop_app (numB_length _ _)
  have d9 : (stampM q e b).drop 9 = b ++ (zeros (43 - b.length) ++ (numB (sumM (headM q e b)) 4 ++ numB q 4 ++ numB e 4)) := by
    rw [show (9 : Nat) = 8 + 1 from rfl, ← List.drop_drop, d8]; exact drop_app (numB_length _ _)
  have d56 : (stampM q e b).drop 56 = numB q 4 ++ numB e 4 := by
    rw [show (56 : Nat) = 52 + 4 from rfl, ← List.drop_drop, e0, List.append_assoc]; exact drop_app (numB_length _ _)
  have d60 : (stampM q e b).drop 60 = numB e 4 := by
    rw [show (60 : Nat) = 56 + 4 from rfl, ← List.drop_drop, d56]; exact drop_app (numB_length _ _)
  have p4 : (256 : Int) ^ 4 = 4294967296 := by decide
  have s1 : seqM (stampM q e b) = q := by
    show ofB (((stampM q e b).drop 0).take 4) = q
    rw [List.drop_zero, es, take_app (numB_length _ _)]
    exact ofB_num (by omega) (by rw [p4]; omega)
  have s2 : epoM (stampM q e b) = e := by
    show ofB (((stampM q e b).drop 4).take 4) = e
    rw [d4, take_app (numB_length _ _)]
    exact ofB_num (by omega) (by rw [p4]; omega)
  have s3 : lenM (stampM q e b) = (b.length : Nat) := by
    show ofB (((stampM q e b).drop 8).take 1) = _
    rw [d8, take_app (numB_length _ _)]
    exact ofB_num (by omega) (by rw [show (256 : Int) ^ 1 = 256 by decide]; omega)
  have s4 : sumA (stampM q e b) = sumM (headM q e b) := by
    show ofB (((stampM q e b).drop 52).take 4) = _
    rw [e0, List.append_assoc, take_app (numB_length _ _)]
    have := sumM_range (headM q e b)
    exact ofB_num this.1 (by rw [p4]; omega)
  have s5 : agaM (stampM q e b) = q := by
    show ofB (((stampM q e b).drop 56).take 4) = q
    rw [d56, take_app (numB_length _ _)]
    exact ofB_num (by omega) (by rw [p4]; omega)
  have s6 : alsM (stampM q e b) = e := by
    show ofB (((stampM q e b).drop 60).take 4) = e
    rw [d60, List.take_of_length_le (by rw [numB_length]; exact Nat.le_refl _)]
    exact ofB_num (by omega) (by rw [p4]; omega)
  have hf : fineM (stampM q e b) = true := by
    unfold fineM
    rw [s1, s2, s3, s4, s5, s6, t0, hl]
    have h1 : (q == 0) = false := by simpa using (show ¬ q = 0 by omega)
    have h2 : decide (((b.length : Nat) : Int) > 43) = false := decide_eq_false (by omega)
    rw [h1, h2]
    simp
  have hbd : bodyM (stampM q e b) = b := by
    show ((stampM q e b).drop 9).take (lenM (stampM q e b)).toNat = b
    rw [s3, d9, Int.toNat_natCast]
    exact take_app rfl
  unfold parseM
  rw [if_pos hf, s1, s2, hbd]

/-! ### a slot behind a save -/
theorem lastM_eq (D : DS) (a : Int) : lastM D a = pickM D (a + 1) (pickM D a ⟨a + 1, 0, []⟩) := by
  show pickM D (a + ((1 : Nat) : Int)) (pickM D (a + ((0 : Nat) : Int)) ⟨a + 1, 0, []⟩) = _
  rw [show a + ((0 : Nat) : Int) = a from Int.add_zero a]
  rfl
theorem recM_eq {D D' : DS} {i : Int} (h : D'.read i = D.read i) : recM D' i = recM D i := by unfold recM; rw [h]
theorem lastM_same {D D' : DS} {a : Int} (h0 : D'.read a = D.read a) (h1 : D'.read (a + 1) = D.read (a + 1)) : lastM D' a = lastM D a := by
  rw [lastM_eq, lastM_eq]
  unfold pickM
  rw [recM_eq h0, recM_eq h1]
theorem loadB_same {D D' : DS} {a : Int} (h : lastM D' a = lastM D a) : loadB D' a = loadB D a ∧ loadE D' a = loadE D a := by
  unfold loadB loadE
  rw [h]
  exact ⟨rfl, rfl⟩
theorem markM_same {D D' : DS} {a : Int} (h : lastM D' a = lastM D a) : markM D' a = markM D a := by
  unfold markM
  rw [(loadB_same h).1, (loadB_same h).2]
theorem putI_at (D : DS) (a : Int) : putI D a = a ∨ putI D a = a + 1 := by
  unfold putI
  rcases lastTo_at D a 2 (by omega) with h | h
  · have h : (lastM D a).at_ = a := h
    rw [h]; omega
  · have h : (lastM D a).at_ = a + 1 := h
    rw [h]; omega
theorem lastM_q {D : DS} (hb : Bytes D.seen) (a : Int) : 0 ≤ (lastM D a).q ∧ (lastM D a).q < 4294967296 := ⟨(lastTo_range hb a 2).1, (lastTo_range hb a 2).2.1⟩
/-- where the next record is written, the last one is not -/
theorem last_put {D D' : DS} {a q : Int} {b : List Int} (hq : q = (lastM D a).q + 1) (h0 : 0 ≤ (lastM D a).q) (hr : ∀ j, recM D' j = if j = putI D a then ⟨q, 0, b, true⟩ else recM D j) : lastM D' a = ⟨putI D a, q, b⟩ := by
  have hI : putI D a = 2 * a + 1 - (lastM D a).at_ := rfl
  have hL := lastM_eq D a
  rw [lastM_eq D' a]
  obtain ⟨x, hx⟩ : ∃ x, x = pickM D a ⟨a + 1, 0, []⟩ := ⟨_, rfl⟩
  rw [← hx] at hL
  by_cases hp : putI D a = a
  · -- the last one stands at a + 1: or there is none
    have e1 : pickM D' a ⟨a + 1, 0, []⟩ = ⟨a, q, b⟩ := by
      unfold pickM
      rw [show recM D' a = ⟨q, 0, b, true⟩ from (hr _).trans (if_pos hp.symm)]
      rw [if_pos ⟨rfl, by show q > 0; omega⟩]
    rw [e1, hp]
    unfold pickM
    rw [show recM D' (a + 1) = recM D (a + 1) from (hr _).trans (if_neg (by omega))]
    refine if_neg ?_
    rintro ⟨h1, h2⟩
    have h2 : (recM D (a + 1)).q > q := h2
    have h3 : (lastM D a).q ≥ (recM D (a + 1)).q := by
      rw [hL]
      unfold pickM
      split
      · exact Int.le_refl _
      · rename_i hn
        have : ¬ (recM D (a + 1)).q > x.q := fun h => hn ⟨h1, h⟩
        omega
    omega
  · have hp1 : putI D a = a + 1 := (putI_at D a).resolve_left hp
    have e1 : pickM D' a ⟨a + 1, 0, []⟩ = x := by
      rw [hx]
      unfold pickM
      rw [show recM D' a = recM D a from (hr _).trans (if_neg (by omega))]
    rw [e1, hp1]
    unfold pickM
    rw [show recM D' (a + 1) = ⟨q, 0, b, true⟩ from (hr _).trans (if_pos hp1.symm)]
    refine if_pos ⟨rfl, ?_⟩
    show q > x.q
    have h3 : (lastM D a).q ≥ x.q := by
      rw [hL]
      unfold pickM
      split
      · rename_i hn; show (recM D (a + 1)).q ≥ x.q; omega
      · exact Int.le_refl _
    omega
theorem Live.save {D : DS} (h : Live D) (hb : Bytes D.seen) {a : Int} {b : List Int} (ha : 0 ≤ a ∧ a + 1 < (D.n : Int)) (hl : b.length ≤ 43) (hq : (lastM D a).q < 4294967295) :
    saveE D a b = 0 ∧ Live (saveD D a b) ∧ (saveD D a b).pend = [] ∧ lastM (saveD D a b) a = ⟨putI D a, (lastM D a).q + 1, b⟩ ∧ ∀ j, j ≠ a → j ≠ a + 1 → (saveD D a b).read j = D.read j := by
  have h0 := lastM_q hb a
  have hs := h.sync
  have hlen : (putS D a b).length = 64 := stampM_length _ _ hl
  have hne : ¬ (lastM D a).q = 4294967295 := by omega
  have hI := putI_at D a
  have hn : D.sync.n = D.n := DS.sync_nV D
  obtain ⟨w1, w2, w3⟩ := hs.1.write (i := putI D a) (b := putS D a b) (by omega) (by rw [hn]; omega) (by omega)
  have hE : putE D a b = 0 := (if_neg hne).trans w1
  have hD : putD D a b = D.sync.write (putI D a) (putS D a b) := if_neg hne
  have hS : saveD D a b = (D.sync.write (putI D a) (putS D a b)).sync := (if_pos hE).trans (by rw [hD])
  have hy := w2.sync
  have hrd : ∀ j, (saveD D a b).read j = if j = putI D a then putS D a b else D.read j := by
    intro j
    rw [hS, hy.2.2 j, w3 j, full_of hlen]
    split
    · rfl
    · exact hs.2.2 j
  refine ⟨?_, by rw [hS]; exact hy.1, by rw [hS]; exact hy.2.1, ?_, ?_⟩
  · unfold saveE
    rw [if_pos hE, hD, hy.1.dn]
    rfl
  · refine last_put rfl h0.1 (fun j => ?_)
    unfold recM
    rw [hrd j]
    split
    · exact parse_stamp (by omega) (by omega) hl
    · rfl
  · intro j h1 h2
    rw [hrd j, if_neg (by omega)]
end Go.Proofs.YtpaelngpmbeedaaGreatDoor
/- A server on a disk that lives: all goes well (plain). -/
namespace Go.Proofs.YtpaelngpmbeedaaGreatDoor

/-! ### an image of bytes fits -/
theorem bytB_26 {b : List Int} (h : b.length ≤ 24) : (bytB b).length ≤ 26 := by
  unfold bytB
  rw [List.length_append, numB_length, List.length_take]
  omega
theorem flat_26 : ∀ (l : List (List Int)), (∀ x ∈ l, x.length ≤ 24) → (l.flatMap bytB).length ≤ l.length * 26
  | [], _ => by simp
  | x :: r, h => by
    have h1 := bytB_26 (h x (by simp))
    have h2 := flat_26 r (fun y hy => h y (List.mem_cons_of_mem _ hy))
    rw [List.flatMap_cons, List.length_append, List.length_cons]
    omega
theorem regB_221 {x : Rg} (h : x.ok) : (regB x).length ≤ 221 := by
  have a0 := bytB_26 (h.bb 0)
  have a1 := bytB_26 (h.bb 1)
  have a2 := bytB_26 (h.bb 2)
  have a3 := bytB_26 (h.bb 3)
  have a4 := flat_26 x.log h.lb
  have a5 := h.ll
  have b0 := numI_length x.high 8
  have b1 : (numI x.seq 4).length = 4 := by rw [numI4, numB_length]
  have b2 : (numI (x.log.length : Nat) 1).length = 1 := by rw [numJ1, numB_length]
  unfold regB
  simp only [List.length_append]
  omega
structure MB (m : Nat → Rg) : Prop where
  b : ∀ k j, Bytes ((m k).b j)
  l : ∀ k, ∀ x ∈ (m k).log, Bytes x
theorem MB.aw0 : MB aw0 := ⟨fun _ _ => Bytes.nil, fun _ x hx => by simp [Go.Proofs.YtpaelngpmbeedaaGreatDoor.aw0, Rg.zero] at hx⟩
theorem flat_bytes : ∀ (l : List (List Int)), (∀ x ∈ l, Bytes x) → Bytes (l.flatMap bytB)
  | [], _ => Bytes.nil
  | x :: r, h => by
    rw [List.flatMap_cons]
    exact (bytB_bytes (h x (by simp))).append (flat_bytes r (fun y hy => h y (List.mem_cons_of_mem _ hy)))
theorem regB_bytes {m : Nat → Rg} (h : MB m) (k : Nat) : Bytes (regB (m k)) := by
  unfold regB
  exact (((((((numI_bytes _ _).append (numI_bytes _ _)).append (bytB_bytes (h.b k 0))).append (bytB_bytes (h.b k 1))).append (bytB_bytes (h.b k 2))).append (bytB_bytes (h.b k 3))).append (numI_bytes _ _)).append (flat_bytes _ (h.l k))
theorem MB.mok {m : Nat → Rg} (h : MB m) (ho : ∀ k, (m k).ok) : MOk m := by
  have e : packI m = ((([] ++ regB (m 0)) ++ regB (m 1)) ++ regB (m 2)) ++ regB (m 3) := by
    show packTo m 4 = _
    rw [packTo_succ, packTo_succ, packTo_succ, packTo_succ]
    rfl
  refine ⟨ho, ?_, ?_⟩
  · rw [e]
    simp only [List.length_append, List.length_nil]
    have h0 := regB_221 (ho 0)
    have h1 := regB_221 (ho 1)
    have h2 := regB_221 (ho 2)
    have h3 := regB_221 (ho 3)
    omega
  · rw [e]
    exact (((Bytes.nil.append (regB_bytes h 0)).append (regB_bytes h 1)).append (regB_bytes h 2)).append (regB_bytes h 3)
theorem MB.doM {m : Nat → Rg} {r : RQ} (h : MB m) (hr : Bytes r.data) : MB (doM m r) := by
  unfold Go.Proofs.YtpaelngpmbeedaaGreatDoor.doM
  split
  · refine ⟨fun k j => ?_, fun k x hx => ?_⟩
    · unfold upd
      split
      · show Bytes ((if r.op = 2 then upd _ r.index.toNat r.data else _) j)
        split
        · unfold upd
          split
          · exact hr
          · exact h.b _ j
        · exact h.b _ j
      · exact h.b k j
    · unfold upd at hx
      split at hx
      · have hx : x ∈ (if r.op = 4 then (m r.region.toNat).log ++ [r.data] else if r.op = 5 then (m r.region.toNat).log.drop r.index.toNat else (m r.region.toNat).log) := hx
        split at hx
        · rcases List.mem_append.1 hx with hx | hx
          · exact h.l _ x hx
          · rw [List.mem_singleton.1 hx]; exact hr
        · split at hx
          · exact h.l _ x (List.mem_of_mem_drop hx)
          · exact h.l _ x hx
      · exact h.l k x hx
  · exact h

/-! ### a mark tells what was written -/
theorem markB_W {m : MkM} (h : 0 ≤ m.ar ∧ m.ar ≤ 1) (hn : 0 ≤ m.nu ∧ m.nu < 4294967296) (hs : 0 ≤ m.sz ∧ m.sz < 65536) (hk : m.ok = true) : markB (markW m) = m := by
  have e1 : (Rd.mk (markW m) false).num 1 = (m.ar, ⟨numB m.nu 4 ++ numB m.sz 2, false⟩) := by
    have := Rd.num_plain (markW m) 1 (by omega) (by omega) (by rw [markW_length]; omega)
    rw [show ((1 : Nat) : Int) = 1 from rfl] at this
    rw [this]
    unfold markW
    rw [List.append_assoc, take_app (numB_length _ _), drop_app (numB_length _ _), ofB_num h.1 (by rw [show (256 : Int) ^ 1 = 256 by decide]; omega)]
  have e2 : (⟨numB m.nu 4 ++ numB m.sz 2, false⟩ : Rd).num 4 = (m.nu, ⟨numB m.sz 2, false⟩) := by
    have := Rd.num_plain (numB m.nu 4 ++ numB m.sz 2) 4 (by omega) (by omega) (by rw [List.length_append, numB_length]; omega)
    rw [show ((4 : Nat) : Int) = 4 from rfl] at this
    rw [this, take_app (numB_length _ _), drop_app (numB_length _ _), ofB_num hn.1 (by rw [show (256 : Int) ^ 4 = 4294967296 by decide]; omega)]
  have e3 : (⟨numB m.sz 2, false⟩ : Rd).num 2 = (m.sz, ⟨[], false⟩) := by
    have := Rd.num_plain (numB m.sz 2) 2 (by omega) (by omega) (by rw [numB_length]; omega)
    rw [show ((2 : Nat) : Int) = 2 from rfl] at this
    rw [this, List.take_of_length_le (by rw [numB_length]; omega), List.drop_eq_nil_of_le (by rw [numB_length]; omega), ofB_num hs.1 (by rw [show (256 : Int) ^ 2 = 65536 by decide]; omega)]
  have m1 : mkOf (markW m) = ⟨m.ar, m.nu, m.sz, true⟩ := by unfold mkOf; rw [e1, e2, e3]
  have m2 : (mkR (markW m)).endE = 0 := by unfold mkR; rw [e1, e2, e3]; rfl
  unfold markB
  rw [m1, m2, if_neg (by show ¬ ((0 : Int) ≠ 0 ∨ m.ar > 1); omega)]
  obtain ⟨ar, nu, sz, ok⟩ := m
  have hk : ok = true := hk
  subst hk
  rfl

/-! ### a vault's save -/
theorem Live.svs {D : DS} (h : Live D) {a ar nu : Int} {b : List Int} (ha : 0 ≤ a ∧ a + 44 ≤ (D.n : Int)) (har : 0 ≤ ar ∧ ar ≤ 1) : ∀ j, j ≤ 21 → (svGo D a ar nu b j).2 = 0 ∧ Live (svGo D a ar nu b j).1 ∧ (svGo D a ar nu b j).1.n = D.n ∧ ∀ i, (i < a + 2 ∨ a + 44 ≤ i) → (svGo D a ar nu b j).1.read i = D.read i
  | 0, _ => ⟨rfl, h, rfl, fun _ _ => rfl⟩
  | j + 1, hj => by
    obtain ⟨h1, h2, h3, h4⟩ := Live.svs h (a := a) (ar := ar) (nu := nu) (b := b) ha har j (by omega)
    have hi : svI a ar j = a + 2 + ar * 21 + (j : Nat) := rfl
    have hl : (partB b j).length ≤ 43 := by unfold partB; rw [List.length_take]; omega
    obtain ⟨w1, w2, w3⟩ := h2.write (i := svI a ar j) (b := stampM (((j : Nat) : Int) + 1) nu (partB b j)) (by omega) (by rw [h3]; omega) (by rw [stampM_length _ _ hl]; omega)
    rw [svGo_go h1]
    refine ⟨w1, w2, by show (DS.write _ _ _).n = _; rw [DS.write_nV]; exact h3, fun i hi2 => ?_⟩
    show (DS.write _ _ _).read i = _
    rw [w3 i, if_neg (by omega)]
    exact h4 i hi2
theorem Live.vSave {D : DS} {k : Nat} (h : Live D) (hD : DsOk D k) {a : Int} {b : List Int} (ha : 0 ≤ a ∧ a + 44 ≤ (D.n : Int)) (hb : Bytes b) (hl : b.length ≤ 903) (hq : (lastM D a).q < 4294967295) (hn : (markM D a).nu < 4294967295) :
    vSaveE D a b = 0 ∧ Live (vSaveD D a b) ∧ (lastM (vSaveD D a b) a).q = (lastM D a).q + 1 ∧ markM (vSaveD D a b) a = vMark D a b ∧ ∀ i, a + 44 ≤ i → (vSaveD D a b).read i = D.read i := by
  have hm := markM_range hD.b a
  have har : 0 ≤ (vMark D a b).ar ∧ (vMark D a b).ar ≤ 1 := by show 0 ≤ 1 - _ ∧ 1 - _ ≤ 1; omega
  have hj : (b.length + 42) / 43 ≤ 21 := by omega
  have hne : ¬ (markM D a).nu = 4294967295 := by omega
  have hG : (vSaveG D a b).2 = 0 ∧ Live (vSaveG D a b).1 ∧ (vSaveG D a b).1.n = D.n ∧ ∀ i, (i < a + 2 ∨ a + 44 ≤ i) → (vSaveG D a b).1.read i = D.read i := h.svs (nu := (vMark D a b).nu) (b := b) ha har _ hj
  have hbs : DsOk (vSaveG D a b).1 (k + (b.length + 42) / 43) := (svGo_ok (a := a) (ar := (vMark D a b).ar) (nu := (vMark D a b).nu) hD hb ((b.length + 42) / 43)).1
  have e2 : (vSaveG D a b).2 = 0 → vSaveD D a b = saveD (vSaveG D a b).1.sync a (markW (vMark D a b)) := fun h1 => (if_neg hne).trans (if_pos h1)
  have e1 : (vSaveG D a b).2 = 0 → vSaveE D a b = saveE (vSaveG D a b).1.sync a (markW (vMark D a b)) := fun h1 => (if_neg hne).trans (if_pos h1)
  generalize vSaveG D a b = G at hG hbs e1 e2
  obtain ⟨h1, h2, h3, h4⟩ := hG
  have e1 := e1 h1
  have e2 := e2 h1
  have hy := h2.sync
  have hyb := DS.sync_bytes hbs.b
  have hyn : G.1.sync.n = D.n := (DS.sync_nV _).trans h3
  have hr : ∀ i, (i < a + 2 ∨ a + 44 ≤ i) → G.1.sync.read i = D.read i := fun i hi => (hy.2.2 i).trans (h4 i hi)
  generalize G.1.sync = S at e1 e2 hy hyb hyn hr
  have hlast := lastM_same (D := D) (D' := S) (a := a) (hr a (by omega)) (hr (a + 1) (by omega))
  obtain ⟨mk, hmk⟩ : ∃ mk, mk = vMark D a b := ⟨_, rfl⟩
  have hW : markB (markW mk) = mk := by
    rw [hmk]
    exact markB_W har (by show 0 ≤ (markM D a).nu + 1 ∧ (markM D a).nu + 1 < _; omega) (by show (0 : Int) ≤ (b.length : Nat) ∧ ((b.length : Nat) : Int) < _; omega) rfl
  rw [← hmk] at e1 e2 ⊢
  obtain ⟨s1, s2, _, s4, s5⟩ := hy.1.save hyb (a := a) (b := markW mk) (by rw [hyn]; omega) (by rw [markW_length]; omega) (by rw [hlast]; exact hq)
  refine ⟨e1.trans s1, by rw [e2]; exact s2, by rw [e2, s4, hlast], ?_, fun i hi => ?_⟩
  · have q0 := lastM_q hyb a
    rw [e2]
    have hq1 : ¬ (lastM (saveD S a (markW mk)) a).q = 0 := by
      rw [s4]
      show ¬ (lastM S a).q + 1 = 0
      omega
    unfold markM
    rw [show loadE (saveD S a (markW mk)) a = 0 from if_neg hq1, if_pos rfl, show loadB (saveD S a (markW mk)) a = _ from if_neg hq1, s4]
    exact hW
  · rw [e2, s5 i (by omega) (by omega)]
    exact hr i (by omega)
end Go.Proofs.YtpaelngpmbeedaaGreatDoor
/- A server on a disk that lives: each request and each checkpoint goes well (plain). -/
namespace Go.Proofs.YtpaelngpmbeedaaGreatDoor

structure Fine (s : SM) (K : Int) (kk : Nat) : Prop where
  so : SOk s 1 6 kk
  mb : MB s.M
  lv : Live s.D
  n : s.D.n = 60
  at_ : s.J.at_ = 45
  dn : s.dn = false
  q1 : (lastM s.D 1).q ≤ K
  q2 : (lastM s.D 45).q ≤ K
  nu : (markM s.D 1).nu ≤ K
  f : 1 ≤ s.J.first ∧ s.J.first + (s.J.held.length : Nat) ≤ K
  e : s.J.ep ≤ K
theorem Fine.mono {s : SM} {K K' : Int} {kk kk' : Nat} (h : Fine s K kk) (hK : K ≤ K') (hk : kk ≤ kk') : Fine s K' kk' :=
  ⟨⟨h.so.d.mono hk, h.so.m, h.so.j, h.so.f, h.so.a0, h.so.j0, h.so.g⟩, h.mb, h.lv, h.n, h.at_, h.dn, Int.le_trans h.q1 hK, Int.le_trans h.q2 hK, Int.le_trans h.nu hK, ⟨h.f.1, Int.le_trans h.f.2 hK⟩, Int.le_trans h.e hK⟩
def SM.cpS (s : SM) (a : Int) : SM := ⟨s.M, cpD s.M s.D s.J a, cpJ s.M s.D s.J a, cpE s.M s.D s.J a == 43⟩
theorem JM.slot_len (J : JM) : J.slot.length = 12 := by simp only [JM.slot, List.length_append, numB_length]
theorem Fine.cp {s : SM} {K : Int} {kk : Nat} (h : Fine s K kk) (hK : K ≤ 1000000000) : cpE s.M s.D s.J 1 = 0 ∧ (cpJ s.M s.D s.J 1).held = [] ∧ Fine (s.cpS 1) (K + 1) (kk + 23) := by
  obtain ⟨M, D, J, dn⟩ := s
  have so := h.so
  have d : DsOk D kk := so.d
  have m : MOk M := so.m
  have hlv : Live D := h.lv
  have hn : D.n = 60 := h.n
  have hat : J.at_ = 45 := h.at_
  have q1 : (lastM D 1).q ≤ K := h.q1
  have q2 : (lastM D 45).q ≤ K := h.q2
  have nu : (markM D 1).nu ≤ K := h.nu
  have hf : 1 ≤ J.first ∧ J.first + (J.held.length : Nat) ≤ K := h.f
  obtain ⟨v1, v2, v3, v4, v5⟩ := hlv.vSave d (a := 1) (b := packI M) (by show (0 : Int) ≤ 1 ∧ (1 : Int) + 44 ≤ (D.n : Int); omega) m.pb m.pl (by show (lastM D 1).q < _; omega) (by show (markM D 1).nu < _; omega)
  have hv := vSave_ok 1 d m.pb m.pl
  have hl := lastM_same (D := D) (D' := vSaveD D 1 (packI M)) (a := 45) (v5 45 (by omega)) (v5 46 (by omega))
  have hvn : (vSaveD D 1 (packI M)).n = 60 := hv.2.trans hn
  obtain ⟨s1, s2, _, s4, s5⟩ := v2.save hv.1.b (a := 45) (b := J.trim.slot) (by omega) (by rw [JM.slot_len]; omega) (by rw [hl]; omega)
  have E0 : cpV M D 1 = 0 := v1
  have E1 : cpE M D J 1 = 0 := (if_pos E0).trans (by rw [hat]; exact s1)
  have E2 : cpD M D J 1 = saveD (vSaveD D 1 (packI M)) 45 J.trim.slot := (if_pos E0).trans (by rw [hat]; rfl)
  have E3 : cpJ M D J 1 = J.trim := if_pos E0
  refine ⟨E1, by show (cpJ M D J 1).held = []; rw [E3]; rfl, ?_⟩
  have h1 := lastM_same (D := vSaveD D 1 (packI M)) (D' := saveD (vSaveD D 1 (packI M)) 45 J.trim.slot) (a := 1) (s5 1 (by omega) (by omega)) (s5 2 (by omega) (by omega))
  have hS : SM.cpS ⟨M, D, J, dn⟩ 1 = ⟨M, saveD (vSaveD D 1 (packI M)) 45 J.trim.slot, J.trim, false⟩ := by
    show SM.mk M (cpD M D J 1) (cpJ M D J 1) (cpE M D J 1 == 43) = _
    rw [E1, E2, E3]
    rfl
  rw [hS]
  have hco := cpD_ok (J := J) (a := 1) d m
  rw [E2] at hco
  have hnn : (saveD (vSaveD D 1 (packI M)) 45 J.trim.slot).n = 60 := by rw [saveD_n]; exact hvn
  refine ⟨⟨hco.1, m, so.j.trim so.f, ?_, ?_, ?_, so.g⟩, h.mb, s2, hnn, hat, rfl, ?_, ?_, ?_, ?_, ?_⟩
  · show J.first + (J.held.length : Nat) + ((0 : Nat) : Int) ≤ 4000000000
    omega
  · show (0 : Int) ≤ 1 ∧ (1 : Int) + 44 ≤ ((saveD _ _ _).n : Int)
    rw [hnn]; decide
  · show 0 ≤ J.at_ ∧ J.at_ + 1 < ((saveD _ _ _).n : Int)
    rw [hnn, hat]; decide
  · show (lastM _ 1).q ≤ K + 1
    rw [h1, v3]; omega
  · show (lastM _ 45).q ≤ K + 1
    rw [s4]
    show (lastM _ 45).q + 1 ≤ K + 1
    rw [hl]; omega
  · show (markM _ 1).nu ≤ K + 1
    rw [markM_same h1, v4]
    show (markM D 1).nu + 1 ≤ K + 1
    omega
  · show 1 ≤ J.first + (J.held.length : Nat) ∧ J.first + (J.held.length : Nat) + ((0 : Nat) : Int) ≤ K + 1
    omega
  · show J.ep ≤ K + 1
    have := h.e
    have : J.ep ≤ K := this
    omega
/-- the append and the sync go well -/
theorem Fine.ap {s : SM} {K : Int} {kk : Nat} (h : Fine s K kk) (hK : K ≤ 1000000000) {b : List Int} (hb : Bytes b) (hl : b.length ≤ 43) (hlt : s.J.held.length < s.J.n) : apE s.D s.J b = 0 ∧ (apD s.D s.J b).down = false ∧ Fine ⟨s.M, apD s.D s.J b, s.J.app b, false⟩ (K + 1) (kk + 1) := by
  obtain ⟨M, D, J, dn⟩ := s
  have so := h.so
  have hn : D.n = 60 := h.n
  have hat : J.at_ = 45 := h.at_
  have hg : J.n = 6 := so.g
  have hlt : J.held.length < J.n := hlt
  have q1 : (lastM D 1).q ≤ K := h.q1
  have q2 : (lastM D 45).q ≤ K := h.q2
  have nu : (markM D 1).nu ≤ K := h.nu
  have hf : 1 ≤ J.first ∧ J.first + (J.held.length : Nat) ≤ K := h.f
  have hs : J.sec J.next = 45 + 2 + (J.first + (J.held.length : Nat)) % 6 := by
    show J.at_ + 2 + J.next % (J.n : Nat) = _
    rw [hat, hg]
    rfl
  have hlen : (stampM J.next J.ep b).length = 64 := stampM_length _ _ hl
  have hlv : Live D := h.lv
  obtain ⟨w1, w2, w3⟩ := hlv.write (i := J.sec J.next) (b := stampM J.next J.ep b) (by omega) (by rw [hs, hn]; omega) (by omega)
  have hy := w2.sync
  have A0 : J.appE D b = 0 := w1
  have A1 : apD D J b = (D.write (J.sec J.next) (stampM J.next J.ep b)).sync := if_pos A0
  have hr : ∀ j, (j < 47 ∨ 53 ≤ j) → (apD D J b).read j = D.read j := by
    intro j hj
    rw [A1, hy.2.2 j, w3 j, if_neg (by omega)]
  have hdn : (apD D J b).down = false := by rw [A1]; exact hy.1.dn
  have A2 : apE D J b = 0 := by
    unfold apE
    rw [hdn]
    exact A0
  have hok : DsOk (apD D J b) (kk + 1) := by
    rw [A1]
    exact (so.d.write _ (stampM_bytes _ _ hb)).sync
  have hnn : (apD D J b).n = 60 := by rw [A1, DS.sync_nV, DS.write_nV]; exact hn
  have l1 := lastM_same (D := D) (D' := apD D J b) (a := 1) (hr 1 (by omega)) (hr 2 (by omega))
  have l2 := lastM_same (D := D) (D' := apD D J b) (a := 45) (hr 45 (by omega)) (hr 46 (by omega))
  have hal : (J.app b).held.length = J.held.length + 1 := by show (J.held ++ [(J.ep, b)]).length = _; rw [List.length_append]; rfl
  refine ⟨A2, hdn, ⟨⟨hok, so.m, ⟨so.j.a0, so.j.n0, so.j.f0, so.j.e0, so.j.l0, ?_, ?_⟩, ?_, ?_, ?_, so.g⟩, h.mb, ?_, hnn, hat, rfl, ?_, ?_, ?_, ?_, ?_⟩⟩
  · show (J.app b).held.length ≤ J.n
    rw [hal]; omega
  · intro x hx
    rcases List.mem_append.1 hx with hx | hx
    · exact so.j.b0 x hx
    · rw [List.mem_singleton.1 hx]
      exact ⟨hl, hb, so.j.e0⟩
  · show J.first + ((J.app b).held.length : Nat) ≤ 4000000000
    rw [hal]; omega
  · show (0 : Int) ≤ 1 ∧ (1 : Int) + 44 ≤ ((apD D J b).n : Int)
    rw [hnn]; decide
  · show 0 ≤ J.at_ ∧ J.at_ + 1 < ((apD D J b).n : Int)
    rw [hnn, hat]; decide
  · show Live (apD D J b)
    rw [A1]; exact hy.1
  · show (lastM (apD D J b) 1).q ≤ K + 1
    rw [l1]; omega
  · show (lastM (apD D J b) 45).q ≤ K + 1
    rw [l2]; omega
  · show (markM (apD D J b) 1).nu ≤ K + 1
    rw [markM_same l1]; omega
  · show 1 ≤ J.first ∧ J.first + ((J.app b).held.length : Nat) ≤ K + 1
    rw [hal]; omega
  · show J.ep ≤ K + 1
    have he : J.ep ≤ K := h.e
    omega
theorem Fine.log {s : SM} {K : Int} {kk : Nat} (h : Fine s K kk) (hK : K ≤ 900000000) {b : List Int} (hb : Bytes b) (hl : b.length ≤ 43) : lgE s.M s.D s.J 1 6 b = 0 ∧ Fine ⟨s.M, lgD s.M s.D s.J 1 6 b, lgJ s.M s.D s.J 1 6 b, lgN s.M s.D s.J 1 6 b⟩ (K + 2) (kk + 24) := by
  have hg : s.J.n = 6 := h.so.g
  by_cases hc : 6 ≤ s.J.held.length
  · obtain ⟨c1, c2, c3⟩ := h.cp (by omega)
    have e1 : lgE1 s.M s.D s.J 1 6 = 0 := (if_pos hc).trans c1
    have e2 : lgD1 s.M s.D s.J 1 6 = (s.cpS 1).D := if_pos hc
    have e3 : lgJ1 s.M s.D s.J 1 6 = (s.cpS 1).J := if_pos hc
    have hlt : (s.cpS 1).J.held.length < (s.cpS 1).J.n := by
      rw [show (s.cpS 1).J.held = [] from c2, c3.so.g]
      decide
    obtain ⟨a1, a2, a3⟩ := c3.ap (by omega) hb hl hlt
    unfold lgE lgD lgJ lgN
    rw [if_pos e1, if_pos e1, if_pos e1, if_pos e1, e2, e3]
    refine ⟨a1, ?_⟩
    rw [a2]
    exact a3.mono (by omega) (by omega)
  · have e1 : lgE1 s.M s.D s.J 1 6 = 0 := if_neg hc
    have e2 : lgD1 s.M s.D s.J 1 6 = s.D := if_neg hc
    have e3 : lgJ1 s.M s.D s.J 1 6 = s.J := if_neg hc
    obtain ⟨a1, a2, a3⟩ := h.ap (by omega) hb hl (by omega)
    unfold lgE lgD lgJ lgN
    rw [if_pos e1, if_pos e1, if_pos e1, if_pos e1, e2, e3]
    refine ⟨a1, ?_⟩
    rw [a2]
    exact a3.mono (by omega) (by omega)
theorem encQ_43 (r : RQ) : (encQ r).length ≤ 43 := by
  unfold encQ
  split
  · rename_i hw
    have := RQ.wrong_zero hw
    have hb := bytB_26 this.2.2.2.2.2.2
    unfold reqB
    simp only [List.length_append]
    have b1 : ∀ x : Int, (numI x 1).length = 1 := fun x => by rw [numJ1, numB_length]
    have b4 : ∀ x : Int, (numI x 4).length = 4 := fun x => by rw [numI4, numB_length]
    have b8 := numI_length r.token 8
    rw [b1, b1, b1, b4]
    omega
  · exact Nat.zero_le _
theorem Fine.doS {s : SM} {K : Int} {kk : Nat} (h : Fine s K kk) (hK : K ≤ 900000000) {r : RQ} (hr : r.ok) (hb : Bytes r.data) : s.doE 1 6 r = (checkI s.M r).2 ∧ (s.doS 1 6 r).M = (if (checkI s.M r).2 = 0 then doM s.M r else s.M) ∧ Fine (s.doS 1 6 r) (K + 2) (kk + 24) := by
  obtain ⟨l1, l2⟩ := h.log hK (encQ_bytes hb) (encQ_43 r)
  have e0 : s.logE 1 6 r = 0 := by
    unfold SM.logE
    split
    · exact l1
    · rfl
  have hdn : ¬ s.dn = true := by rw [h.dn]; exact Bool.false_ne_true
  have e1 : s.doE 1 6 r = (checkI s.M r).2 := (if_neg hdn).trans (if_pos e0)
  have hg : Fine (s.logS 1 6 r) (K + 2) (kk + 24) := by
    unfold SM.logS
    split
    · exact l2
    · exact h.mono (by omega) (by omega)
  have hM : (s.logS 1 6 r).M = s.M := by unfold SM.logS; split <;> rfl
  refine ⟨e1, ?_, ?_⟩
  · unfold SM.doS
    rw [e1]
    split
    · rfl
    · exact hM
  · unfold SM.doS
    split
    · have hmb := h.mb.doM hb
      have hmo := doM_ok h.so.m.ok hr
      exact ⟨⟨hg.so.d, hmb.mok hmo, hg.so.j, hg.so.f, hg.so.a0, hg.so.j0, hg.so.g⟩, hmb, hg.lv, hg.n, hg.at_, hg.dn, hg.q1, hg.q2, hg.nu, hg.f, hg.e⟩
    · exact hg
end Go.Proofs.YtpaelngpmbeedaaGreatDoor
