/- An image read again out of its bytes; a request done again (plain). -/
import Derived.Test.YtpaelngpmbeedaaGreatDoorCsB
import Derived.Test.YtpaelngpmbeedaaGreatDoorUnpZ
namespace Go.Proofs.YtpaelngpmbeedaaGreatDoor

/-! ### images as the server holds them -/
structure MI (m : Nat → Rg) : Prop where
  ok : ∀ k, (m k).ok
  mb : MB m
  far : ∀ k, 4 ≤ k → m k = Rg.zero
  bf : ∀ k j, 4 ≤ j → (m k).b j = []
  hs : ∀ k, 0 < (m k).high ∨ (m k).seq = 0
theorem MI.aw0 : MI aw0 := ⟨fun _ => Rg.zero_ok, MB.aw0, fun _ _ => rfl, fun _ _ _ => rfl, fun _ => .inr rfl⟩
theorem MI.doM {m : Nat → Rg} {r : RQ} (h : MI m) (hr : r.ok) (hb : Bytes r.data) : MI (doM m r) := by
  refine ⟨doM_ok h.ok hr, h.mb.doM hb, fun k hk => ?_, fun k j hj => ?_, fun k => ?_⟩
  · unfold Go.Proofs.YtpaelngpmbeedaaGreatDoor.doM
    split
    · rename_i hc
      have hg := check_ok hc.1
      have := hg.k
      have := (RQ.wrong_zero hg.w).2.2.1
      rw [upd_ne _ _ _ _ (by omega)]
      exact h.far k hk
    · exact h.far k hk
  · unfold Go.Proofs.YtpaelngpmbeedaaGreatDoor.doM
    split
    · rename_i hc
      have hg := check_ok hc.1
      unfold upd
      split
      · show (if r.op = 2 then upd _ r.index.toNat r.data else _) j = []
        split
        · rename_i h2
          have := hg.i (by omega)
          have := (RQ.wrong_zero hg.w).2.2.2.2.1
          rw [upd_ne _ _ _ _ (by omega)]
          exact h.bf _ j hj
        · exact h.bf _ j hj
      · exact h.bf k j hj
    · exact h.bf k j hj
  · unfold Go.Proofs.YtpaelngpmbeedaaGreatDoor.doM
    split
    · rename_i hc
      have hf := check_fresh hc.2
      unfold upd
      split
      · refine .inl ?_
        show 0 < r.token
        have := hr.t0
        have := hf.2.1
        omega
      · exact h.hs k
    · exact h.hs k
theorem MI.mok {m : Nat → Rg} (h : MI m) : MOk m := h.mb.mok h.ok

/-! ### read again -/
theorem numQ_back {x : Int} {k : Nat} (h0 : 0 ≤ x) (h1 : x < 256 ^ k) (k1 : 1 ≤ k) (k8 : k ≤ 8) (rest : List Int) : Rd.num ⟨numB x k ++ rest, false⟩ (k : Int) = (x, ⟨rest, false⟩) := by
  obtain ⟨n, rfl⟩ := Int.eq_ofNat_of_zero_le h0
  rw [Rd.num_append n k k1 k8]
  have h3 : ((256 ^ k : Nat) : Int) = (256 : Int) ^ k := Int.natCast_pow 256 k
  rw [← h3] at h1
  rw [Nat.mod_eq_of_lt (Int.ofNat_lt.1 h1)]
theorem logs_back (l : List (List Int)) (rest : List Int) (hl : ∀ x ∈ l, x.length ≤ 24) : ∀ n, n ≤ l.length → Rd.logs ⟨l.flatMap bytB ++ rest, false⟩ n = (l.take n, ⟨(l.drop n).flatMap bytB ++ rest, false⟩)
  | 0, _ => rfl
  | n + 1, h => by
    have ih := logs_back l rest hl n (by omega)
    show ((Rd.logs _ n).1 ++ [(Rd.logs _ n).2.byt.1], (Rd.logs _ n).2.byt.2) = _
    rw [ih]
    have e : l.drop n = l[n] :: l.drop (n + 1) := List.drop_eq_getElem_cons (by omega)
    have eb : Rd.byt ⟨(l.drop n).flatMap bytB ++ rest, false⟩ = (l[n], ⟨(l.drop (n + 1)).flatMap bytB ++ rest, false⟩) := by
      rw [e, List.flatMap_cons, List.append_assoc]
      exact byt_back _ (by have := hl _ (List.getElem_mem (show n < l.length by omega)); omega) _
    show (l.take n ++ [(Rd.byt ⟨(l.drop n).flatMap bytB ++ rest, false⟩).1], (Rd.byt ⟨(l.drop n).flatMap bytB ++ rest, false⟩).2) = _
    rw [eb, List.take_add_one, List.getElem?_eq_getElem (by omega)]
    rfl
theorem blk_back (b : Nat → List Int) (rest : List Int) (hb : ∀ j, (b j).length ≤ 24) (hf : ∀ j, 4 ≤ j → b j = []) : Rd.blk ⟨bytB (b 0) ++ (bytB (b 1) ++ (bytB (b 2) ++ (bytB (b 3) ++ rest))), false⟩ 4 = (b, ⟨rest, false⟩) := by
  have h24 : ∀ j, (b j).length ≤ 1000 := fun j => by have := hb j; omega
  obtain ⟨s, hs⟩ : ∃ s : Rd, s = ⟨bytB (b 0) ++ (bytB (b 1) ++ (bytB (b 2) ++ (bytB (b 3) ++ rest))), false⟩ := ⟨_, rfl⟩
  rw [← hs]
  have e1 : s.blk 1 = (upd (fun _ => []) 0 (b 0), ⟨bytB (b 1) ++ (bytB (b 2) ++ (bytB (b 3) ++ rest)), false⟩) := by
    show (upd (fun _ => []) 0 (Rd.byt s).1, (Rd.byt s).2) = _
    rw [hs, byt_back _ (h24 0)]
  have e2 : s.blk 2 = (upd (upd (fun _ => []) 0 (b 0)) 1 (b 1), ⟨bytB (b 2) ++ (bytB (b 3) ++ rest), false⟩) := by
    show (upd (s.blk 1).1 1 (s.blk 1).2.byt.1, (s.blk 1).2.byt.2) = _
    rw [e1]
    show (upd _ 1 (Rd.byt _).1, (Rd.byt _).2) = _
    rw [byt_back _ (h24 1)]
  have e3 : s.blk 3 = (upd (upd (upd (fun _ => []) 0 (b 0)) 1 (b 1)) 2 (b 2), ⟨bytB (b 3) ++ rest, false⟩) := by
    show (upd (s.blk 2).1 2 (s.blk 2).2.byt.1, (s.blk 2).2.byt.2) = _
    rw [e2]
    show (upd _ 2 (Rd.byt _).1, (Rd.byt _).2) = _
    rw [byt_back _ (h24 2)]
  show (upd (s.blk 3).1 3 (s.blk 3).2.byt.1, (s.blk 3).2.byt.2) = _
  rw [e3]
  show (upd _ 3 (Rd.byt _).1, (Rd.byt _).2) = _
  rw [byt_back _ (h24 3)]
  refine Prod.ext (funext fun j => ?_) rfl
  show (if j = 3 then b 3 else if j = 2 then b 2 else if j = 1 then b 1 else if j = 0 then b 0 else []) = b j
  split
  · rename_i h; rw [h]
  · split
    · rename_i h; rw [h]
    · split
      · rename_i h; rw [h]
      · split
        · rename_i h; rw [h]
        · exact (hf j (by omega)).symm
theorem rg_back (x : Rg) (hx : x.ok) (hf : ∀ j, 4 ≤ j → x.b j = []) (rest : List Int) : Rd.rg ⟨regB x ++ rest, false⟩ = x ∧ (Rd.h5 ⟨regB x ++ rest, false⟩).2 = ⟨rest, false⟩ := by
  obtain ⟨s, hs⟩ : ∃ s : Rd, s = ⟨regB x ++ rest, false⟩ := ⟨_, rfl⟩
  have e0 : regB x ++ rest = numB x.high 8 ++ (numB x.seq 4 ++ (bytB (x.b 0) ++ (bytB (x.b 1) ++ (bytB (x.b 2) ++ (bytB (x.b 3) ++ (numB (x.log.length : Nat) 1 ++ (x.log.flatMap bytB ++ rest))))))) := by
    unfold regB
    rw [show numI x.high 8 = numB x.high 8 from rfl, show numI x.seq 4 = numB x.seq 4 from rfl, show numI (x.log.length : Nat) 1 = numB (x.log.length : Nat) 1 from rfl]
    simp only [List.append_assoc]
  rw [← hs]
  rw [e0] at hs
  have e1 : s.h1 = (x.high, ⟨numB x.seq 4 ++ (bytB (x.b 0) ++ (bytB (x.b 1) ++ (bytB (x.b 2) ++ (bytB (x.b 3) ++ (numB (x.log.length : Nat) 1 ++ (x.log.flatMap bytB ++ rest)))))), false⟩) := by
    show s.num ((8 : Nat) : Int) = _
    rw [hs]
    exact numQ_back hx.h0 (by rw [show (256 : Int) ^ 8 = 18446744073709551616 by decide]; exact hx.h1) (by omega) (by omega) _
  have e2 : s.h2 = (x.seq, ⟨bytB (x.b 0) ++ (bytB (x.b 1) ++ (bytB (x.b 2) ++ (bytB (x.b 3) ++ (numB (x.log.length : Nat) 1 ++ (x.log.flatMap bytB ++ rest))))), false⟩) := by
    show s.h1.2.num ((4 : Nat) : Int) = _
    rw [e1]
    exact numQ_back hx.s0 (by rw [show (256 : Int) ^ 4 = 4294967296 by decide]; exact hx.s1) (by omega) (by omega) _
  have e3 : s.h3 = (x.b, ⟨numB (x.log.length : Nat) 1 ++ (x.log.flatMap bytB ++ rest), false⟩) := by
    show s.h2.2.blk 4 = _
    rw [e2]
    exact blk_back x.b _ hx.bb hf
  have e4 : s.h4 = (((x.log.length : Nat) : Int), ⟨x.log.flatMap bytB ++ rest, false⟩) := by
    show s.h3.2.num ((1 : Nat) : Int) = _
    rw [e3]
    have := hx.ll
    exact numQ_back (by omega) (by rw [show (256 : Int) ^ 1 = 256 by decide]; omega) (by omega) (by omega) _
  have e5 : s.h5 = (x.log, ⟨rest, false⟩) := by
    show s.h4.2.logs s.h4.1.toNat = _
    rw [e4]
    show Rd.logs ⟨x.log.flatMap bytB ++ rest, false⟩ ((x.log.length : Int).toNat) = _
    rw [Int.toNat_natCast, logs_back _ _ hx.lb _ (Nat.le_refl _), List.take_length, List.drop_length]
    rfl
  refine ⟨?_, by rw [e5]⟩
  show Rg.mk s.h1.1 s.h2.1 s.h3.1 s.h5.1 = x
  rw [e1, e2, e3, e5]
theorem img_back {m : Nat → Rg} (h : MI m) : Rd.img ⟨packI m, false⟩ 4 = (m, ⟨[], false⟩) := by
  have e : packI m = regB (m 0) ++ (regB (m 1) ++ (regB (m 2) ++ (regB (m 3) ++ []))) := by
    show packTo m 4 = _
    rw [packTo_succ, packTo_succ, packTo_succ, packTo_succ, List.append_nil]
    show ((([] ++ regB (m 0)) ++ regB (m 1)) ++ regB (m 2)) ++ regB (m 3) = _
    simp only [List.append_assoc, List.nil_append]
  obtain ⟨s, hs⟩ : ∃ s : Rd, s = ⟨packI m, false⟩ := ⟨_, rfl⟩
  rw [← hs]
  rw [e] at hs
  have e1 : s.img 1 = (upd aw0 0 (m 0), ⟨regB (m 1) ++ (regB (m 2) ++ (regB (m 3) ++ [])), false⟩) := by
    show (upd aw0 0 (Rd.rg s), (Rd.h5 s).2) = _
    obtain ⟨a1, a2⟩ := rg_back (m 0) (h.ok 0) (h.bf 0) (regB (m 1) ++ (regB (m 2) ++ (regB (m 3) ++ [])))
    rw [hs, a1, a2]
  have e2 : s.img 2 = (upd (upd aw0 0 (m 0)) 1 (m 1), ⟨regB (m 2) ++ (regB (m 3) ++ []), false⟩) := by
    show (upd (s.img 1).1 1 (s.img 1).2.rg, (s.img 1).2.h5.2) = _
    rw [e1]
    obtain ⟨a1, a2⟩ := rg_back (m 1) (h.ok 1) (h.bf 1) (regB (m 2) ++ (regB (m 3) ++ []))
    show (upd _ 1 (Rd.rg _), (Rd.h5 _).2) = _
    rw [a1, a2]
  have e3 : s.img 3 = (upd (upd (upd aw0 0 (m 0)) 1 (m 1)) 2 (m 2), ⟨regB (m 3) ++ [], false⟩) := by
    show (upd (s.img 2).1 2 (s.img 2).2.rg, (s.img 2).2.h5.2) = _
    rw [e2]
    obtain ⟨a1, a2⟩ := rg_back (m 2) (h.ok 2) (h.bf 2) (regB (m 3) ++ [])
    show (upd _ 2 (Rd.rg _), (Rd.h5 _).2) = _
    rw [a1, a2]
  show (upd (s.img 3).1 3 (s.img 3).2.rg, (s.img 3).2.h5.2) = _
  rw [e3]
  obtain ⟨a1, a2⟩ := rg_back (m 3) (h.ok 3) (h.bf 3) []
  show (upd _ 3 (Rd.rg _), (Rd.h5 _).2) = _
  rw [a1, a2]
  refine Prod.ext (funext fun j => ?_) rfl
  show (if j = 3 then m 3 else if j = 2 then m 2 else if j = 1 then m 1 else if j = 0 then m 0 else aw0 j) = m j
  split
  · rename_i h; rw [h]
  · split
    · rename_i h; rw [h]
    · split
      · rename_i h; rw [h]
      · split
        · rename_i h; rw [h]
        · exact (h.far j (by omega)).symm
theorem unp_back {m : Nat → Rg} (h : MI m) : unpE (packI m) = 0 := by
  have hi : imgOk m 4 = true := by
    unfold imgOk
    rw [List.all_eq_true]
    intro k _
    have ho := h.ok k
    unfold rgOk blkOk
    simp only [Bool.and_eq_true, List.all_eq_true, decide_eq_true_eq, Bool.or_eq_true, beq_iff_eq]
    exact ⟨⟨⟨fun i _ => decide_eq_true (ho.bb i), fun x hx => decide_eq_true (ho.lb x hx)⟩, ho.ll⟩, h.hs k⟩
  unfold unpE
  rw [img_back h, if_neg (show ¬ (Rd.endE ⟨[], false⟩ ≠ 0) by decide), if_pos hi]

/-! ### done again -/
/-- a request that is not newer than its region -/
def Abs (m : Nat → Rg) (r : RQ) : Prop := r.token < (m r.region.toNat).high ∨ r.token = (m r.region.toNat).high ∧ r.seq ≤ (m r.region.toNat).seq
theorem fresh_up {m : Nat → Rg} {r : RQ} (h0 : (checkI m r).2 = 0) (h : (checkI m r).1 = true) : (m r.region.toNat).high < r.token ∨ r.token = (m r.region.toNat).high ∧ r.seq = (m r.region.toNat).seq + 1 := by
  have hg := (check_ok h0).t
  unfold checkI at h
  split at h
  · cases h
  · split at h
    · cases h
    · split at h
      · cases h
      · split at h
        · cases h
        · split at h
          · unfold Rg.next Rg.nextA at h
            split at h
            · rename_i h1; exact .inl h1
            · split at h
              · cases h
              · split at h
                · cases h
                · split at h
                  · cases h
                  · rename_i h1 _ _ h4
                    exact .inr ⟨by omega, Decidable.not_not.1 h4⟩
          · cases h
theorem abs_doM {m : Nat → Rg} {r : RQ} (h : Abs m r) : doM m r = m := by
  unfold doM
  refine if_neg (fun hc => ?_)
  have h1 := fresh_up hc.1 hc.2
  unfold Abs at h
  omega
theorem abs_self {m : Nat → Rg} {r : RQ} (h0 : (checkI m r).2 = 0) (h : (checkI m r).1 = true) : Abs (doM m r) r := by
  unfold Abs doM
  rw [if_pos ⟨h0, h⟩, upd_at]
  exact .inr ⟨rfl, Int.le_refl _⟩
theorem abs_keep {m : Nat → Rg} {r x : RQ} (h : Abs m r) : Abs (doM m x) r := by
  unfold doM
  split
  · rename_i hc
    have h1 := fresh_up hc.1 hc.2
    unfold Abs upd at *
    by_cases hk : r.region.toNat = x.region.toNat
    · rw [if_pos hk]
      rw [hk] at h
      show r.token < x.token ∨ r.token = x.token ∧ r.seq ≤ x.seq
      omega
    · rw [if_neg hk]
      exact h
  · exact h
theorem check_againC {m : Nat → Rg} {x : RQ} (h0 : (checkI m x).2 = 0) (h1 : (checkI m x).1 = true) : checkI (doM m x) x = (false, 0) := by
  have hg := check_ok h0
  obtain ⟨hc, ht, _⟩ := check_fresh h1
  have hm : doM m x = upd m x.region.toNat ((m x.region.toNat).act x) := if_pos ⟨h0, h1⟩
  unfold checkI
  rw [if_neg (fun h => h hg.w), if_neg (by have := hg.k; omega), if_neg (fun h => by have := hg.i h.1; omega), hm, upd_at, if_neg ?_, if_pos hc]
  · show Rg.nextA x.token x.seq _ x = _
    unfold Rg.nextA
    rw [if_neg (by omega), if_pos rfl]
  · rintro (h | h)
    · have h : x.token < x.token := h
      omega
    · exact ht h.1
theorem once_mq (m : Nat → Rg) (x : RQ) : doM (doM m x) x = doM m x := by
  by_cases h : (checkI m x).2 = 0 ∧ (checkI m x).1 = true
  · have := check_againC h.1 h.2
    generalize doM m x = q at *
    unfold doM
    rw [if_neg (by rw [this]; simp)]
  · have hm : doM m x = m := if_neg h
    rw [hm, hm]
theorem once_eq (m : Nat → Rg) (x : RQ) (h0 : (checkI m x).2 = 0) : (checkI (doM m x) x).2 = 0 := by
  by_cases h : (checkI m x).1 = true
  · rw [check_againC h0 h]
  · have hm : doM m x = m := if_neg (fun h' => h h'.2)
    rw [hm, h0]
end Go.Proofs.YtpaelngpmbeedaaGreatDoor
