/- Locks: the table, plainly. -/
import Derived.Test.YtbgknfdaaffeaaaImgM
namespace Go.Proofs.Ytbgknfdaaffeaaa

structure HoldM where
  c : Int
  m : Int
  t : Int
  u : Int
structure WantM where
  c : Int
  m : Int
structure RegM where
  h : List HoldM
  w : List WantM
structure TabM where
  now : Int
  last : Int
  r : Nat → RegM
def mostI : Int := 18446744073709551615
def untilI (now : Int) : Int := if now > 18446744073709551605 then 18446744073709551615 else now + 10
def hardB (m : Int) (h : HoldM) : Bool := (h.m == 2) || (m == 2)
def nodeB (n : Int) : Bool := decide (0 ≤ n) && decide (n < 16)
def thereB (n : Int) : Bool := decide (0 ≤ n) && decide (n < 4)
def modeB (n : Int) : Bool := (n == 1) || (n == 2)
def rightE (c r : Int) : Int := if nodeB c = false then 31 else if thereB r = false then 93 else 0
/-- gives as long as it can: who waits, who holds, the last token -/
def giveL (now : Int) : List WantM → List HoldM → Int → List WantM × List HoldM × Int
  | [], hs, last => ([], hs, last)
  | x :: ws, hs, last => if hs.length < 4 ∧ hs.any (hardB x.m) = false ∧ last < 18446744073709551615 then giveL now ws (hs ++ [⟨x.c, x.m, last + 1, untilI now⟩]) (last + 1) else (x :: ws, hs, last)
def TabM.give (T : TabM) (i : Nat) : TabM :=
  ⟨T.now, (giveL T.now (T.r i).w (T.r i).h T.last).2.2, upd T.r i ⟨(giveL T.now (T.r i).w (T.r i).h T.last).2.1, (giveL T.now (T.r i).w (T.r i).h T.last).1⟩⟩
def TabM.setH (T : TabM) (i : Nat) (hs : List HoldM) : TabM := ⟨T.now, T.last, upd T.r i ⟨hs, (T.r i).w⟩⟩
def TabM.setW (T : TabM) (i : Nat) (ws : List WantM) : TabM := ⟨T.now, T.last, upd T.r i ⟨(T.r i).h, ws⟩⟩
def findH (hs : List HoldM) (c : Int) : Option HoldM := hs.find? (fun h => h.c == c)
def findW (ws : List WantM) (c : Int) : Option WantM := ws.find? (fun w => w.c == c)
/-- waits, and gets it where it can -/
def TabM.acqNew (T : TabM) (c : Int) (i : Nat) (how : Int) : TabM × Int × Int :=
  match findH ((((T.setW i ((T.r i).w ++ [⟨c, how⟩])).give i).r i).h) c with
  | some h => ((T.setW i ((T.r i).w ++ [⟨c, how⟩])).give i, h.t, 0)
  | none => ((T.setW i ((T.r i).w ++ [⟨c, how⟩])).give i, 0, 90)
/-- wants a region: the table, the token, the error -/
def TabM.acqIn (T : TabM) (c : Int) (i : Nat) (how : Int) : TabM × Int × Int :=
  match findH (T.r i).h c with
  | some h => if h.m = how then (T, h.t, 0) else (T, 0, 91)
  | none => match findW (T.r i).w c with
    | some w => if w.m = how then (T, 0, 90) else (T, 0, 91)
    | none => if 4 ≤ (T.r i).w.length ∨ T.last = 18446744073709551615 then (T, 0, 42) else T.acqNew c i how
def TabM.acquire (T : TabM) (c r how : Int) : TabM × Int × Int :=
  if rightE c r ≠ 0 then (T, 0, rightE c r) else if modeB how = false then (T, 0, 91) else T.acqIn c r.toNat how
/-- where a client holds by a token -/
def TabM.heldE (T : TabM) (c r t : Int) : Int :=
  if rightE c r ≠ 0 then rightE c r else match findH (T.r r.toNat).h c with
  | some h => if h.t = t then 0 else 92
  | none => 92
/-- without the first one of a client -/
def dropH (hs : List HoldM) (c : Int) : List HoldM := hs.eraseP (fun h => h.c == c)
def dropW (ws : List WantM) (c : Int) : List WantM := ws.eraseP (fun w => w.c == c)
def TabM.release (T : TabM) (c r t : Int) : TabM × Int :=
  if T.heldE c r t ≠ 0 then (T, T.heldE c r t) else ((T.setH r.toNat (dropH (T.r r.toNat).h c)).give r.toNat, 0)
/-- the first one of a client with another until -/
def renewH : List HoldM → Int → Int → List HoldM
  | [], _, _ => []
  | h :: r, c, u => if h.c == c then ⟨h.c, h.m, h.t, u⟩ :: r else h :: renewH r c u
def TabM.renew (T : TabM) (c r t : Int) : TabM × Int × Int :=
  if T.heldE c r t ≠ 0 then (T, 0, T.heldE c r t) else (T.setH r.toNat (renewH (T.r r.toNat).h c (untilI T.now)), untilI T.now, 0)
def TabM.cancel (T : TabM) (c r : Int) : TabM × Int :=
  if rightE c r ≠ 0 then (T, rightE c r) else match findW (T.r r.toNat).w c with
  | some _ => ((T.setW r.toNat (dropW (T.r r.toNat).w c)).give r.toNat, 0)
  | none => (T, 41)
def TabM.time (T : TabM) (now : Int) : TabM :=
  if now ≤ T.now then T else
  ((((TabM.mk now T.last (fun i => ⟨(T.r i).h.filter (fun h => !decide (h.u ≤ now)), (T.r i).w⟩)).give 0).give 1).give 2).give 3
def TabM.holders (T : TabM) (r : Int) : List HoldM := if thereB r = true then (T.r r.toNat).h else []
def TabM.queue (T : TabM) (r : Int) : List WantM := if thereB r = true then (T.r r.toNat).w else []
def TabM.asked (T : TabM) (r : Int) : List Int := if thereB r = true then (match (T.r r.toNat).w with
  | [] => []
  | w :: _ => ((T.r r.toNat).h.filter (hardB w.m)).map HoldM.c) else []
structure TabOk (T : TabM) : Prop where
  now0 : 0 ≤ T.now
  now1 : T.now ≤ 18446744073709551615
  last0 : 0 ≤ T.last
  last1 : T.last ≤ 18446744073709551615
  hl : ∀ i, i < 4 → (T.r i).h.length ≤ 4
  wl : ∀ i, i < 4 → (T.r i).w.length ≤ 4
theorem giveL_ok (now : Int) : ∀ (ws : List WantM) (hs : List HoldM) (last : Int), 0 ≤ last → last ≤ 18446744073709551615 → hs.length ≤ 4 →
    (giveL now ws hs last).1.length ≤ ws.length ∧ (giveL now ws hs last).2.1.length ≤ 4 ∧ last ≤ (giveL now ws hs last).2.2 ∧ (giveL now ws hs last).2.2 ≤ 18446744073709551615
  | [], hs, last, h0, h1, h2 => ⟨by simp [giveL], h2, Int.le_refl _, h1⟩
  | x :: ws, hs, last, h0, h1, h2 => by
    unfold giveL
    split
    · rename_i hc
      obtain ⟨a, b, c, d⟩ := giveL_ok now ws (hs ++ [⟨x.c, x.m, last + 1, untilI now⟩]) (last + 1) (by omega) (by omega) (by simp; omega)
      exact ⟨by simp; omega, b, by omega, d⟩
    · exact ⟨Nat.le_refl _, h2, Int.le_refl _, h1⟩
theorem TabOk.give {T : TabM} (h : TabOk T) {i : Nat} (hi : i < 4) : TabOk (T.give i) := by
  obtain ⟨a, b, c, d⟩ := giveL_ok T.now (T.r i).w (T.r i).h T.last h.last0 h.last1 (h.hl i hi)
  have hw := h.wl i hi
  refine ⟨h.now0, h.now1, Int.le_trans h.last0 c, d, fun j hj => ?_, fun j hj => ?_⟩
  · show (upd T.r i _ j).h.length ≤ 4
    unfold upd
    split
    · exact b
    · exact h.hl j hj
  · show (upd T.r i _ j).w.length ≤ 4
    unfold upd
    split
    · exact Nat.le_trans a hw
    · exact h.wl j hj
theorem TabOk.setH {T : TabM} (h : TabOk T) {i : Nat} {hs : List HoldM} (hl : hs.length ≤ 4) : TabOk (T.setH i hs) := by
  refine ⟨h.now0, h.now1, h.last0, h.last1, fun j hj => ?_, fun j hj => ?_⟩
  · show (upd T.r i _ j).h.length ≤ 4
    unfold upd
    split
    · exact hl
    · exact h.hl j hj
  · show (upd T.r i _ j).w.length ≤ 4
    unfold upd
    split
    · rename_i e
      subst e
      exact h.wl _ hj
    · exact h.wl j hj
theorem TabOk.setW {T : TabM} (h : TabOk T) {i : Nat} {ws : List WantM} (hl : ws.length ≤ 4) : TabOk (T.setW i ws) := by
  refine ⟨h.now0, h.now1, h.last0, h.last1, fun j hj => ?_, fun j hj => ?_⟩
  · show (upd T.r i _ j).h.length ≤ 4
    unfold upd
    split
    · rename_i e
      subst e
      exact h.hl _ hj
    · exact h.hl j hj
  · show (upd T.r i _ j).w.length ≤ 4
    unfold upd
    split
    · exact hl
    · exact h.wl j hj
theorem rightE_ok {c r : Int} (h : rightE c r = 0) : 0 ≤ c ∧ c < 16 ∧ 0 ≤ r ∧ r < 4 := by
  unfold rightE at h
  split at h
  · omega
  · rename_i h1
    split at h
    · omega
    · rename_i h2
      unfold nodeB at h1
      unfold thereB at h2
      simp at h1 h2
      omega
theorem renewH_length (hs : List HoldM) (c u : Int) : (renewH hs c u).length = hs.length := by
  induction hs with
  | nil => rfl
  | cons h r ih =>
    unfold renewH
    split
    · rfl
    · simp [ih]
theorem TabOk.acquire {T : TabM} (h : TabOk T) (c r how : Int) : TabOk (T.acquire c r how).1 := by
  unfold TabM.acquire
  split
  · exact h
  · rename_i hr
    have hr := rightE_ok (by omega : rightE c r = 0)
    split
    · exact h
    · unfold TabM.acqIn
      split
      · split <;> exact h
      · split
        · split <;> exact h
        · split
          · exact h
          · rename_i hn
            have hs : TabOk (((T.setW r.toNat ((T.r r.toNat).w ++ [⟨c, how⟩]))).give r.toNat) := (h.setW (by simp; omega)).give (by omega)
            unfold TabM.acqNew
            split <;> exact hs
theorem TabOk.release {T : TabM} (h : TabOk T) (c r t : Int) : TabOk (T.release c r t).1 := by
  unfold TabM.release
  split
  · exact h
  · rename_i he
    have hr : rightE c r = 0 := by
      unfold TabM.heldE at he
      split at he
      · exact absurd (Decidable.not_not.1 he) (by assumption)
      · omega
    have hr := rightE_ok hr
    refine (h.setH ?_).give (by omega)
    have := h.hl r.toNat (by omega)
    exact Nat.le_trans (List.length_eraseP_le) this
theorem TabOk.renew {T : TabM} (h : TabOk T) (c r t : Int) : TabOk (T.renew c r t).1 := by
  unfold TabM.renew
  split
  · exact h
  · rename_i he
    have hr : rightE c r = 0 := by
      unfold TabM.heldE at he
      split at he
      · exact absurd (Decidable.not_not.1 he) (by assumption)
      · omega
    have hr := rightE_ok hr
    refine h.setH ?_
    rw [renewH_length]
    exact h.hl r.toNat (by omega)
theorem TabOk.cancel {T : TabM} (h : TabOk T) (c r : Int) : TabOk (T.cancel c r).1 := by
  unfold TabM.cancel
  split
  · exact h
  · rename_i he
    have hr := rightE_ok (by omega : rightE c r = 0)
    split
    · refine (h.setW ?_).give (by omega)
      exact Nat.le_trans (List.length_eraseP_le) (h.wl r.toNat (by omega))
    · exact h
theorem TabOk.time {T : TabM} (h : TabOk T) {now : Int} (h1 : now ≤ 18446744073709551615) : TabOk (T.time now) := by
  unfold TabM.time
  split
  · exact h
  · rename_i hn
    have h0 := h.now0
    have : TabOk (TabM.mk now T.last (fun i => ⟨(T.r i).h.filter (fun h => !decide (h.u ≤ now)), (T.r i).w⟩)) :=
      ⟨by show 0 ≤ now; omega, h1, h.last0, h.last1, fun j hj => Nat.le_trans (List.length_filter_le _ _) (h.hl j hj), fun j hj => h.wl j hj⟩
    exact (((this.give (by omega)).give (by omega)).give (by omega)).give (by omega)
end Go.Proofs.Ytbgknfdaaffeaaa
