/- CacheLasts: the law's walk. -/
import Derived.Test.YtbnjeekhoaapiaaCaRo
namespace Go.Proofs.Ytbnjeekhoaapiaa
open Go.RowKit Go.Shelf

def stepA (s : List PU × List PU) (o : OpC) : List PU × List PU :=
  if o.d = 1 then (readB s.1 o.r o.i, s.2) else if o.d = 2 then (fillB s.1 s.2 o.put, s.2) else if o.d = 3 then (wrB s.1 s.2 o.put, wrW s.1 s.2 o.put) else if o.d = 4 then (s.1, flW s.2 o.r o.n) else
  if o.d = 5 then (s.1.filter (fun x => !inReg o.r x), s.2.filter (fun x => !inReg o.r x)) else s
/-- is it laid in by this one? -/
def laidA (s : List PU × List PU) (o : OpC) (r i : Int) : Prop := (o.d = 2 ∧ fillE s.1 s.2 o.r o.i = 0 ∨ o.d = 3 ∧ wrE s.1 s.2 o.put = 0) ∧ o.r = r ∧ o.i = i
instance (s : List PU × List PU) (o : OpC) (r i : Int) : Decidable (laidA s o r i) := inferInstanceAs (Decidable ((_ ∨ _) ∧ _))
def stepL (r i : Int) (s : (List PU × List PU) × List Int) (o : OpC) : (List PU × List PU) × List Int := (stepA s.1 o, if laidA s.1 o r i then o.b else s.2)
def runL (r i : Int) (l : List OpC) : (List PU × List PU) × List Int := l.foldl (stepL r i) (([], []), [])
structure InvL (r i : Int) (n : Nat) (s : (List PU × List PU) × List Int) : Prop where
  c : InvC n s.1.1 s.1.2
  last : ∀ x ∈ s.1.1, keyOf x = (r, i) → x.data = s.2
theorem stepA_inv {n : Nat} {s : List PU × List PU} {x : OpC} (h : InvC n s.1 s.2) (hx : x.b.length ≤ 140737488355328) : InvC (n + 1) (stepA s x).1 (stepA s x).2 := by
  unfold stepA
  split
  · exact h.read.le (by omega)
  · split
    · exact (h.fill hx).le (by omega)
    · split
      · exact h.write
      · split
        · exact (h.flush _).le (by omega)
        · split
          · exact h.drop.le (by omega)
          · exact h.le (by omega)
theorem read_mem {bl : List PU} {r i : Int} {y : PU} (h : y ∈ readB bl r i) : y ∈ bl := by
  rcases idxP_spec (keyIs r i) bl 0 with ⟨h1, h2⟩ | ⟨k, x, h1, h2, h3⟩
  · unfold readB at h
    rw [h1, if_neg (by omega)] at h
    exact h
  · rw [Nat.zero_add] at h1
    unfold readB at h
    rw [h1, if_pos (by omega), Int.toNat_natCast, h2] at h
    rcases mem_erase h with h | rfl
    · exact h
    · exact List.mem_of_getElem? h2
/-- who is there behind lay: who was there with another key, or what was laid in -/
theorem lay_mem {n : Nat} {bl ws : List PU} {p y : PU} (hI : InvC n bl ws) (h : y ∈ layB bl ws p) : y = p ∧ layE bl ws p.region p.index = 0 ∨ y ∈ bl ∧ (keyOf y ≠ keyOf p ∨ layE bl ws p.region p.index ≠ 0) := by
  rcases lay_cases bl ws p with ⟨h0, k, x, h1, h2, h3⟩ | ⟨h0, ⟨h4, h1, h2⟩ | ⟨h4, _, k, x, h1, h2, h3⟩ | ⟨h4, _, h1⟩⟩
  · rw [h3] at h
    rcases List.mem_append.1 h with h | h
    · refine .inr ⟨List.mem_of_mem_eraseIdx h, .inl fun e => ?_⟩
      have hn := hI.nd
      rw [split_at h1, List.map_append, List.map_cons] at hn
      rw [List.eraseIdx_eq_take_drop_succ] at h
      have hn2 := (List.nodup_append.1 hn)
      rcases List.mem_append.1 h with h | h
      · exact hn2.2.2 _ (List.mem_map.2 ⟨y, h, rfl⟩) (keyOf x) (by simp) (e.trans h2.symm)
      · exact (List.nodup_cons.1 hn2.2.1).1 (by rw [h2, ← e]; exact List.mem_map.2 ⟨y, h, rfl⟩)
    · exact .inl ⟨by simpa using h, h0⟩
  · rw [h2] at h
    rcases List.mem_append.1 h with h | h
    · exact .inr ⟨h, .inl (h0 y h)⟩
    · exact .inl ⟨by simpa using h, h4⟩
  · rw [h3] at h
    rcases List.mem_append.1 h with h | h
    · exact .inr ⟨List.mem_of_mem_eraseIdx h, .inl (h0 y (List.mem_of_mem_eraseIdx h))⟩
    · exact .inl ⟨by simpa using h, h4⟩
  · rw [h1] at h
    exact .inr ⟨h, .inr (by rw [h4]; decide)⟩
theorem InvL.step {r i : Int} {n : Nat} {s : (List PU × List PU) × List Int} {x : OpC} (h : InvL r i n s) (hx : x.b.length ≤ 140737488355328) : InvL r i (n + 1) (stepL r i s x) := by
  refine ⟨stepA_inv h.c hx, fun y hy hk => ?_⟩
  have key : ∀ (E : Int) (y : PU), (E = 0 ↔ laidA s.1 x r i ∨ (E = 0 ∧ ¬ (x.r = r ∧ x.i = i))) → (y = x.put ∧ E = 0 ∨ y ∈ s.1.1 ∧ (keyOf y ≠ keyOf x.put ∨ E ≠ 0)) → keyOf y = (r, i) → y.data = if laidA s.1 x r i then x.b else s.2 := by
    intro E y hE h1 hk
    rcases h1 with ⟨rfl, h0⟩ | ⟨h1, h2⟩
    · have e1 : x.r = r := congrArg Prod.fst hk
      have e2 : x.i = i := congrArg Prod.snd hk
      rw [if_pos ((hE.1 h0).resolve_right (fun h => h.2 ⟨e1, e2⟩))]
      rfl
    · rw [if_neg]
      · exact h.last y h1 hk
      · intro hl
        rcases h2 with h2 | h2
        · exact h2 (hk.trans (by unfold keyOf OpC.put; rw [hl.2.1, hl.2.2]))
        · exact h2 (hE.2 (.inl hl))
  have no : ∀ y : PU, y ∈ s.1.1 → x.d ≠ 2 → x.d ≠ 3 → keyOf y = (r, i) → y.data = if laidA s.1 x r i then x.b else s.2 := fun y hy h2 h3 hk => by
    rw [if_neg (fun hl => by rcases hl.1 with h1 | h1; exact h2 h1.1; exact h3 h1.1)]
    exact h.last y hy hk
  show y.data = if laidA s.1 x r i then x.b else s.2
  change y ∈ (stepA s.1 x).1 at hy
  unfold stepA at hy
  split at hy
  · rename_i hd
    exact no y (read_mem hy) (by omega) (by omega) hk
  · split at hy
    · rename_i hd
      change y ∈ fillB s.1.1 s.1.2 x.put at hy
      refine key (fillE s.1.1 s.1.2 x.r x.i) y ⟨fun h0 => ?_, fun h0 => ?_⟩ ?_ hk
      · by_cases e : x.r = r ∧ x.i = i
        · exact .inl ⟨.inl ⟨hd, h0⟩, e⟩
        · exact .inr ⟨h0, e⟩
      · rcases h0 with h0 | h0
        · rcases h0.1 with h1 | h1
          · exact h1.2
          · omega
        · exact h0.1
      · unfold fillB at hy
        unfold fillE
        split at hy
        · rename_i hw
          exact .inr ⟨hy, .inr (by rw [if_pos (show s.1.2.any (keyIs x.r x.i) = true from hw)]; decide)⟩
        · rename_i hw
          rw [if_neg (show ¬ s.1.2.any (keyIs x.r x.i) = true from hw)]
          exact lay_mem h.c hy
    · split at hy
      · rename_i hd
        change y ∈ wrB s.1.1 s.1.2 x.put at hy
        refine key (wrE s.1.1 s.1.2 x.put) y ⟨fun h0 => ?_, fun h0 => ?_⟩ ?_ hk
        · by_cases e : x.r = r ∧ x.i = i
          · exact .inl ⟨.inr ⟨hd, h0⟩, e⟩
          · exact .inr ⟨h0, e⟩
        · rcases h0 with h0 | h0
          · rcases h0.1 with h1 | h1
            · omega
            · exact h1.2
          · exact h0.1
        · unfold wrB at hy
          unfold wrE
          split at hy
          · rename_i hw
            rw [if_pos hw]
            exact lay_mem h.c hy
          · rename_i hw
            rw [if_neg hw]
            exact .inr ⟨hy, .inr hw⟩
      · split at hy
        · exact no y hy (by omega) (by omega) hk
        · split at hy
          · exact no y (List.mem_filter.1 hy).1 (by omega) (by omega) hk
          · exact no y hy (by omega) (by omega) hk
theorem runL_inv (r i : Int) (l : List OpC) (hl : ∀ x ∈ l, x.b.length ≤ 140737488355328) : InvL r i l.length (runL r i l) := by
  suffices ∀ (n : Nat) (s : (List PU × List PU) × List Int), InvL r i n s → InvL r i (n + l.length) (l.foldl (stepL r i) s) by
    have := this 0 (([], []), []) ⟨InvC.init, fun x hx => by simp at hx⟩
    rwa [Nat.zero_add] at this
  induction l with
  | nil => exact fun n s h => h
  | cons x q ih =>
    intro n s h
    have := ih (fun y hy => hl y (by simp [hy])) (n + 1) _ (h.step (hl x (by simp)))
    rw [List.foldl_cons, List.length_cons]
    rwa [show n + (q.length + 1) = n + 1 + q.length by omega]
theorem runL_snoc {r i : Int} {l : List OpC} {k : Nat} {x : OpC} (hx : l[k]? = some x) : runL r i (l.take (k + 1)) = stepL r i (runL r i (l.take k)) x := by
  unfold runL
  rw [List.take_add_one, hx, List.foldl_append]
  rfl
theorem readD_last {r i : Int} {n : Nat} {s : (List PU × List PU) × List Int} (h : InvL r i n s) (hd : decide (0 ≤ idxP (keyIs r i) 0 s.1.1) = true) : readD s.1.1 r i = s.2 := by
  rcases idxP_spec (keyIs r i) s.1.1 0 with ⟨h1, h2⟩ | ⟨k, x, h1, h2, h3⟩
  · rw [h1] at hd
    cases hd
  · rw [Nat.zero_add] at h1
    unfold readD
    rw [h1, if_pos (by omega), Int.toNat_natCast, h2]
    exact h.last x (List.mem_of_getElem? h2) ((keyIs_iff r i x).1 h3)
theorem dirty_there {r i : Int} {n : Nat} {bl ws : List PU} (h : InvC n bl ws) (hd : (ws.filter (inReg r)).any (keyIs r i) = true) : decide (0 ≤ idxP (keyIs r i) 0 bl) = true := by
  rw [idxP_any]
  obtain ⟨y, hy, e⟩ := (any_key _ r i).1 hd
  obtain ⟨z, hz, e2⟩ := h.on y (List.mem_filter.1 hy).1
  exact (any_key bl r i).2 ⟨z, hz, e2.trans e⟩
set_option maxHeartbeats 8000000 in
set_option maxRecDepth 100000 in
theorem lasts_st {M0 : Imm} {L : List Res} (v : Value) (l : List OpC) (r i : Int) (w : World) (hb : ∀ x ∈ l, x.b.length ≤ 140737488355328) (h : St M0 w (rowsR 5 OpR v l :: L)) :
    Calls Try.prog 9 #[v, .int .i64 r, .int .i64 i] w fun e w' => e = .returned (.bool true) ∧ St M0 w' L := by
  obtain ⟨A, c, rfl, hc, hm⟩ := (h.getRows 0 rfl).slice
  generalize hn : l.length = n at *
  have HN := hide hn
  have HB := hide hb
  have H := hide h
  clear hn h hb
  by_cases t0 : 100 < n
  · have dt0 : decide ((100 : Int) < (n : Int)) = true := decide_eq_true (by omega)
    go_enter Try.func9, Try.ntmps9
    go_wp2_with fail
    refine (awakeC_st _ H.out).mono ?_
    rintro e w1 ⟨rfl, h⟩
    have H1 := hide h
    clear H h
    go_wp2_with fail
    go_ret
    exact ⟨rfl, H1.out.tail.grow ((Fr.refl _ _).alloc _)⟩
  have dt0 : decide ((100 : Int) < (n : Int)) = false := decide_eq_false (by omega)
  go_enter Try.func9, Try.ntmps9
  go_wp2_with fail
  refine (awakeC_st _ H.out).mono ?_
  rintro e w1 ⟨rfl, h⟩
  have h2 := h.newCache.alloc 59 #[.int .i64 r, .int .i64 i]
  rw [World.size_alloc] at h2
  have H1 := hide ((h2.pers0 (R := fun w' => Ints w' .u8 (.slice none 0 0) []) (fun w' _ => Ints.none_ w' _)))
  clear H h h2
  go_wp2_with fail
  generalize w1.heap.size + 1 = y9 at *
  generalize w1.heap.size = g at *
  clear dt0
  go_loopg [10, 11] n (fun gh lv iv wr => ∃ (k : Nat) (B : Option Addr) (q d : Nat), gh = n - k ∧ k ≤ n ∧ lv = .slice B q d ∧ iv = .int .i64 (k : Nat) ∧ St M0 wr (intsR .u8 (.slice B q d) (runL r i (l.take k)).2 :: blkR y9 59 #[.int .i64 r, .int .i64 i] :: cacheR g (runL r i (l.take k)).1.1 (runL r i (l.take k)).1.2 :: rowsR 5 OpR (.slice A n c) l :: L))
  case atStart => exact ⟨0, none, 0, 0, rfl, by omega, rfl, rfl, H1.out⟩
  case round =>
    clear H1
    obtain ⟨k, B, q, d, hg, hk, rfl, rfl, h⟩ := hrel
    have HG := hide hg
    clear hg
    by_cases hlt : k < n
    · have hx := List.getElem?_eq_getElem (l := l) (i := k) (by rw [HN.out]; exact hlt)
      generalize l[k]'(by rw [HN.out]; exact hlt) = x at hx
      have hbx := HB.out x (List.mem_of_getElem? hx)
      have hinv := (runL_inv r i (l.take k) (fun y hy => HB.out y (List.mem_of_mem_take hy))).c
      rw [List.length_take] at hinv
      have HI := hide (hinv.le (Nat.min_le_left k l.length))
      have HS := hide (runL_snoc (r := r) (i := i) hx)
      obtain ⟨ad, B1, d1, rfl, h1⟩ := h.opE 3 rfl hx
      generalize runL r i (l.take k) = m at *
      have HBX := hide hbx
      obtain ⟨e0, e1, e2, e3, e4⟩ := (h1.get 0 rfl).1
      have h2 := (h1.pers1 (R' := fun w' => Ints w' .u8 (.slice B1 x.b.length d1) x.b) (fun w' hw => hw.2)).alloc 99 #[.int .i64 x.d, .int .i64 x.r, .int .i64 x.i, .int .i64 x.n, .slice B1 x.b.length d1]
      have h3 := h2.alloc 59 #[.int .i64 x.r, .int .i64 x.i]
      rw [World.size_alloc] at h3
      generalize hz : wr.heap.size = z at h3
      generalize hy : z + 1 = y at h3
      have x0 := (h3.blk 1 rfl).cell 0
      have x1 := (h3.blk 1 rfl).cell 1
      have x2 := (h3.blk 1 rfl).cell 2
      have x3 := (h3.blk 1 rfl).cell 3
      have x4 := (h3.blk 1 rfl).cell 4
      have y0 := (h3.blk 0 rfl).cell 0
      have y1 := (h3.blk 0 rfl).cell 1
      have H1 := hide h3
      clear hx hbx hinv h h1 h2 h3
      have i0 : (0 : Int) ≤ (k : Int) := by omega
      have i1 : (k : Int) < (n : Int) := by omega
      have i2 : (n : Int) ≤ (c : Int) := by omega
      by_cases c1 : x.d = 1
      · have b1 : (x.d == 1) = true := isT c1
        obtain ⟨s2, hs2⟩ : ∃ s2, s2 = (readB m.1.1 x.r x.i, m.1.2) := ⟨_, rfl⟩
        have ES := hide (show stepA m.1 x = s2 by rw [hs2]; unfold stepA; simp [c1])
        have b2 : (x.d == 2) = false := isF (by omega)
        have b3 : (x.d == 3) = false := isF (by omega)
        have EL := hide (show (if laidA m.1 x r i then x.b else m.2) = m.2 from if_neg (fun hl => by rcases hl.1 with h1 | h1 <;> omega))
        clear c1
        have HIN := hide (H1.out.pick (L' := cacheR g m.1.1 m.1.2 :: blkR y 59 #[.int .i64 x.r, .int .i64 x.i] :: blkR z 99 #[.int .i64 x.d, .int .i64 x.r, .int .i64 x.i, .int .i64 x.n, .slice B1 x.b.length d1] :: intsR .u8 (.slice B1 x.b.length d1) x.b :: intsR .u8 (.slice B q d) m.2 :: blkR y9 59 #[.int .i64 r, .int .i64 i] :: rowsR 5 OpR (.slice (some ad) n c) l :: L) 7 [5, 0, 1, 2, 3, 4, 6])
        go_wp2_with fail
        refine (read_st g m.1.1 m.1.2 x.r x.i _ HI.out.bl' HI.out.bd HIN.out).mono ?_
        rintro e w5 ⟨v5, rfl, h4⟩
        have H4 := h4.pick (L' := blkR y 59 #[.int .i64 x.r, .int .i64 x.i] :: blkR z 99 #[.int .i64 x.d, .int .i64 x.r, .int .i64 x.i, .int .i64 x.n, .slice B1 x.b.length d1] :: intsR .u8 (.slice B1 x.b.length d1) x.b :: intsR .u8 (.slice B q d) m.2 :: blkR y9 59 #[.int .i64 r, .int .i64 i] :: cacheR g (readB m.1.1 x.r x.i) m.1.2 :: rowsR 5 OpR (.slice (some ad) n c) l :: L) 8 [2, 3, 4, 5, 6, 1, 7]
        have H4 : St M0 w5 (blkR y 59 #[.int .i64 x.r, .int .i64 x.i] :: blkR z 99 #[.int .i64 x.d, .int .i64 x.r, .int .i64 x.i, .int .i64 x.n, .slice B1 x.b.length d1] :: intsR .u8 (.slice B1 x.b.length d1) x.b :: intsR .u8 (.slice B q d) m.2 :: blkR y9 59 #[.int .i64 r, .int .i64 i] :: cacheR g s2.1 s2.2 :: rowsR 5 OpR (.slice (some ad) n c) l :: L) := by rw [hs2]; exact H4
        clear HIN hs2
        have H5 : Hid (St M0 w5 (blkR y 59 #[.int .i64 x.r, .int .i64 x.i] :: blkR z 99 #[.int .i64 x.d, .int .i64 x.r, .int .i64 x.i, .int .i64 x.n, .slice B1 x.b.length d1] :: intsR .u8 (.slice B1 x.b.length d1) x.b :: intsR .u8 (.slice B q d) m.2 :: blkR y9 59 #[.int .i64 r, .int .i64 i] :: cacheR g s2.1 s2.2 :: rowsR 5 OpR (.slice (some ad) n c) l :: L)) := hide H4
        clear H4 H1 x0 x1 x2 x3 x4 y0 y1
        have x0 := (H5.out.blk 1 rfl).cell 0
        have x4 := (H5.out.blk 1 rfl).cell 4
        have y0 := (H5.out.blk 0 rfl).cell 0
        have y1 := (H5.out.blk 0 rfl).cell 1
        have k0 := (H5.out.blk 4 rfl).cell 0
        have k1 := (H5.out.blk 4 rfl).cell 1
        have H7 := hide (H5.out.pick (L' := intsR .u8 (.slice B q d) m.2 :: blkR y9 59 #[.int .i64 r, .int .i64 i] :: cacheR g s2.1 s2.2 :: rowsR 5 OpR (.slice (some ad) n c) l :: L) 7 [3, 4, 5, 6])
        clear H5
        go_wp2_with fail
        go_roundg (n - (k + 1))
        case measure => have := HG.out; omega
        case rel => exact ⟨k + 1, B, q, d, rfl, by omega, rfl, by go_num, by
          rw [HS.out]
          show St M0 _ (intsR .u8 _ (if laidA m.1 x r i then x.b else m.2) :: blkR y9 59 #[.int .i64 r, .int .i64 i] :: cacheR g (stepA m.1 x).1 (stepA m.1 x).2 :: _)
          rw [EL.out, ES.out]
          exact H7.out⟩
      have b1 : (x.d == 1) = false := isF c1
      by_cases c2 : x.d = 2
      · have b2 : (x.d == 2) = true := isT c2
        obtain ⟨s2, hs2⟩ : ∃ s2, s2 = (fillB m.1.1 m.1.2 x.put, m.1.2) := ⟨_, rfl⟩
        have ES := hide (show stepA m.1 x = s2 by rw [hs2]; unfold stepA; simp [c2])
        have b3 : (x.d == 3) = false := isF (by omega)
        have ELY := hide (show fillE m.1.1 m.1.2 x.r x.i = 0 → x.r = r → x.i = i → (if laidA m.1 x r i then x.b else m.2) = x.b from fun h1 h2 h3 => if_pos ⟨.inl ⟨c2, h1⟩, h2, h3⟩)
        have ELN := hide (show ¬ (fillE m.1.1 m.1.2 x.r x.i = 0 ∧ x.r = r ∧ x.i = i) → (if laidA m.1 x r i then x.b else m.2) = m.2 from fun hn => if_neg (fun hl => hn ⟨by rcases hl.1 with h1 | h1 <;> first | exact h1.2 | omega, hl.2⟩))
        clear c1 c2
        have HIN := hide ((H1.out.copy 2 rfl).pick (L' := intsR .u8 (.slice B1 x.b.length d1) x.b :: cacheR g m.1.1 m.1.2 :: blkR y 59 #[.int .i64 x.r, .int .i64 x.i] :: blkR z 99 #[.int .i64 x.d, .int .i64 x.r, .int .i64 x.i, .int .i64 x.n, .slice B1 x.b.length d1] :: intsR .u8 (.slice B1 x.b.length d1) x.b :: intsR .u8 (.slice B q d) m.2 :: blkR y9 59 #[.int .i64 r, .int .i64 i] :: rowsR 5 OpR (.slice (some ad) n c) l :: L) 8 [0, 6, 1, 2, 3, 4, 5, 7])
        go_wp2_with fail
        refine (fill_st g m.1.1 m.1.2 x.r x.i B1 x.b.length d1 x.b _ HI.out.bl' HBX.out HIN.out).mono ?_
        rintro e w5 ⟨rfl, h4⟩
        have H4 := h4.pick (L' := blkR y 59 #[.int .i64 x.r, .int .i64 x.i] :: blkR z 99 #[.int .i64 x.d, .int .i64 x.r, .int .i64 x.i, .int .i64 x.n, .slice B1 x.b.length d1] :: intsR .u8 (.slice B1 x.b.length d1) x.b :: intsR .u8 (.slice B q d) m.2 :: blkR y9 59 #[.int .i64 r, .int .i64 i] :: cacheR g (fillB m.1.1 m.1.2 x.put) m.1.2 :: rowsR 5 OpR (.slice (some ad) n c) l :: L) 7 [1, 2, 3, 4, 5, 0, 6]
        have H4 : St M0 w5 (blkR y 59 #[.int .i64 x.r, .int .i64 x.i] :: blkR z 99 #[.int .i64 x.d, .int .i64 x.r, .int .i64 x.i, .int .i64 x.n, .slice B1 x.b.length d1] :: intsR .u8 (.slice B1 x.b.length d1) x.b :: intsR .u8 (.slice B q d) m.2 :: blkR y9 59 #[.int .i64 r, .int .i64 i] :: cacheR g s2.1 s2.2 :: rowsR 5 OpR (.slice (some ad) n c) l :: L) := by rw [hs2]; exact H4
        clear HIN hs2
        have H5 : Hid (St M0 w5 (blkR y 59 #[.int .i64 x.r, .int .i64 x.i] :: blkR z 99 #[.int .i64 x.d, .int .i64 x.r, .int .i64 x.i, .int .i64 x.n, .slice B1 x.b.length d1] :: intsR .u8 (.slice B1 x.b.length d1) x.b :: intsR .u8 (.slice B q d) m.2 :: blkR y9 59 #[.int .i64 r, .int .i64 i] :: cacheR g s2.1 s2.2 :: rowsR 5 OpR (.slice (some ad) n c) l :: L)) := hide H4
        clear H4 H1 x0 x1 x2 x3 x4 y0 y1
        have x0 := (H5.out.blk 1 rfl).cell 0
        have x4 := (H5.out.blk 1 rfl).cell 4
        have y0 := (H5.out.blk 0 rfl).cell 0
        have y1 := (H5.out.blk 0 rfl).cell 1
        have k0 := (H5.out.blk 4 rfl).cell 0
        have k1 := (H5.out.blk 4 rfl).cell 1
        generalize fillE m.1.1 m.1.2 x.r x.i = ee at ELY ELN ⊢
        by_cases ce : ee = 0
        · subst ce
          by_cases cr : x.r = r
          · have br : (x.r == r) = true := isT cr
            by_cases ci : x.i = i
            · have bi : (x.i == i) = true := isT ci
              have EL := hide (ELY.out rfl cr ci)
              clear cr ci ELY ELN
              have H7 := hide (H5.out.pick (L' := intsR .u8 (.slice B1 x.b.length d1) x.b :: blkR y9 59 #[.int .i64 r, .int .i64 i] :: cacheR g s2.1 s2.2 :: rowsR 5 OpR (.slice (some ad) n c) l :: L) 7 [2, 4, 5, 6])
              clear H5
              go_wp2_with fail
              go_roundg (n - (k + 1))
              case measure => have := HG.out; omega
              case rel => exact ⟨k + 1, B1, x.b.length, d1, rfl, by omega, rfl, by go_num, by
                rw [HS.out]
                show St M0 _ (intsR .u8 _ (if laidA m.1 x r i then x.b else m.2) :: blkR y9 59 #[.int .i64 r, .int .i64 i] :: cacheR g (stepA m.1 x).1 (stepA m.1 x).2 :: _)
                rw [EL.out, ES.out]
                exact H7.out⟩
            · have bi : (x.i == i) = false := isF ci
              have EL := hide (ELN.out (fun h => ci h.2.2))
              clear cr ci ELY ELN
              have H7 := hide (H5.out.pick (L' := intsR .u8 (.slice B q d) m.2 :: blkR y9 59 #[.int .i64 r, .int .i64 i] :: cacheR g s2.1 s2.2 :: rowsR 5 OpR (.slice (some ad) n c) l :: L) 7 [3, 4, 5, 6])
              clear H5
              go_wp2_with fail
              go_roundg (n - (k + 1))
              case measure => have := HG.out; omega
              case rel => exact ⟨k + 1, B, q, d, rfl, by omega, rfl, by go_num, by
                rw [HS.out]
                show St M0 _ (intsR .u8 _ (if laidA m.1 x r i then x.b else m.2) :: blkR y9 59 #[.int .i64 r, .int .i64 i] :: cacheR g (stepA m.1 x).1 (stepA m.1 x).2 :: _)
                rw [EL.out, ES.out]
                exact H7.out⟩
          · have br : (x.r == r) = false := isF cr
            have EL := hide (ELN.out (fun h => cr h.2.1))
            clear cr ELY ELN
            have H7 := hide (H5.out.pick (L' := intsR .u8 (.slice B q d) m.2 :: blkR y9 59 #[.int .i64 r, .int .i64 i] :: cacheR g s2.1 s2.2 :: rowsR 5 OpR (.slice (some ad) n c) l :: L) 7 [3, 4, 5, 6])
            clear H5
            go_wp2_with fail
            go_roundg (n - (k + 1))
            case measure => have := HG.out; omega
            case rel => exact ⟨k + 1, B, q, d, rfl, by omega, rfl, by go_num, by
              rw [HS.out]
              show St M0 _ (intsR .u8 _ (if laidA m.1 x r i then x.b else m.2) :: blkR y9 59 #[.int .i64 r, .int .i64 i] :: cacheR g (stepA m.1 x).1 (stepA m.1 x).2 :: _)
              rw [EL.out, ES.out]
              exact H7.out⟩
        · have be : (ee == 0) = false := isF ce
          have EL := hide (ELN.out (fun h => ce h.1))
          clear ce ELY ELN
          have H7 := hide (H5.out.pick (L' := intsR .u8 (.slice B q d) m.2 :: blkR y9 59 #[.int .i64 r, .int .i64 i] :: cacheR g s2.1 s2.2 :: rowsR 5 OpR (.slice (some ad) n c) l :: L) 7 [3, 4, 5, 6])
          clear H5
          go_wp2_with fail
          go_roundg (n - (k + 1))
          case measure => have := HG.out; omega
          case rel => exact ⟨k + 1, B, q, d, rfl, by omega, rfl, by go_num, by
            rw [HS.out]
            show St M0 _ (intsR .u8 _ (if laidA m.1 x r i then x.b else m.2) :: blkR y9 59 #[.int .i64 r, .int .i64 i] :: cacheR g (stepA m.1 x).1 (stepA m.1 x).2 :: _)
            rw [EL.out, ES.out]
            exact H7.out⟩
      have b2 : (x.d == 2) = false := isF c2
      by_cases c3 : x.d = 3
      · have b3 : (x.d == 3) = true := isT c3
        obtain ⟨s2, hs2⟩ : ∃ s2, s2 = (wrB m.1.1 m.1.2 x.put, wrW m.1.1 m.1.2 x.put) := ⟨_, rfl⟩
        have ES := hide (show stepA m.1 x = s2 by rw [hs2]; unfold stepA; simp [c3])
        have ELY := hide (show wrE m.1.1 m.1.2 x.put = 0 → x.r = r → x.i = i → (if laidA m.1 x r i then x.b else m.2) = x.b from fun h1 h2 h3 => if_pos ⟨.inr ⟨c3, h1⟩, h2, h3⟩)
        have ELN := hide (show ¬ (wrE m.1.1 m.1.2 x.put = 0 ∧ x.r = r ∧ x.i = i) → (if laidA m.1 x r i then x.b else m.2) = m.2 from fun hn => if_neg (fun hl => hn ⟨by rcases hl.1 with h1 | h1 <;> first | exact h1.2 | omega, hl.2⟩))
        clear c1 c2 c3
        have HIN := hide ((H1.out.copy 2 rfl).pick (L' := intsR .u8 (.slice B1 x.b.length d1) x.b :: cacheR g m.1.1 m.1.2 :: blkR y 59 #[.int .i64 x.r, .int .i64 x.i] :: blkR z 99 #[.int .i64 x.d, .int .i64 x.r, .int .i64 x.i, .int .i64 x.n, .slice B1 x.b.length d1] :: intsR .u8 (.slice B1 x.b.length d1) x.b :: intsR .u8 (.slice B q d) m.2 :: blkR y9 59 #[.int .i64 r, .int .i64 i] :: rowsR 5 OpR (.slice (some ad) n c) l :: L) 8 [0, 6, 1, 2, 3, 4, 5, 7])
        go_wp2_with fail
        refine (write_st g m.1.1 m.1.2 x.r x.i B1 x.b.length d1 x.b _ HI.out.bl' (HI.out.wl' (by omega)) HI.out.wd' HIN.out).mono ?_
        rintro e w5 ⟨rfl, h4⟩
        have H4 := h4.pick (L' := blkR y 59 #[.int .i64 x.r, .int .i64 x.i] :: blkR z 99 #[.int .i64 x.d, .int .i64 x.r, .int .i64 x.i, .int .i64 x.n, .slice B1 x.b.length d1] :: intsR .u8 (.slice B1 x.b.length d1) x.b :: intsR .u8 (.slice B q d) m.2 :: blkR y9 59 #[.int .i64 r, .int .i64 i] :: cacheR g (wrB m.1.1 m.1.2 x.put) (wrW m.1.1 m.1.2 x.put) :: rowsR 5 OpR (.slice (some ad) n c) l :: L) 7 [1, 2, 3, 4, 5, 0, 6]
        have H4 : St M0 w5 (blkR y 59 #[.int .i64 x.r, .int .i64 x.i] :: blkR z 99 #[.int .i64 x.d, .int .i64 x.r, .int .i64 x.i, .int .i64 x.n, .slice B1 x.b.length d1] :: intsR .u8 (.slice B1 x.b.length d1) x.b :: intsR .u8 (.slice B q d) m.2 :: blkR y9 59 #[.int .i64 r, .int .i64 i] :: cacheR g s2.1 s2.2 :: rowsR 5 OpR (.slice (some ad) n c) l :: L) := by rw [hs2]; exact H4
        clear HIN hs2
        have H5 : Hid (St M0 w5 (blkR y 59 #[.int .i64 x.r, .int .i64 x.i] :: blkR z 99 #[.int .i64 x.d, .int .i64 x.r, .int .i64 x.i, .int .i64 x.n, .slice B1 x.b.length d1] :: intsR .u8 (.slice B1 x.b.length d1) x.b :: intsR .u8 (.slice B q d) m.2 :: blkR y9 59 #[.int .i64 r, .int .i64 i] :: cacheR g s2.1 s2.2 :: rowsR 5 OpR (.slice (some ad) n c) l :: L)) := hide H4
        clear H4 H1 x0 x1 x2 x3 x4 y0 y1
        have x0 := (H5.out.blk 1 rfl).cell 0
        have x4 := (H5.out.blk 1 rfl).cell 4
        have y0 := (H5.out.blk 0 rfl).cell 0
        have y1 := (H5.out.blk 0 rfl).cell 1
        have k0 := (H5.out.blk 4 rfl).cell 0
        have k1 := (H5.out.blk 4 rfl).cell 1
        have hput : wrE m.1.1 m.1.2 x.put = wrE m.1.1 m.1.2 ⟨x.r, x.i, x.b⟩ := rfl
        rw [hput] at ELY ELN
        clear hput
        generalize wrE m.1.1 m.1.2 ⟨x.r, x.i, x.b⟩ = ee at ELY ELN ⊢
        by_cases ce : ee = 0
        · subst ce
          by_cases cr : x.r = r
          · have br : (x.r == r) = true := isT cr
            by_cases ci : x.i = i
            · have bi : (x.i == i) = true := isT ci
              have EL := hide (ELY.out rfl cr ci)
              clear cr ci ELY ELN
              have H7 := hide (H5.out.pick (L' := intsR .u8 (.slice B1 x.b.length d1) x.b :: blkR y9 59 #[.int .i64 r, .int .i64 i] :: cacheR g s2.1 s2.2 :: rowsR 5 OpR (.slice (some ad) n c) l :: L) 7 [2, 4, 5, 6])
              clear H5
              go_wp2_with fail
              go_roundg (n - (k + 1))
              case measure => have := HG.out; omega
              case rel => exact ⟨k + 1, B1, x.b.length, d1, rfl, by omega, rfl, by go_num, by
                rw [HS.out]
                show St M0 _ (intsR .u8 _ (if laidA m.1 x r i then x.b else m.2) :: blkR y9 59 #[.int .i64 r, .int .i64 i] :: cacheR g (stepA m.1 x).1 (stepA m.1 x).2 :: _)
                rw [EL.out, ES.out]
                exact H7.out⟩
            · have bi : (x.i == i) = false := isF ci
              have EL := hide (ELN.out (fun h => ci h.2.2))
              clear cr ci ELY ELN
              have H7 := hide (H5.out.pick (L' := intsR .u8 (.slice B q d) m.2 :: blkR y9 59 #[.int .i64 r, .int .i64 i] :: cacheR g s2.1 s2.2 :: rowsR 5 OpR (.slice (some ad) n c) l :: L) 7 [3, 4, 5, 6])
              clear H5
              go_wp2_with fail
              go_roundg (n - (k + 1))
              case measure => have := HG.out; omega
              case rel => exact ⟨k + 1, B, q, d, rfl, by omega, rfl, by go_num, by
                rw [HS.out]
                show St M0 _ (intsR .u8 _ (if laidA m.1 x r i then x.b else m.2) :: blkR y9 59 #[.int .i64 r, .int .i64 i] :: cacheR g (stepA m.1 x).1 (stepA m.1 x).2 :: _)
                rw [EL.out, ES.out]
                exact H7.out⟩
          · have br : (x.r == r) = false := isF cr
            have EL := hide (ELN.out (fun h => cr h.2.1))
            clear cr ELY ELN
            have H7 := hide (H5.out.pick (L' := intsR .u8 (.slice B q d) m.2 :: blkR y9 59 #[.int .i64 r, .int .i64 i] :: cacheR g s2.1 s2.2 :: rowsR 5 OpR (.slice (some ad) n c) l :: L) 7 [3, 4, 5, 6])
            clear H5
            go_wp2_with fail
            go_roundg (n - (k + 1))
            case measure => have := HG.out; omega
            case rel => exact ⟨k + 1, B, q, d, rfl, by omega, rfl, by go_num, by
              rw [HS.out]
              show St M0 _ (intsR .u8 _ (if laidA m.1 x r i then x.b else m.2) :: blkR y9 59 #[.int .i64 r, .int .i64 i] :: cacheR g (stepA m.1 x).1 (stepA m.1 x).2 :: _)
              rw [EL.out, ES.out]
              exact H7.out⟩
        · have be : (ee == 0) = false := isF ce
          have EL := hide (ELN.out (fun h => ce h.1))
          clear ce ELY ELN
          have H7 := hide (H5.out.pick (L' := intsR .u8 (.slice B q d) m.2 :: blkR y9 59 #[.int .i64 r, .int .i64 i] :: cacheR g s2.1 s2.2 :: rowsR 5 OpR (.slice (some ad) n c) l :: L) 7 [3, 4, 5, 6])
          clear H5
          go_wp2_with fail
          go_roundg (n - (k + 1))
          case measure => have := HG.out; omega
          case rel => exact ⟨k + 1, B, q, d, rfl, by omega, rfl, by go_num, by
            rw [HS.out]
            show St M0 _ (intsR .u8 _ (if laidA m.1 x r i then x.b else m.2) :: blkR y9 59 #[.int .i64 r, .int .i64 i] :: cacheR g (stepA m.1 x).1 (stepA m.1 x).2 :: _)
            rw [EL.out, ES.out]
            exact H7.out⟩
      have b3 : (x.d == 3) = false := isF c3
      by_cases c4 : x.d = 4
      · have b4 : (x.d == 4) = true := isT c4
        obtain ⟨s2, hs2⟩ : ∃ s2, s2 = (m.1.1, flW m.1.2 x.r x.n) := ⟨_, rfl⟩
        have ES := hide (show stepA m.1 x = s2 by rw [hs2]; unfold stepA; simp [c4])
        have EL := hide (show (if laidA m.1 x r i then x.b else m.2) = m.2 from if_neg (fun hl => by rcases hl.1 with h1 | h1 <;> omega))
        clear c1 c2 c3 c4
        have HIN := hide (H1.out.pick (L' := cacheR g m.1.1 m.1.2 :: blkR y 59 #[.int .i64 x.r, .int .i64 x.i] :: blkR z 99 #[.int .i64 x.d, .int .i64 x.r, .int .i64 x.i, .int .i64 x.n, .slice B1 x.b.length d1] :: intsR .u8 (.slice B1 x.b.length d1) x.b :: intsR .u8 (.slice B q d) m.2 :: blkR y9 59 #[.int .i64 r, .int .i64 i] :: rowsR 5 OpR (.slice (some ad) n c) l :: L) 7 [5, 0, 1, 2, 3, 4, 6])
        go_wp2_with fail
        refine (flushed_st g m.1.1 m.1.2 x.r x.n _ (HI.out.wl' (by omega)) HI.out.wd' HIN.out).mono ?_
        rintro e w5 ⟨rfl, h4⟩
        have H4 := h4.pick (L' := blkR y 59 #[.int .i64 x.r, .int .i64 x.i] :: blkR z 99 #[.int .i64 x.d, .int .i64 x.r, .int .i64 x.i, .int .i64 x.n, .slice B1 x.b.length d1] :: intsR .u8 (.slice B1 x.b.length d1) x.b :: intsR .u8 (.slice B q d) m.2 :: blkR y9 59 #[.int .i64 r, .int .i64 i] :: cacheR g m.1.1 (flW m.1.2 x.r x.n) :: rowsR 5 OpR (.slice (some ad) n c) l :: L) 7 [1, 2, 3, 4, 5, 0, 6]
        have H4 : St M0 w5 (blkR y 59 #[.int .i64 x.r, .int .i64 x.i] :: blkR z 99 #[.int .i64 x.d, .int .i64 x.r, .int .i64 x.i, .int .i64 x.n, .slice B1 x.b.length d1] :: intsR .u8 (.slice B1 x.b.length d1) x.b :: intsR .u8 (.slice B q d) m.2 :: blkR y9 59 #[.int .i64 r, .int .i64 i] :: cacheR g s2.1 s2.2 :: rowsR 5 OpR (.slice (some ad) n c) l :: L) := by rw [hs2]; exact H4
        clear HIN hs2
        have H5 : Hid (St M0 w5 (blkR y 59 #[.int .i64 x.r, .int .i64 x.i] :: blkR z 99 #[.int .i64 x.d, .int .i64 x.r, .int .i64 x.i, .int .i64 x.n, .slice B1 x.b.length d1] :: intsR .u8 (.slice B1 x.b.length d1) x.b :: intsR .u8 (.slice B q d) m.2 :: blkR y9 59 #[.int .i64 r, .int .i64 i] :: cacheR g s2.1 s2.2 :: rowsR 5 OpR (.slice (some ad) n c) l :: L)) := hide H4
        clear H4 H1 x0 x1 x2 x3 x4 y0 y1
        have x0 := (H5.out.blk 1 rfl).cell 0
        have x4 := (H5.out.blk 1 rfl).cell 4
        have y0 := (H5.out.blk 0 rfl).cell 0
        have y1 := (H5.out.blk 0 rfl).cell 1
        have k0 := (H5.out.blk 4 rfl).cell 0
        have k1 := (H5.out.blk 4 rfl).cell 1
        have H7 := hide (H5.out.pick (L' := intsR .u8 (.slice B q d) m.2 :: blkR y9 59 #[.int .i64 r, .int .i64 i] :: cacheR g s2.1 s2.2 :: rowsR 5 OpR (.slice (some ad) n c) l :: L) 7 [3, 4, 5, 6])
        clear H5
        go_wp2_with fail
        go_roundg (n - (k + 1))
        case measure => have := HG.out; omega
        case rel => exact ⟨k + 1, B, q, d, rfl, by omega, rfl, by go_num, by
          rw [HS.out]
          show St M0 _ (intsR .u8 _ (if laidA m.1 x r i then x.b else m.2) :: blkR y9 59 #[.int .i64 r, .int .i64 i] :: cacheR g (stepA m.1 x).1 (stepA m.1 x).2 :: _)
          rw [EL.out, ES.out]
          exact H7.out⟩
      have b4 : (x.d == 4) = false := isF c4
      by_cases c5 : x.d = 5
      · have b5 : (x.d == 5) = true := isT c5
        obtain ⟨s2, hs2⟩ : ∃ s2, s2 = (m.1.1.filter (fun y => !inReg x.r y), m.1.2.filter (fun y => !inReg x.r y)) := ⟨_, rfl⟩
        have ES := hide (show stepA m.1 x = s2 by rw [hs2]; unfold stepA; simp [c5])
        have EL := hide (show (if laidA m.1 x r i then x.b else m.2) = m.2 from if_neg (fun hl => by rcases hl.1 with h1 | h1 <;> omega))
        clear c1 c2 c3 c4 c5
        have HIN := hide (H1.out.pick (L' := cacheR g m.1.1 m.1.2 :: blkR y 59 #[.int .i64 x.r, .int .i64 x.i] :: blkR z 99 #[.int .i64 x.d, .int .i64 x.r, .int .i64 x.i, .int .i64 x.n, .slice B1 x.b.length d1] :: intsR .u8 (.slice B1 x.b.length d1) x.b :: intsR .u8 (.slice B q d) m.2 :: blkR y9 59 #[.int .i64 r, .int .i64 i] :: rowsR 5 OpR (.slice (some ad) n c) l :: L) 7 [5, 0, 1, 2, 3, 4, 6])
        go_wp2_with fail
        refine (drop_st g m.1.1 m.1.2 x.r _ (HI.out.wl' (by omega)) HI.out.wd' HIN.out).mono ?_
        rintro e w5 ⟨v5, rfl, h4⟩
        have H4 := h4.pick (L' := blkR y 59 #[.int .i64 x.r, .int .i64 x.i] :: blkR z 99 #[.int .i64 x.d, .int .i64 x.r, .int .i64 x.i, .int .i64 x.n, .slice B1 x.b.length d1] :: intsR .u8 (.slice B1 x.b.length d1) x.b :: intsR .u8 (.slice B q d) m.2 :: blkR y9 59 #[.int .i64 r, .int .i64 i] :: cacheR g (m.1.1.filter (fun y => !inReg x.r y)) (m.1.2.filter (fun y => !inReg x.r y)) :: rowsR 5 OpR (.slice (some ad) n c) l :: L) 8 [2, 3, 4, 5, 6, 1, 7]
        have H4 : St M0 w5 (blkR y 59 #[.int .i64 x.r, .int .i64 x.i] :: blkR z 99 #[.int .i64 x.d, .int .i64 x.r, .int .i64 x.i, .int .i64 x.n, .slice B1 x.b.length d1] :: intsR .u8 (.slice B1 x.b.length d1) x.b :: intsR .u8 (.slice B q d) m.2 :: blkR y9 59 #[.int .i64 r, .int .i64 i] :: cacheR g s2.1 s2.2 :: rowsR 5 OpR (.slice (some ad) n c) l :: L) := by rw [hs2]; exact H4
        clear HIN hs2
        have H5 : Hid (St M0 w5 (blkR y 59 #[.int .i64 x.r, .int .i64 x.i] :: blkR z 99 #[.int .i64 x.d, .int .i64 x.r, .int .i64 x.i, .int .i64 x.n, .slice B1 x.b.length d1] :: intsR .u8 (.slice B1 x.b.length d1) x.b :: intsR .u8 (.slice B q d) m.2 :: blkR y9 59 #[.int .i64 r, .int .i64 i] :: cacheR g s2.1 s2.2 :: rowsR 5 OpR (.slice (some ad) n c) l :: L)) := hide H4
        clear H4 H1 x0 x1 x2 x3 x4 y0 y1
        have x0 := (H5.out.blk 1 rfl).cell 0
        have x4 := (H5.out.blk 1 rfl).cell 4
        have y0 := (H5.out.blk 0 rfl).cell 0
        have y1 := (H5.out.blk 0 rfl).cell 1
        have k0 := (H5.out.blk 4 rfl).cell 0
        have k1 := (H5.out.blk 4 rfl).cell 1
        have H7 := hide (H5.out.pick (L' := intsR .u8 (.slice B q d) m.2 :: blkR y9 59 #[.int .i64 r, .int .i64 i] :: cacheR g s2.1 s2.2 :: rowsR 5 OpR (.slice (some ad) n c) l :: L) 7 [3, 4, 5, 6])
        clear H5
        go_wp2_with fail
        go_roundg (n - (k + 1))
        case measure => have := HG.out; omega
        case rel => exact ⟨k + 1, B, q, d, rfl, by omega, rfl, by go_num, by
          rw [HS.out]
          show St M0 _ (intsR .u8 _ (if laidA m.1 x r i then x.b else m.2) :: blkR y9 59 #[.int .i64 r, .int .i64 i] :: cacheR g (stepA m.1 x).1 (stepA m.1 x).2 :: _)
          rw [EL.out, ES.out]
          exact H7.out⟩
      have b5 : (x.d == 5) = false := isF c5
      have ES := hide (show stepA m.1 x = m.1 by unfold stepA; simp [c1, c2, c3, c4, c5])
      have EL := hide (show (if laidA m.1 x r i then x.b else m.2) = m.2 from if_neg (fun hl => by rcases hl.1 with h1 | h1 <;> omega))
      clear c1 c2 c3 c4 c5
      have H7 := hide (H1.out.pick (L' := intsR .u8 (.slice B q d) m.2 :: blkR y9 59 #[.int .i64 r, .int .i64 i] :: cacheR g m.1.1 m.1.2 :: rowsR 5 OpR (.slice (some ad) n c) l :: L) 7 [3, 4, 5, 6])
      clear H1
      go_wp2_with fail
      go_roundg (n - (k + 1))
      case measure => have := HG.out; omega
      case rel => exact ⟨k + 1, B, q, d, rfl, by omega, rfl, by go_num, by
        rw [HS.out]
        show St M0 _ (intsR .u8 _ (if laidA m.1 x r i then x.b else m.2) :: blkR y9 59 #[.int .i64 r, .int .i64 i] :: cacheR g (stepA m.1 x).1 (stepA m.1 x).2 :: _)
        rw [EL.out, ES.out]
        exact H7.out⟩
    · obtain rfl : k = n := by omega
      have hinv := runL_inv r i l HB.out
      rw [List.take_of_length_le (by rw [HN.out]; exact Nat.le_refl _)] at h
      rw [HN.out] at hinv
      have HV := hide hinv
      generalize runL r i l = m at *
      have hI := hinv.c
      have HI := hide hI
      have H := hide (h.pick (L' := cacheR g m.1.1 m.1.2 :: intsR .u8 (.slice B q d) m.2 :: blkR y9 59 #[.int .i64 r, .int .i64 i] :: rowsR 5 OpR (.slice A k c) l :: L) 4 [2, 0, 1, 3])
      clear h hinv hI
      go_wp2_with fail
      refine (dirtyL_st g m.1.1 m.1.2 r _ (HI.out.wl' (by omega)) HI.out.wd' H.out).mono ?_
      rintro e w2 ⟨v2, rfl, h2⟩
      obtain ⟨A7, c7, rfl, hc7, hm7⟩ := h2.growLen
      generalize hds : m.1.2.filter (inReg r) = ds at *
      obtain ⟨q7, hq7⟩ : ∃ q7, q7 = ds.length := ⟨_, rfl⟩
      rw [← hq7] at hc7 h2 ⊢
      have HQ := hide hq7
      have HDS := hide hds
      have hcm : c7 ≤ 9223372036854775807 := by unfold maxLen at hm7; omega
      have H2 := hide h2.rowsGrow
      clear h2 H hq7 hds hm7
      go_wp2_with fail
      go_loopg [15, 17] q7 (fun gh dv iv wq => ∃ j, gh = q7 - j ∧ j ≤ q7 ∧ dv = .bool ((ds.take j).any (keyIs r i)) ∧ iv = .int .i64 (j : Nat) ∧ St M0 wq (rowsR 3 PutR (.slice A7 q7 c7) ds :: cacheR g m.1.1 m.1.2 :: intsR .u8 (.slice B q d) m.2 :: blkR y9 59 #[.int .i64 r, .int .i64 i] :: rowsR 5 OpR (.slice A k c) l :: L))
      case atStart => exact ⟨0, rfl, by omega, rfl, rfl, H2.out⟩
      case round =>
        clear H2
        obtain ⟨j, hgj, hjq, rfl, rfl, hj⟩ := hrel
        have HGJ := hide hgj
        have HJ := hide hj
        clear hgj
        by_cases hlj : j < q7
        · have hxj := List.getElem?_eq_getElem (l := ds) (i := j) (by rw [← HQ.out]; exact hlj)
          generalize ds[j]'(by rw [← HQ.out]; exact hlj) = x at hxj
          have HT := hide (show (ds.take (j + 1)).any (keyIs r i) = ((ds.take j).any (keyIs r i) || keyIs r i x) by rw [List.take_add_one, hxj, List.any_append]; simp)
          obtain ⟨ad7, cs7, rfl, _, hcs7, ⟨v7, rfl, hv7⟩, _⟩ := hj.elem 0 rfl hxj
          obtain ⟨f0, f1, f2⟩ := cells3 hcs7
          have k0 := (hj.blk 3 rfl).cell 0
          have k1 := (hj.blk 3 rfl).cell 1
          generalize (ds.take j).any (keyIs r i) = dd at HT ⊢
          have j0 : (0 : Int) ≤ (j : Int) := by omega
          have j1 : (j : Int) < (q7 : Int) := by omega
          clear hxj hcs7 hv7 hj
          cases dd with
          | true =>
            have HT := hide (HT.out.trans (Bool.true_or _))
            go_wp2_with fail
            go_quiet (fail)
            go_wp2_with fail
            go_roundg (q7 - (j + 1))
            case measure => have := HGJ.out; omega
            case rel => exact ⟨j + 1, rfl, by omega, by rw [HT.out], by go_num, HJ.out.drewN _⟩
          | false =>
            have HT := hide (HT.out.trans (Bool.false_or _))
            by_cases cr : x.region = r
            · have br : (x.region == r) = true := isT cr
              by_cases ci : x.index = i
              · have bi : (x.index == i) = true := isT ci
                have HT := hide (HT.out.trans (show keyIs r i x = true by unfold keyIs; rw [br, bi]; rfl))
                clear cr ci
                go_wp2_with fail
                go_quiet (fail)
                go_wp2_with fail
                go_roundg (q7 - (j + 1))
                case measure => have := HGJ.out; omega
                case rel => exact ⟨j + 1, rfl, by omega, by rw [HT.out], by go_num, HJ.out.drewN _⟩
              · have bi : (x.index == i) = false := isF ci
                have HT := hide (HT.out.trans (show keyIs r i x = false by unfold keyIs; rw [br, bi]; rfl))
                clear cr ci
                go_wp2_with fail
                go_quiet (fail)
                go_wp2_with fail
                go_roundg (q7 - (j + 1))
                case measure => have := HGJ.out; omega
                case rel => exact ⟨j + 1, rfl, by omega, by rw [HT.out], by go_num, HJ.out.drewN _⟩
            · have br : (x.region == r) = false := isF cr
              have HT := hide (HT.out.trans (show keyIs r i x = false by unfold keyIs; rw [br]; rfl))
              clear cr
              go_wp2_with fail
              go_quiet (fail)
              go_wp2_with fail
              go_roundg (q7 - (j + 1))
              case measure => have := HGJ.out; omega
              case rel => exact ⟨j + 1, rfl, by omega, by rw [HT.out], by go_num, HJ.out.drewN _⟩
        · obtain rfl : j = q7 := by omega
          rw [List.take_of_length_le (by rw [← HQ.out]; exact Nat.le_refl _)]
          have HDI := hide (fun hd : ds.any (keyIs r i) = true => dirty_there HI.out (by rw [HDS.out]; exact hd))
          have k0 := (HJ.out.blk 3 rfl).cell 0
          have k1 := (HJ.out.blk 3 rfl).cell 1
          have H3 := hide (hj.pick (L' := cacheR g m.1.1 m.1.2 :: intsR .u8 (.slice B q d) m.2 :: L) 5 [1, 2])
          clear hj
          go_wp2_with fail
          refine (read_st g m.1.1 m.1.2 r i _ HI.out.bl' HI.out.bd H3.out).mono ?_
          rintro e w4 ⟨v4, rfl, h4⟩
          have HL4 := hide (readD_last HV.out)
          have H4 := hide h4
          generalize ds.any (keyIs r i) = dd at *
          generalize decide (0 ≤ idxP (keyIs r i) 0 m.1.1) = is at *
          clear h4 H3 HJ k0 k1
          cases is with
          | true =>
            have hl4 := HL4.out rfl
            obtain ⟨A4, c4, rfl, _, _, _⟩ := H4.out.get 0 rfl
            have H5 := hide ((hl4 ▸ H4.out : St M0 w4 (intsR .u8 (.slice A4 (readD m.1.1 r i).length c4) m.2 :: cacheR g (readB m.1.1 r i) m.1.2 :: intsR .u8 (.slice B q d) m.2 :: L)))
            clear hl4 H4
            cases dd with
            | true =>
              go_wp2_with fail
              refine (same_true _ _ m.2 _ (H5.out.get 0 rfl) (H5.out.get 2 rfl) H5.out).mono ?_
              rintro e w5 ⟨rfl, h5⟩
              have H6 := hide h5.tail.tail.tail
              clear H5 h5
              go_wp2_with fail
              go_ret
              exact ⟨rfl, H6.out⟩
            | false =>
              go_wp2_with fail
              refine (same_true _ _ m.2 _ (H5.out.get 0 rfl) (H5.out.get 2 rfl) H5.out).mono ?_
              rintro e w5 ⟨rfl, h5⟩
              have H6 := hide h5.tail.tail.tail
              clear H5 h5
              go_wp2_with fail
              go_ret
              exact ⟨rfl, H6.out⟩
          | false =>
            cases dd with
            | true => exact absurd (HDI.out rfl) Bool.false_ne_true
            | false =>
              have H6 := hide H4.out.tail.tail.tail
              clear H4
              go_wp2_with fail
              go_ret
              exact ⟨rfl, H6.out⟩
end Go.Proofs.Ytbnjeekhoaapiaa
