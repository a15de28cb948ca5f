/- Holders: one in a block, four in a block; the statements' awake and mode. -/
import Derived.Test.YtbgknfdaaffeaaaHkL
namespace Go.Proofs.Ytbgknfdaaffeaaa
open Go.RowKit Go.Shelf

theorem hol1 (s : HS) : HolIn (hcells s) 0 s := fun j _ => by rw [Nat.zero_add]
set_option maxRecDepth 100000 in
theorem took1 (s : HS) (r m k u : Int) : tookR (hcells s) s 0 r m k u = hcells (s.tookS r m k u) := by
  unfold tookR HS.tookS
  split
  · rename_i he
    have h := tookE_ok he
    rcases lt4 (show r.toNat < 4 by omega) with e | e | e | e <;> rw [e] <;> rfl
  · rfl
set_option maxRecDepth 100000 in
theorem gone1 (s : HS) (r : Int) : goneR (hcells s) 0 r = hcells (s.goneS r) := by
  unfold goneR HS.goneS
  split
  · rcases lt4 (show r.toNat < 4 by omega) with e | e | e | e <;> rw [e] <;> rfl
  · rfl
def h4cells (H : Nat → HS) : Array Value :=
  #[.int .i64 ((H 0).m 0), .int .u64 ((H 0).t 0), .int .u64 ((H 0).u 0), .int .i64 ((H 0).m 1), .int .u64 ((H 0).t 1), .int .u64 ((H 0).u 1), .int .i64 ((H 0).m 2), .int .u64 ((H 0).t 2), .int .u64 ((H 0).u 2), .int .i64 ((H 0).m 3), .int .u64 ((H 0).t 3), .int .u64 ((H 0).u 3), .int .u64 ((H 0).l 0), .int .u64 ((H 0).l 1), .int .u64 ((H 0).l 2), .int .u64 ((H 0).l 3),
    .int .i64 ((H 1).m 0), .int .u64 ((H 1).t 0), .int .u64 ((H 1).u 0), .int .i64 ((H 1).m 1), .int .u64 ((H 1).t 1), .int .u64 ((H 1).u 1), .int .i64 ((H 1).m 2), .int .u64 ((H 1).t 2), .int .u64 ((H 1).u 2), .int .i64 ((H 1).m 3), .int .u64 ((H 1).t 3), .int .u64 ((H 1).u 3), .int .u64 ((H 1).l 0), .int .u64 ((H 1).l 1), .int .u64 ((H 1).l 2), .int .u64 ((H 1).l 3),
    .int .i64 ((H 2).m 0), .int .u64 ((H 2).t 0), .int .u64 ((H 2).u 0), .int .i64 ((H 2).m 1), .int .u64 ((H 2).t 1), .int .u64 ((H 2).u 1), .int .i64 ((H 2).m 2), .int .u64 ((H 2).t 2), .int .u64 ((H 2).u 2), .int .i64 ((H 2).m 3), .int .u64 ((H 2).t 3), .int .u64 ((H 2).u 3), .int .u64 ((H 2).l 0), .int .u64 ((H 2).l 1), .int .u64 ((H 2).l 2), .int .u64 ((H 2).l 3),
    .int .i64 ((H 3).m 0), .int .u64 ((H 3).t 0), .int .u64 ((H 3).u 0), .int .i64 ((H 3).m 1), .int .u64 ((H 3).t 1), .int .u64 ((H 3).u 1), .int .i64 ((H 3).m 2), .int .u64 ((H 3).t 2), .int .u64 ((H 3).u 2), .int .i64 ((H 3).m 3), .int .u64 ((H 3).t 3), .int .u64 ((H 3).u 3), .int .u64 ((H 3).l 0), .int .u64 ((H 3).l 1), .int .u64 ((H 3).l 2), .int .u64 ((H 3).l 3)]
set_option maxRecDepth 100000 in
theorem hol4 (H : Nat → HS) {c : Nat} (hc : c < 4) : HolIn (h4cells H) (c * 16) (H c) := fun j hj => by
  rcases lt4 hc with rfl | rfl | rfl | rfl
  all_goals
    rcases (show j = 0 ∨ j = 1 ∨ j = 2 ∨ j = 3 ∨ j = 4 ∨ j = 5 ∨ j = 6 ∨ j = 7 ∨ j = 8 ∨ j = 9 ∨ j = 10 ∨ j = 11 ∨ j = 12 ∨ j = 13 ∨ j = 14 ∨ j = 15 by omega) with rfl | rfl | rfl | rfl | rfl | rfl | rfl | rfl | rfl | rfl | rfl | rfl | rfl | rfl | rfl | rfl
    all_goals rfl
set_option maxRecDepth 100000 in
theorem took4 (H : Nat → HS) {c : Nat} (hc : c < 4) (r m k u : Int) : tookR (h4cells H) (H c) (c * 16) r m k u = h4cells (updH H c ((H c).tookS r m k u)) := by
  unfold tookR HS.tookS
  by_cases he : tookE (H c) r m k = 0
  · rw [if_pos he, if_pos he]
    have h := tookE_ok he
    clear he
    rcases lt4 hc with rfl | rfl | rfl | rfl <;> rcases lt4 (show r.toNat < 4 by omega) with e | e | e | e <;> rw [e] <;> rfl
  · rw [if_neg he, if_neg he]
    rcases lt4 hc with rfl | rfl | rfl | rfl <;> rfl
set_option maxRecDepth 100000 in
theorem gone4 (H : Nat → HS) {c : Nat} (hc : c < 4) (r : Int) : goneR (h4cells H) (c * 16) r = h4cells (updH H c ((H c).goneS r)) := by
  unfold goneR HS.goneS
  by_cases he : 0 ≤ r ∧ r < 4
  · rw [if_pos he, if_pos he]
    rcases lt4 hc with rfl | rfl | rfl | rfl <;> rcases lt4 (show r.toNat < 4 by omega) with e | e | e | e <;> rw [e] <;> rfl
  · rw [if_neg he, if_neg he]
    rcases lt4 hc with rfl | rfl | rfl | rfl <;> rfl
section
variable {M0 : Imm} {L : List Res} {g : Nat} {t : TypeId} {s : HS} {H : Nat → HS} {c : Nat}
theorem took1_st (r m k u : Int) (w : World) (h : St M0 w (blkR g t (hcells s) :: L)) :
    Calls Try.prog 48 #[.pointer (some ⟨g, 0, none⟩), .int .i64 r, .int .i64 m, .int .u64 k, .int .u64 u] w fun e w' => e = .returned (.int .i64 (tookE s r m k)) ∧ St M0 w' (blkR g t (hcells (s.tookS r m k u)) :: L) := by
  rw [← took1]
  exact took_st r m k u w (hol1 s) h
theorem gone1_st (r : Int) (w : World) (h : St M0 w (blkR g t (hcells s) :: L)) :
    Calls Try.prog 50 #[.pointer (some ⟨g, 0, none⟩), .int .i64 r] w fun e w' => e = .returned (.tuple #[]) ∧ St M0 w' (blkR g t (hcells (s.goneS r)) :: L) := by
  rw [← gone1]
  exact gone_st r w (hol1 s) h
theorem took4_st (r m k u : Int) (w : World) (hc : c < 4) (h : St M0 w (blkR g t (h4cells H) :: L)) :
    Calls Try.prog 48 #[.pointer (some ⟨g, c * 16, none⟩), .int .i64 r, .int .i64 m, .int .u64 k, .int .u64 u] w fun e w' => e = .returned (.int .i64 (tookE (H c) r m k)) ∧ St M0 w' (blkR g t (h4cells (updH H c ((H c).tookS r m k u))) :: L) := by
  rw [← took4 H hc]
  exact took_st r m k u w (hol4 H hc) h
theorem gone4_st (r : Int) (w : World) (hc : c < 4) (h : St M0 w (blkR g t (h4cells H) :: L)) :
    Calls Try.prog 50 #[.pointer (some ⟨g, c * 16, none⟩), .int .i64 r] w fun e w' => e = .returned (.tuple #[]) ∧ St M0 w' (blkR g t (h4cells (updH H c ((H c).goneS r))) :: L) := by
  rw [← gone4 H hc]
  exact gone_st r w (hol4 H hc) h
theorem token4_st (r : Int) (w : World) (hc : c < 4) (h : St M0 w (blkR g t (h4cells H) :: L)) :
    Calls Try.prog 45 #[.pointer (some ⟨g, c * 16, none⟩), .int .i64 r] w fun e w' => e = .returned (.int .u64 ((H c).tA r)) ∧ St M0 w' (blkR g t (h4cells H) :: L) :=
  htoken_st r w (hol4 H hc) h
theorem believes4_st (r mode k : Int) (w : World) (hc : c < 4) (hs : (H c).ok) (h0 : 0 ≤ k) (h1 : k ≤ 18446744073709551615) (h : St M0 w (blkR g t (h4cells H) :: L)) :
    Calls Try.prog 53 #[.pointer (some ⟨g, c * 16, none⟩), .int .i64 r, .int .i64 mode, .int .u64 k] w fun e w' => e = .returned (.bool (belB ((H c).mA r) ((H c).uA r) mode k)) ∧ St M0 w' (blkR g t (h4cells H) :: L) :=
  believes_st r mode k w hs h0 h1 (hol4 H hc) h
set_option maxHeartbeats 1000000 in
theorem awakeK_st (w : World) (h : St M0 w L) : Calls Try.prog 44 #[] w fun e w' => e = .returned (.bool true) ∧ St M0 w' L := by
  have hz := hs0_ok
  have h0 := h.alloc 98 (hcells hs0)
  generalize hg : w.heap.size = g at h0
  have H0 := hide h0
  have HG := hide hg
  clear h h0 hg
  have z1 := hz.took 1 2 5 20
  go_enter Try.func44, Try.ntmps44
  go_wp2_with fail
  rw [HG.out]
  refine (took1_st 1 2 5 20 _ H0.out).mono ?_
  rintro e w1 ⟨rfl, h1⟩
  rw [show tookE hs0 1 2 5 = 0 from by decide]
  have H1 := hide h1
  clear h1 H0
  go_wp2_with fail
  refine (believes_st 1 1 16 _ z1 (by omega) (by omega) (hol1 _) H1.out).mono ?_
  rintro e w2 ⟨rfl, h2⟩
  rw [show belB ((hs0.tookS 1 2 5 20).mA 1) ((hs0.tookS 1 2 5 20).uA 1) 1 16 = true from by decide]
  have H2 := hide h2
  clear h2 H1
  go_wp2_with fail
  refine (believes_st 1 2 17 _ z1 (by omega) (by omega) (hol1 _) H2.out).mono ?_
  rintro e w3 ⟨rfl, h3⟩
  rw [show belB ((hs0.tookS 1 2 5 20).mA 1) ((hs0.tookS 1 2 5 20).uA 1) 2 17 = false from by decide]
  have H3 := hide h3
  clear h3 H2
  go_wp2_with fail
  refine (renews_st 1 13 _ z1 (by omega) (by omega) (hol1 _) H3.out).mono ?_
  rintro e w4 ⟨rfl, h4⟩
  rw [show renB ((hs0.tookS 1 2 5 20).mA 1) ((hs0.tookS 1 2 5 20).uA 1) 13 = false from by decide]
  have H4 := hide h4
  clear h4 H3
  go_wp2_with fail
  refine (renews_st 1 14 _ z1 (by omega) (by omega) (hol1 _) H4.out).mono ?_
  rintro e w5 ⟨rfl, h5⟩
  rw [show renB ((hs0.tookS 1 2 5 20).mA 1) ((hs0.tookS 1 2 5 20).uA 1) 14 = true from by decide]
  have H5 := hide h5
  clear h5 H4
  go_wp2_with fail
  refine (gone1_st 1 _ H5.out).mono ?_
  rintro e w6 ⟨rfl, h6⟩
  have H6 := hide h6
  clear h6 H5
  go_wp2_with fail
  refine (took1_st 1 2 4 30 _ H6.out).mono ?_
  rintro e w7 ⟨rfl, h7⟩
  rw [show tookE ((hs0.tookS 1 2 5 20).goneS 1) 1 2 4 = 92 from by decide]
  have H7 := hide h7
  clear h7 H6
  go_wp2_with fail
  go_ret
  exact ⟨rfl, H7.out.tail⟩
theorem find_at {hs : List HoldM} {c : Int} : ∀ {k : Nat} {x : HoldM}, (∀ j y, j < k → hs[j]? = some y → y.c ≠ c) → hs[k]? = some x → x.c = c → findH hs c = some x := by
  induction hs with
  | nil => intro k x _ h; simp at h
  | cons z r ih =>
    intro k x h0 hx hc
    unfold findH at ih ⊢
    cases k with
    | zero =>
      obtain rfl : z = x := by simpa using hx
      exact List.find?_cons_of_pos (by simpa using hc)
    | succ k =>
      rw [List.find?_cons_of_neg (by simpa using h0 0 z (by omega) rfl)]
      exact ih (k := k) (fun j y hj hy => h0 (j + 1) y (by omega) (by simpa using hy)) (by simpa using hx) hc
theorem find_no {hs : List HoldM} {c : Int} (h : ∀ (j : Nat) y, j < hs.length → hs[j]? = some y → y.c ≠ c) : findH hs c = none := by
  unfold findH
  rw [List.find?_eq_none]
  intro x hx
  obtain ⟨j, hj, e⟩ := List.getElem_of_mem hx
  have := h j x hj (by rw [List.getElem?_eq_getElem hj, e])
  simpa using this
set_option maxHeartbeats 1000000 in
theorem modeK_st (T : TabM) (c r : Int) (w : World) (hok : TabOk T) (h : St M0 w (tabR g T :: L)) :
    Calls Try.prog 49 #[.pointer (some ⟨g, 0, none⟩), .int .i64 c, .int .i64 r] w fun e w' => e = .returned (.int .i64 (modeOf T c r)) ∧ St M0 w' (tabR g T :: L) := by
  have HS0 := hide h
  obtain ⟨md, hmd⟩ : ∃ md, md = modeOf T c r := ⟨_, rfl⟩
  rw [← hmd]
  have HMD := hide hmd
  clear h hmd
  go_enter Try.func49, Try.ntmps49
  go_wp2_with fail
  refine (holders_st g T r _ hok HS0.out).mono ?_
  rintro e w1 ⟨v, rfl, h1⟩
  obtain ⟨hs, hhs⟩ : ∃ hs, hs = T.holders r := ⟨_, rfl⟩
  rw [← hhs] at h1
  have hmd : md = match findH hs c with
    | some x => x.m
    | none => 0 := by rw [HMD.out, hhs]; rfl
  have HM := hide hmd
  clear hmd hhs HS0 hok HMD
  obtain ⟨A, cp, rfl, _⟩ := (h1.flatK At.here).value
  obtain ⟨n, hn⟩ : ∃ n, n = hs.length := ⟨_, rfl⟩
  rw [← hn] at h1 ⊢
  obtain ⟨_, hcn, hcmx, _⟩ := (h1.flatK At.here).sl
  have HN := hide hn
  have H1 := hide h1
  clear h1 hn
  go_wp2_with fail
  go_loopg [8] n (fun gh iv wr => ∃ (i : Nat), gh = n - i ∧ i ≤ n ∧ iv = .int .i64 (i : Nat) ∧ (∀ j y, j < i → hs[j]? = some y → y.c ≠ c) ∧ St M0 wr (keepR holdC 4 (.slice A n cp) hs :: tabR g T :: L))
  case atStart => exact ⟨0, rfl, by omega, rfl, fun j _ h => absurd h (by omega), H1.out⟩
  case round =>
    clear H1
    obtain ⟨i, hgh, hi, rfl, hno, h⟩ := hrel
    have HG := hide hgh
    have HNO := hide hno
    clear hgh hno
    by_cases hlt : i < n
    · have hx := List.getElem?_eq_getElem (l := hs) (i := i) (by rw [← HN.out]; exact hlt)
      generalize hs[i]'(by rw [← HN.out]; exact hlt) = x at hx
      obtain ⟨ad, rfl, hcs⟩ := (h.flatK At.here).at_ holdC_len hx
      obtain ⟨e0, e1, e2, e3⟩ := cells4F hcs
      have i0 : (0 : Int) ≤ (i : Int) := by omega
      have i1 : (i : Int) < (n : Int) := by omega
      have HX := hide hx
      have H2 := hide h
      clear h hx hcs
      by_cases hc : x.c = c
      · have b1 := isT hc
        have hmx : md = x.m := by rw [HM.out, find_at HNO.out HX.out hc]
        have HMX := hide hmx
        clear hc hmx
        go_wp2_with fail
        go_ret
        exact ⟨by rw [HMX.out]; rfl, H2.out.tail⟩
      · have b1 := isF hc
        have HC := hide hc
        clear hc
        go_wp2_with fail
        go_roundg (n - (i + 1))
        case measure => have := HG.out; omega
        case rel =>
          refine ⟨i + 1, rfl, by omega, by go_num, fun j y hj hy => ?_, H2.out⟩
          by_cases e : j = i
          · subst e
            have := HX.out
            rw [hy] at this
            rw [Option.some.inj this]
            exact HC.out
          · exact HNO.out j y (by omega) hy
    · obtain rfl : n = i := by omega
      have hmx : md = 0 := by rw [HM.out, find_no (fun j y hj hy => HNO.out j y (by rw [HN.out]; exact hj) hy)]
      have HMX := hide hmx
      have H2 := hide h.tail
      clear h hmx
      go_wp2_with fail
      go_ret
      exact ⟨by rw [HMX.out]; rfl, H2.out⟩
end
end Go.Proofs.Ytbgknfdaaffeaaa
