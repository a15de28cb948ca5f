/- History: HistorySections. -/
import Derived.Test.YtbgknfdaaffeaaaSeB
import Derived.Test.YtbgknfdaaffeaaaHiTw
import Derived.Test.YtbgknfdaaffeaaaEqSt
namespace Go.Proofs.Ytbgknfdaaffeaaa
open Go.RowKit Go.Shelf

/-- how many Events the first sections count -/
def cntS (r : Int) (l : List EvM) (ss : List SecH) : Nat := (ss.map fun s => (l.filter (mineE r s.t)).length).sum
theorem cntS_snoc (r : Int) (l : List EvM) (ss : List SecH) (s : SecH) : cntS r l (ss ++ [s]) = cntS r l ss + (l.filter (mineE r s.t)).length := by
  unfold cntS
  rw [List.map_append, List.sum_append]
  simp
theorem cntS_all {r : Int} {l : List EvM} {ss : List SecH} (h : ss.Perm (secsM r l)) : cntS r l ss = (l.filter (EvM.good r)).length := by
  have ok := secsM_ok r l
  have e : cntS r l ss = ((ss.map SecH.t).map fun t => (l.filter (mineE r t)).length).foldl (· + ·) 0 := by
    unfold cntS
    rw [List.map_map, List.sum_eq_foldl]
    rfl
  rw [e]
  have hp := h.map SecH.t
  refine count_all r l _ (hp.nodup_iff.2 ok.nd) (fun x hx hg => hp.mem_iff.2 ((ok.ts x.t).2 ⟨x, hx, hg, rfl⟩))
theorem cntS_le (r t : Int) (l : List EvM) : (l.filter (mineE r t)).length ≤ l.length := List.length_filter_le _ _
/-- what is known of one section -/
structure SecFact (r : Int) (l : List EvM) (s : SecH) : Prop where
  eq : s = secOf r s.t l
  ne : s.t ≠ 0
  some_ : ∃ e ∈ l, mineE r s.t e = true
theorem secFact {r : Int} {l : List EvM} {ss : List SecH} (h : ss.Perm (secsM r l)) {s : SecH} (hs : s ∈ ss) : SecFact r l s := by
  have ok := secsM_ok r l
  have hm := h.mem_iff.1 hs
  obtain ⟨e, he, hg, ht⟩ := (ok.ts s.t).1 (List.mem_map.2 ⟨s, hm, rfl⟩)
  refine ⟨ok.eq s hm, ?_, e, he, by unfold mineE; rw [hg, ht]; simp⟩
  unfold EvM.good at hg
  simp only [Bool.and_eq_true, bne_iff_ne] at hg
  rw [← ht]
  exact hg.1.1.1.2
theorem pairs_rise {r : Int} {l : List EvM} {zs : List PairS} (hp : (zs.map Prod.snd).Perm (secsM r l)) (hs : SortedT (zs.map Prod.fst)) (hok : ∀ z ∈ zs, z.1.t = z.2.t ∧ z.1.s = z.2.s) {i : Nat} {z z' : PairS} (h1 : zs[i]? = some z) (h2 : zs[i + 1]? = some z') : z.1.t < z'.1.t := by
  have ok := secsM_ok r l
  have e : ∀ zs : List PairS, (∀ z ∈ zs, z.1.t = z.2.t ∧ z.1.s = z.2.s) → (zs.map Prod.snd).map SecH.t = (zs.map Prod.fst).map SecV.t := fun zs h => by
    rw [List.map_map, List.map_map]
    exact List.map_congr_left (fun z hz => (h z hz).1.symm)
  have hw : ((zs.map Prod.snd).map SecH.t).Pairwise (· ≤ ·) := by
    rw [e zs hok, List.pairwise_map]
    exact hs
  have := secs_rise ((hp.map SecH.t).nodup_iff.2 ok.nd) hw (i := i) (a := z.2) (b := z'.2) (by rw [List.getElem?_map, h1]; rfl) (by rw [List.getElem?_map, h2]; rfl)
  rw [(hok z (List.mem_of_getElem? h1)).1, (hok z' (List.mem_of_getElem? h2)).1]
  exact this
/-- the sum over parts -/
theorem cntS_app (r : Int) (l : List EvM) (a b : List SecH) : cntS r l (a ++ b) = cntS r l a + cntS r l b := by
  unfold cntS
  rw [List.map_append, List.sum_append]
theorem cntS_take {r : Int} {l : List EvM} {ss : List SecH} (h : ss.Perm (secsM r l)) (i : Nat) : cntS r l (ss.take i) ≤ l.length := by
  have h1 := cntS_app r l (ss.take i) (ss.drop i)
  rw [List.take_append_drop, cntS_all h] at h1
  have := List.length_filter_le (EvM.good r) l
  omega
theorem mineE_eq {r t : Int} (ht : t ≠ 0) (x : EvM) : mineE r t x = (!(x.r != r) && !(x.t != t) && !(x.e != 0) && decide (x.d ≥ 5) && decide (x.d ≤ 7)) := by
  unfold mineE EvM.good
  by_cases h : x.t = t
  · have h0 : x.t ≠ 0 := by rw [h]; exact ht
    have e1 : decide (5 ≤ x.d) = decide (x.d ≥ 5) := rfl
    rw [e1]
    generalize decide (x.d ≥ 5) = b1
    generalize decide (x.d ≤ 7) = b2
    have e2 : (x.t == t) = true := by simpa using h
    have e3 : (x.t != 0) = true := by simpa using h0
    rw [show (x.t != t) = !(x.t == t) from rfl, e2, e3, show (x.r != r) = !(x.r == r) from rfl, show (x.e != 0) = !(x.e == 0) from rfl]
    generalize (x.r == r) = b3
    generalize (x.e == 0) = b4
    revert b1 b2 b3 b4
    decide
  · have e2 : (x.t == t) = false := by simpa using h
    rw [show (x.t != t) = !(x.t == t) from rfl, e2]
    simp
theorem good_eq {r : Int} {x : EvM} (h0 : 0 ≤ x.t) : x.good r = ((x.r == r) && decide (x.t > 0) && (x.e == 0) && decide (x.d ≥ 5) && decide (x.d ≤ 7)) := by
  unfold EvM.good
  have e1 : (x.t != 0) = decide (x.t > 0) := by
    by_cases h : x.t = 0
    · rw [h]; rfl
    · rw [decide_eq_true (show x.t > 0 by omega)]
      simpa using h
  rw [e1]
theorem secOf_next {r t : Int} {l : List EvM} {e : Nat} {x : EvM} (hx : l[e]? = some x) : secOf r t (l.take (e + 1)) = if mineE r t x = true then stepS (secOf r t (l.take e)) x else secOf r t (l.take e) := by
  rw [List.take_add_one, hx]
  exact secOf_snoc r t _ x
theorem fil_next {p : EvM → Bool} {l : List EvM} {e : Nat} {x : EvM} (hx : l[e]? = some x) : ((l.take (e + 1)).filter p).length = ((l.take e).filter p).length + if p x = true then 1 else 0 := by
  rw [List.take_add_one, hx, List.filter_append, List.length_append]
  congr 1
  by_cases h : p x = true
  · rw [if_pos h]
    simp [h]
  · rw [if_neg h]
    simp [h]
theorem any_next {p : EvM → Bool} {l : List EvM} {e : Nat} {x : EvM} (hx : l[e]? = some x) : (l.take (e + 1)).any p = ((l.take e).any p || p x) := by
  rw [List.take_add_one, hx, List.any_append]
  simp
theorem sec_put {r t : Int} {l : List EvM} {s : SecH} (hs : s = secOf r t l) {e : Nat} {x : EvM} (hx : l[e]? = some x) (hm : mineE r t x = true) (hd : x.d = 5) : s.p[(secOf r t (l.take e)).p.length]? = some ⟨x.i, x.b⟩ := by
  obtain ⟨⟨p, hp⟩, _⟩ := secOf_grow r t (l.take (e + 1)) (l.drop (e + 1))
  rw [List.take_append_drop, ← hs, secOf_next hx, if_pos hm] at hp
  unfold stepS at hp
  rw [if_pos hd] at hp
  rw [hp, List.append_assoc, List.getElem?_append_right (Nat.le_refl _)]
  simp
theorem sec_look {r t : Int} {l : List EvM} {s : SecH} (hs : s = secOf r t l) {e : Nat} {x : EvM} (hx : l[e]? = some x) (hm : mineE r t x = true) (hd : x.d = 6) : s.k[(secOf r t (l.take e)).k.length]? = some ⟨((secOf r t (l.take e)).p.length : Nat), x.i, x.b⟩ := by
  obtain ⟨_, k, hk⟩ := secOf_grow r t (l.take (e + 1)) (l.drop (e + 1))
  rw [List.take_append_drop, ← hs, secOf_next hx, if_pos hm] at hk
  unfold stepS at hk
  rw [if_neg (by omega), if_pos hd] at hk
  rw [hk, List.append_assoc, List.getElem?_append_right (Nat.le_refl _)]
  simp
theorem three_any {a b c : Bool} (h : (a || b || c) = true) (d e : Bool) : (!a && !b && !c && d && e) = false := by revert a b c d e; decide
theorem three_not : ∀ {a b c : Bool}, ¬ (a || b || c) = true → a = false ∧ b = false ∧ c = false := by decide
theorem five_all : ∀ {a b c d e : Bool}, (a && b && c && d && e) = true → a = true ∧ b = true ∧ c = true ∧ d = true ∧ e = true := by decide
def AllE (r t : Int) (l : List EvM) (cn ct P K : Nat) (s : Int) (Y : Bool) (e : Nat) : Prop :=
  ct = cn + ((l.take e).filter (mineE r t)).length ∧ P = (secOf r t (l.take e)).p.length ∧ K = (secOf r t (l.take e)).k.length ∧ s = (secOf r t (l.take e)).s ∧ Y = (l.take e).any (mineE r t)
theorem sec_skip {r t : Int} {l : List EvM} {cn ct P K e : Nat} {s : Int} {Y : Bool} {x : EvM} (hx : l[e]? = some x) (hm : mineE r t x = false) (h : AllE r t l cn ct P K s Y e) : AllE r t l cn ct P K s Y (e + 1) := by
  obtain ⟨h1, h2, h3, h4, h5⟩ := h
  have hn : ¬ mineE r t x = true := by rw [hm]; exact Bool.false_ne_true
  refine ⟨?_, ?_, ?_, ?_, ?_⟩
  · rw [fil_next hx, if_neg hn, h1]; rfl
  · rw [secOf_next hx, if_neg hn, h2]
  · rw [secOf_next hx, if_neg hn, h3]
  · rw [secOf_next hx, if_neg hn, h4]
  · rw [any_next hx, hm, h5, Bool.or_false]
theorem sec_put_next {r t : Int} {l : List EvM} {cn ct P K e : Nat} {s : Int} {Y : Bool} {x : EvM} (hx : l[e]? = some x) (hm : mineE r t x = true) (hd : x.d = 5) (h : AllE r t l cn ct P K s Y e) : AllE r t l cn (ct + 1) (P + 1) K s true (e + 1) := by
  obtain ⟨h1, h2, h3, h4, h5⟩ := h
  have hs : secOf r t (l.take (e + 1)) = ⟨(secOf r t (l.take e)).t, (secOf r t (l.take e)).p ++ [⟨x.i, x.b⟩], (secOf r t (l.take e)).s, (secOf r t (l.take e)).k⟩ := by
    rw [secOf_next hx, if_pos hm]
    exact if_pos hd
  refine ⟨?_, ?_, ?_, ?_, ?_⟩
  · rw [fil_next hx, if_pos hm, h1]; rfl
  · rw [hs, h2]; simp
  · rw [hs, h3]
  · rw [hs, h4]
  · rw [any_next hx, hm, Bool.or_true]
theorem sec_look_next {r t : Int} {l : List EvM} {cn ct P K e : Nat} {s : Int} {Y : Bool} {x : EvM} (hx : l[e]? = some x) (hm : mineE r t x = true) (hd : x.d = 6) (h : AllE r t l cn ct P K s Y e) : AllE r t l cn (ct + 1) P (K + 1) s true (e + 1) := by
  obtain ⟨h1, h2, h3, h4, h5⟩ := h
  have hs : secOf r t (l.take (e + 1)) = ⟨(secOf r t (l.take e)).t, (secOf r t (l.take e)).p, (secOf r t (l.take e)).s, (secOf r t (l.take e)).k ++ [⟨((secOf r t (l.take e)).p.length : Nat), x.i, x.b⟩]⟩ := by
    rw [secOf_next hx, if_pos hm]
    exact (if_neg (by omega)).trans (if_pos hd)
  refine ⟨?_, ?_, ?_, ?_, ?_⟩
  · rw [fil_next hx, if_pos hm, h1]; rfl
  · rw [hs, h2]
  · rw [hs, h3]; simp
  · rw [hs, h4]
  · rw [any_next hx, hm, Bool.or_true]
theorem sec_sure_next {r t : Int} {l : List EvM} {cn ct P K e : Nat} {s : Int} {Y : Bool} {x : EvM} (hx : l[e]? = some x) (hm : mineE r t x = true) (hd : x.d = 7) (h : AllE r t l cn ct P K s Y e) : AllE r t l cn (ct + 1) P K (P : Nat) true (e + 1) := by
  obtain ⟨h1, h2, h3, h4, h5⟩ := h
  have hs : secOf r t (l.take (e + 1)) = ⟨(secOf r t (l.take e)).t, (secOf r t (l.take e)).p, ((secOf r t (l.take e)).p.length : Nat), (secOf r t (l.take e)).k⟩ := by
    rw [secOf_next hx, if_pos hm]
    exact (if_neg (by omega)).trans (if_neg (by omega))
  refine ⟨?_, ?_, ?_, ?_, ?_⟩
  · rw [fil_next hx, if_pos hm, h1]; rfl
  · rw [hs, h2]
  · rw [hs, h3]
  · rw [hs, h2]
  · rw [any_next hx, hm, Bool.or_true]
set_option maxHeartbeats 16000000 in
set_option maxRecDepth 100000 in
theorem sectionsL_st {M0 : Imm} {L : List Res} (v : Value) (r : Int) (l : List EvM) (w : World) (hbl : ∀ x ∈ l, x.b.length ≤ 140737488355328) (htk : ∀ x ∈ l, 0 ≤ x.t) (h : St M0 w (rowsR 7 EvR v l :: L)) :
    Calls Try.prog 10 #[v, .int .i64 r] w fun e w' => e = .returned (.bool true) ∧ ∃ L', St M0 w' L' := by
  obtain ⟨Av, cv, rfl, hcv, hmv⟩ := (h.getRows 0 rfl).slice
  obtain ⟨n, hn⟩ : ∃ n, n = l.length := ⟨_, rfl⟩
  rw [← hn] at hcv h ⊢
  have HN := hide hn
  have HBLA := hide hbl
  have HTK0 := hide htk
  have H := hide h
  clear h hn hbl htk
  go_enter Try.func10, Try.ntmps10
  go_wp2_with fail
  refine (awakeH_st _ H.out).mono ?_
  rintro e w1 ⟨rfl, h1⟩
  have H1 := hide h1
  clear h1 H
  by_cases h60 : n ≤ 60
  case neg =>
    have d1 : decide ((n : Int) > 60) = true := decide_eq_true (by omega)
    have d1' : decide ((60 : Int) < (n : Int)) = true := d1
    go_wp2_with fail
    go_ret
    exact ⟨rfl, _, H1.out⟩
  case pos =>
    have d1 : decide ((n : Int) > 60) = false := decide_eq_false (by omega)
    have d1' : decide ((60 : Int) < (n : Int)) = false := d1
    go_wp2_with fail
    refine (sections_st (.slice Av n cv) r l _ (by rw [← HN.out]; omega) HBLA.out H1.out).mono ?_
    rintro e w2 ⟨u, zs, rfl, hp, hs, hok, h⟩
    obtain ⟨A, c, rfl, hmc⟩ := (h.flatK At.here).value
    rw [List.length_map] at h hmc ⊢
    obtain ⟨m, hm⟩ : ∃ m, m = zs.length := ⟨_, rfl⟩
    rw [← hm] at h hmc ⊢
    have HM := hide hm
    have HP := hide hp
    have HS := hide hs
    have HOK := hide hok
    have HCM := hide (h.flatK At.here).sl.2.2.1
    have H2 := hide h
    clear h hm hp hs hok H1
    go_wp2_with fail
    go_loopg [7, 8] m (fun gh av iv wr => ∃ (i : Nat), gh = m - i ∧ i ≤ m ∧ iv = .int .i64 (i : Nat) ∧ av = .int .i64 (cntS r l ((zs.take i).map Prod.snd) : Nat) ∧ St M0 wr (keepR secC 4 (.slice A m c) (zs.map Prod.fst) :: persR (fun w => ∀ z ∈ zs, secP z w) :: rowsR 7 EvR (.slice Av n cv) l :: L))
    case atStart => exact ⟨0, rfl, by omega, rfl, by simp [cntS], H2.out⟩
    case round =>
      clear H2
      obtain ⟨i, hg, hi, rfl, rfl, h⟩ := hrel
      have HG := hide hg
      clear hg
      by_cases hlt : i < m
      · have hx := List.getElem?_eq_getElem (l := zs) (i := i) (by rw [← HM.out]; exact hlt)
        generalize zs[i]'(by rw [← HM.out]; exact hlt) = z at hx
        have HZ := hide hx
        have HZM := hide (List.mem_of_getElem? hx)
        have HF := hide (secFact HP.out (List.mem_map.2 ⟨z, HZM.out, rfl⟩))
        have HZO := hide (HOK.out z HZM.out)
        have hzk : (zs.map Prod.fst)[i]? = some z.1 := by rw [List.getElem?_map, hx]; rfl
        obtain ⟨ad, rfl, hcs⟩ := (h.flatK At.here).at_ secC_len hzk
        have HZK := hide hzk
        have H3 := hide h
        have i0 : (0 : Int) ≤ (i : Int) := by omega
        have i1 : (i : Int) < (m : Int) := by omega
        clear h hx hzk hcs
        go_upto_region 9 with fail
        go_cut [54] (fun v wx => v = .bool false ∧ St M0 wx (keepR secC 4 (.slice (some ad) m c) (zs.map Prod.fst) :: persR (fun w => ∀ z ∈ zs, secP z w) :: rowsR 7 EvR (.slice Av n cv) l :: L))
        case first =>
          as_aux_lemma =>
            obtain ⟨a', ha', hcs⟩ := (H3.out.flatK At.here).at_ secC_len HZK.out
            injection ha' with ha'
            subst ha'
            obtain ⟨e0, e1, e2, e3⟩ := cells4F hcs
            have b1 : (z.1.t == 0) = false := isF (by have := HF.out.ne; rw [← HZO.out.1] at this; exact this)
            clear hcs
            by_cases hi0 : i = 0
            · have d2 : decide ((i : Int) > 0) = false := decide_eq_false (by omega)
              have d2' : decide ((0 : Int) < (i : Int)) = false := d2
              have hi1 : ¬ 0 < i := by omega
              clear hi0
              go_quiet (fail)
              have H4 := hide (H3.out.drewN nq)
              clear H3 e0 e1 e2 e3
              go_wp2_with fail
              go_meet
              exact ⟨rfl, H4.out⟩
            · obtain ⟨q, hq⟩ : ∃ q, i = q + 1 := ⟨i - 1, by omega⟩
              have hxq := List.getElem?_eq_getElem (l := zs) (i := q) (by rw [← HM.out]; omega)
              generalize zs[q]'(by rw [← HM.out]; omega) = z0 at hxq
              have hrise := pairs_rise HP.out HS.out HOK.out hxq (by rw [← hq]; exact HZ.out)
              obtain ⟨a', ha', hcs⟩ := (H3.out.flatK At.here).at_ secC_len (show (zs.map Prod.fst)[q]? = some z0.1 by rw [List.getElem?_map, hxq]; rfl)
              injection ha' with ha'
              subst ha'
              obtain ⟨f0, f1, f2, f3⟩ := cells4F hcs
              have d2 : decide ((i : Int) > 0) = true := decide_eq_true (by omega)
              have d2' : decide ((0 : Int) < (i : Int)) = true := d2
              have hi1 : 0 < i := by omega
              have d3 : decide (z.1.t ≤ z0.1.t) = false := decide_eq_false (by omega)
              have wq : IntKind.i64.wrap ((i : Int) - 1) = (q : Int) := (IntWalk.i64_in _ (by have := HCM.out; omega)).trans (by omega)
              have q0 : (0 : Int) ≤ (q : Int) := by omega
              have q1 : (q : Int) < (m : Int) := by omega
              clear hxq hrise hcs hq
              go_quiet (fail)
              have H4 := hide (H3.out.drewN nq)
              clear H3 e0 e1 e2 e3 f0 f1 f2 f3
              go_wp2_with fail
              go_meet
              exact ⟨rfl, H4.out⟩
        case rest =>
          as_aux_lemma =>
            clear H3
            obtain ⟨rfl, h⟩ := hcut
            obtain ⟨⟨zt, ⟨pa, pn, pc⟩, zu, ⟨ka, kn, kc⟩⟩, zh⟩ := z
            have HF : Hid (SecFact r l zh) := HF
            have HZO : Hid (zt = zh.t ∧ zu = zh.s) := HZO
            have HZS : Hid (∀ (A : Option Addr) (j : Nat) u, (secC ⟨zt, ⟨pa, pn, pc⟩, zu, ⟨ka, kn, kc⟩⟩)[j]? = some u → ∀ W, St M0 W (keepR secC 4 (.slice (some ad) m c) (zs.map Prod.fst) :: persR (fun w => ∀ z ∈ zs, secP z w) :: rowsR 7 EvR (.slice Av n cv) l :: L) → W.cell? ((ad.add (i * 4)).add j) = some u) := hide (fun A j u hu W hW => by
              obtain ⟨a', ha', hcs⟩ := (hW.flatK At.here).at_ secC_len HZK.out
              injection ha' with ha'
              subst ha'
              exact hcs j u hu)
            obtain ⟨cn, hcn⟩ : ∃ cn, cn = cntS r l ((zs.take i).map Prod.snd) := ⟨_, rfl⟩
            have hcnn : cn ≤ n := by rw [hcn, HN.out, List.map_take]; exact cntS_take HP.out i
            have HCN := hide hcn
            have H3 := hide h
            rw [← hcn]
            clear h hcn
            go_wp2_with fail
            go_loopg [7, 9, 10, 11, 12, 13] n (fun gh av pv kv sv yv ev wr => ∃ (e ct P K : Nat) (s : Int) (Y : Bool), gh = n - e ∧ e ≤ n ∧ ev = .int .i64 (e : Nat) ∧ av = .int .i64 (ct : Nat) ∧ pv = .int .i64 (P : Nat) ∧ kv = .int .i64 (K : Nat) ∧ sv = .int .i64 s ∧ yv = .bool Y ∧ AllE r zh.t l cn ct P K s Y e ∧ St M0 wr (keepR secC 4 (.slice (some ad) m c) (zs.map Prod.fst) :: persR (fun w => ∀ z ∈ zs, secP z w) :: rowsR 7 EvR (.slice Av n cv) l :: L))
            case atStart => exact ⟨0, cn, 0, 0, 0, false, rfl, by omega, rfl, rfl, rfl, rfl, rfl, rfl, ⟨by simp, rfl, rfl, rfl, by simp⟩, H3.out⟩
            case round =>
              clear H3
              obtain ⟨e, ct, P, K, s, Y, hge, he, rfl, rfl, rfl, rfl, rfl, rfl, hall, h⟩ := hrel
              have HGE := hide hge
              have HALL := hide hall
              have hct : ct ≤ 120 := by
                rw [hall.1]
                have := List.length_filter_le (mineE r zh.t) (l.take e)
                rw [List.length_take] at this
                omega
              clear hge hall
              by_cases hle : e < n
              · have hx := List.getElem?_eq_getElem (l := l) (i := e) (by rw [← HN.out]; exact hle)
                generalize l[e]'(by rw [← HN.out]; exact hle) = x at hx
                have HX := hide hx
                have H3 := hide h
                obtain ⟨ae, cs, rfl, _, hcs, hev, h⟩ := h.elem 2 rfl hx
                obtain ⟨Ad, cd, rfl, hints⟩ := hev
                obtain ⟨e0, e1, e2, e3, e4, e5, e6⟩ := cells7 hcs
                have h1 := H3.out.alloc 120 #[.int .i64 x.d, .int .i64 x.c, .int .i64 x.r, .int .i64 x.i, .int .u64 x.t, .slice Ad x.b.length cd, .int .i64 x.e]
                have HI0 := hide (fun (w' : World) (hf : Fr Non (wr.alloc (.cells #[.int .i64 x.d, .int .i64 x.c, .int .i64 x.r, .int .i64 x.i, .int .u64 x.t, .slice Ad x.b.length cd, .int .i64 x.e] 120)) w') => (hints.non ((Fr.refl Non wr).alloc (.cells #[.int .i64 x.d, .int .i64 x.c, .int .i64 x.r, .int .i64 x.i, .int .u64 x.t, .slice Ad x.b.length cd, .int .i64 x.e] 120))).non hf)
                have y0 := (h1.blk 0 rfl).cell 0
                have y2 := (h1.blk 0 rfl).cell 2
                have y3 := (h1.blk 0 rfl).cell 3
                have y4 := (h1.blk 0 rfl).cell 4
                have y5 := (h1.blk 0 rfl).cell 5
                have y6 := (h1.blk 0 rfl).cell 6
                obtain ⟨f0, f1, f2, f3⟩ := cells4F (p := ad.add (i * 4)) (fun j u hu => HZS.out none j u hu _ h1.tail)
                have e00 : (0 : Int) ≤ (e : Int) := by omega
                have e01 : (e : Int) < (n : Int) := by omega
                have HSP := hide (h1.tail.get 1 rfl _ HZM.out)
                have H4 := hide h1.tail
                clear h h1 hx hcs hints H3
                obtain ⟨a1, ha1⟩ : ∃ a1, (x.r != r) = a1 := ⟨_, rfl⟩
                obtain ⟨a2, ha2⟩ : ∃ a2, (x.t != zt) = a2 := ⟨_, rfl⟩
                obtain ⟨a3, ha3⟩ : ∃ a3, (x.e != 0) = a3 := ⟨_, rfl⟩
                have HM := hide (show mineE r zh.t x = (!a1 && !a2 && !a3 && decide (x.d ≥ 5) && decide (x.d ≤ 7)) by
                  rw [mineE_eq HF.out.ne, ha1, ← HZO.out.1, ha2, ha3])
                by_cases hgd : (a1 || a2 || a3) = true
                · as_aux_lemma =>
                    have HNM := hide (show mineE r zh.t x = false by rw [HM.out]; exact three_any hgd _ _)
                    have HN5 := hide (sec_skip HX.out HNM.out HALL.out)
                    cases a1
                    case' true => skip
                    case' false => cases a2
                    case' false.false => cases a3
                    case' false.false.false => exact absurd hgd (by decide)
                    all_goals
                      clear hgd
                      go_wp2_with fail
                      go_quiet (fail)
                      go_wp2_with fail
                      go_roundg (n - (e + 1))
                      case measure => have := HGE.out; omega
                      case rel => exact ⟨e + 1, ct, P, K, s, Y, rfl, by omega, by go_num, rfl, rfl, rfl, rfl, rfl, HN5.out, H4.out.drewN _⟩
                · obtain ⟨rfl, rfl, rfl⟩ := three_not hgd
                  have HM : Hid (mineE r zh.t x = (decide (x.d ≥ 5) && decide (x.d ≤ 7))) := HM
                  clear hgd
                  by_cases hd5 : x.d = 5
                  · as_aux_lemma =>
                      have hm : mineE r zh.t x = true := by rw [HM.out, hd5]; rfl
                      have hat := sec_put HF.out.eq HX.out hm hd5
                      rw [← HALL.out.2.1] at hat
                      have HN5 := hide (sec_put_next HX.out hm hd5 HALL.out)
                      have hsl := HSP.out.1
                      have hsl : Rows _ 2 PutHR (.slice pa pn pc) zh.p := hsl
                      obtain ⟨A', c', hpv, hq1, hq2⟩ := hsl.slice
                      injection hpv with ea hpn ec
                      have hPl := (List.getElem?_eq_some_iff.1 hat).1
                      obtain ⟨pd, pcs, rfl, _, hpcs, ⟨v, rfl, hv⟩⟩ := hsl.at_ hat
                      obtain ⟨p0, p1⟩ := cells2H hpcs
                      obtain ⟨B, d, rfl, _, _, _⟩ := id hv
                      have HI1 := hide (fun (w' : World) (hf : Fr Non (wr.alloc (.cells #[.int .i64 x.d, .int .i64 x.c, .int .i64 x.r, .int .i64 x.i, .int .u64 x.t, .slice Ad x.b.length cd, .int .i64 x.e] 120)) w') => hv.non hf)
                      have b1 := isT hd5
                      have hPb : P < 9223372036854775807 := by omega
                      have P0 : (0 : Int) ≤ (P : Int) := by omega
                      have P1 : (P : Int) < (pn : Int) := by omega
                      have P2 : decide (pn ≤ P) = false := decide_eq_false (by omega)
                      have g1 : decide ((P : Int) ≥ (pn : Int)) = false := decide_eq_false (by omega)
                      have g1' : decide ((pn : Int) ≤ (P : Int)) = false := g1
                      have g2 : (x.i != x.i) = false := isNF rfl
                      have g3 : decide (x.d ≥ 5) = true := decide_eq_true (by omega)
                      have g3' : decide (5 ≤ x.d) = true := g3
                      have g4 : decide (x.d ≤ 7) = true := decide_eq_true (by omega)
                      clear hat hsl hpcs hv hm hd5 hpn hPl ea ec hq1 hq2
                      go_wp2_with fail
                      go_quiet (fail)
                      go_wp2_with fail
                      go_quiet ((go_at_call 25; refine (same_eq _ _ x.b _ (HI1.out _ ((Fr.refl Non _).drewN _)) (HI0.out _ ((Fr.refl Non _).drewN _))).mono ?_; rintro e5 w5 ⟨rfl, k5, rfl⟩; exact ⟨rfl, _, (World.drewN_drewN _ _ _).trans (congrArg (World.drewN _) (Nat.add_assoc _ _ _))⟩))
                      go_wp2_with fail
                      go_roundg (n - (e + 1))
                      case measure => have := HGE.out; omega
                      case rel => exact ⟨e + 1, ct + 1, P + 1, K, s, true, rfl, by omega, by go_num, by go_num, by go_num, rfl, rfl, rfl, HN5.out, H4.out.drewN _⟩
                  · by_cases hd6 : x.d = 6
                    · as_aux_lemma =>
                        have hm : mineE r zh.t x = true := by rw [HM.out, hd6]; rfl
                        have hat := sec_look HF.out.eq HX.out hm hd6
                        rw [← HALL.out.2.1, ← HALL.out.2.2.1] at hat
                        have HN5 := hide (sec_look_next HX.out hm hd6 HALL.out)
                        have hsl := HSP.out.2
                        have hsl : Rows _ 3 LookHR (.slice ka kn kc) zh.k := hsl
                        obtain ⟨A', c', hpv, hq1, hq2⟩ := hsl.slice
                        injection hpv with ea hpn ec
                        have hPl := (List.getElem?_eq_some_iff.1 hat).1
                        obtain ⟨pd, pcs, rfl, _, hpcs, ⟨v, rfl, hv⟩⟩ := hsl.at_ hat
                        obtain ⟨p0, p1, p2⟩ := cells3 hpcs
                        obtain ⟨B, d, rfl, _, _, _⟩ := id hv
                        have HI1 := hide (fun (w' : World) (hf : Fr Non (wr.alloc (.cells #[.int .i64 x.d, .int .i64 x.c, .int .i64 x.r, .int .i64 x.i, .int .u64 x.t, .slice Ad x.b.length cd, .int .i64 x.e] 120)) w') => hv.non hf)
                        have b1 := isF hd5
                        have b2 := isT hd6
                        have hPb : K < 9223372036854775807 := by omega
                        have P0 : (0 : Int) ≤ (K : Int) := by omega
                        have P1 : (K : Int) < (kn : Int) := by omega
                        have P2 : decide (kn ≤ K) = false := decide_eq_false (by omega)
                        have g1 : decide ((K : Int) ≥ (kn : Int)) = false := decide_eq_false (by omega)
                        have g1' : decide ((kn : Int) ≤ (K : Int)) = false := g1
                        have g0 : ((P : Int) != (P : Int)) = false := isNF rfl
                        have g2 : (x.i != x.i) = false := isNF rfl
                        have g3 : decide (x.d ≥ 5) = true := decide_eq_true (by omega)
                        have g3' : decide (5 ≤ x.d) = true := g3
                        have g4 : decide (x.d ≤ 7) = true := decide_eq_true (by omega)
                        clear hat hsl hpcs hv hm hd6 hd5 hpn hPl ea ec hq1 hq2
                        go_wp2_with fail
                        go_quiet (fail)
                        go_wp2_with fail
                        go_quiet ((go_at_call 25; refine (same_eq _ _ x.b _ (HI1.out _ ((Fr.refl Non _).drewN _)) (HI0.out _ ((Fr.refl Non _).drewN _))).mono ?_; rintro e5 w5 ⟨rfl, k5, rfl⟩; exact ⟨rfl, _, (World.drewN_drewN _ _ _).trans (congrArg (World.drewN _) (Nat.add_assoc _ _ _))⟩))
                        go_wp2_with fail
                        go_roundg (n - (e + 1))
                        case measure => have := HGE.out; omega
                        case rel => exact ⟨e + 1, ct + 1, P, K + 1, s, true, rfl, by omega, by go_num, by go_num, rfl, by go_num, rfl, rfl, HN5.out, H4.out.drewN _⟩
                    · by_cases hd7 : x.d = 7
                      · as_aux_lemma =>
                          have hm : mineE r zh.t x = true := by rw [HM.out, hd7]; rfl
                          have HN5 := hide (sec_sure_next HX.out hm hd7 HALL.out)
                          have b1 := isF hd5
                          have b2 := isF hd6
                          have b3 := isT hd7
                          have g3 : decide (x.d ≥ 5) = true := decide_eq_true (by omega)
                          have g3' : decide (5 ≤ x.d) = true := g3
                          have g4 : decide (x.d ≤ 7) = true := decide_eq_true (by omega)
                          clear hm hd7 hd6 hd5
                          go_wp2_with fail
                          go_quiet (fail)
                          go_wp2_with fail
                          go_roundg (n - (e + 1))
                          case measure => have := HGE.out; omega
                          case rel => exact ⟨e + 1, ct + 1, P, K, P, true, rfl, by omega, by go_num, by go_num, rfl, rfl, rfl, rfl, HN5.out, H4.out.drewN _⟩
                      · as_aux_lemma =>
                          have hm : mineE r zh.t x = false := by
                            rw [HM.out, ← Bool.decide_and]
                            exact decide_eq_false (by omega)
                          have HN5 := hide (sec_skip HX.out hm HALL.out)
                          have b1 := isF hd5
                          have b2 := isF hd6
                          have b3 := isF hd7
                          by_cases h5 : x.d ≥ 5
                          · have g3 : decide (x.d ≥ 5) = true := decide_eq_true h5
                            have g3' : decide (5 ≤ x.d) = true := g3
                            have g4 : decide (x.d ≤ 7) = false := decide_eq_false (by omega)
                            clear hm hd7 hd6 hd5 h5
                            go_wp2_with fail
                            go_quiet (fail)
                            go_wp2_with fail
                            go_roundg (n - (e + 1))
                            case measure => have := HGE.out; omega
                            case rel => exact ⟨e + 1, ct, P, K, s, Y, rfl, by omega, by go_num, rfl, rfl, rfl, rfl, rfl, HN5.out, H4.out.drewN _⟩
                          · have g3 : decide (x.d ≥ 5) = false := decide_eq_false h5
                            have g3' : decide (5 ≤ x.d) = false := g3
                            clear hm hd7 hd6 hd5 h5
                            go_wp2_with fail
                            go_quiet (fail)
                            go_wp2_with fail
                            go_roundg (n - (e + 1))
                            case measure => have := HGE.out; omega
                            case rel => exact ⟨e + 1, ct, P, K, s, Y, rfl, by omega, by go_num, rfl, rfl, rfl, rfl, rfl, HN5.out, H4.out.drewN _⟩
              · as_aux_lemma =>
                  obtain rfl : n = e := by omega
                  have hfull : l.take n = l := by rw [HN.out]; exact List.take_length
                  have hal : AllE r zh.t l cn ct P K s Y n := HALL.out
                  unfold AllE at hal
                  rw [hfull, ← HF.out.eq] at hal
                  obtain ⟨hl1, rfl, rfl, rfl, hl5⟩ := hal
                  obtain rfl : Y = true := by
                    rw [hl5]
                    obtain ⟨q, hq, hm⟩ := HF.out.some_
                    exact List.any_eq_true.2 ⟨q, hq, hm⟩
                  have hsp := h.get 1 rfl _ HZM.out
                  have hs1 : Rows _ 2 PutHR (.slice pa pn pc) zh.p := hsp.1
                  have hs2 : Rows _ 3 LookHR (.slice ka kn kc) zh.k := hsp.2
                  obtain ⟨A', c', hpv, _, _⟩ := hs1.slice
                  injection hpv with ea hpn ec
                  obtain ⟨A', c', hkv, _, _⟩ := hs2.slice
                  injection hkv with ea2 hkn ec2
                  have HNX := hide (show ct = cntS r l ((zs.take (i + 1)).map Prod.snd) by
                    rw [hl1, HCN.out, List.take_add_one, HZ.out, List.map_append]
                    exact (cntS_snoc r l _ _).symm)
                  obtain ⟨f0, f1, f2, f3⟩ := cells4F (p := ad.add (i * 4)) (fun j u hu => HZS.out none j u hu _ h)
                  have g1 : (((zh.p.length : Nat) : Int) != (pn : Int)) = false := isNF (by omega)
                  have g2 : (((zh.k.length : Nat) : Int) != (kn : Int)) = false := isNF (by omega)
                  have g3 : (zh.s != zu) = false := isNF HZO.out.2.symm
                  have hmb : c ≤ 9223372036854775807 := HCM.out
                  have H5 := hide h
                  clear h hfull hl1 hl5 hsp hs1 hs2 ea ec ea2 ec2 hpn hkn
                  go_wp2_with fail
                  go_roundg (m - (i + 1))
                  case measure => have := HG.out; omega
                  case rel => exact ⟨i + 1, rfl, by omega, by go_num, by rw [← HNX.out], H5.out⟩
      · obtain rfl : m = i := by omega
        have hfz : zs.take m = zs := by rw [HM.out]; exact List.take_length
        rw [hfz]
        rw [cntS_all HP.out]
        obtain ⟨N, hNN⟩ : ∃ N, N = (l.filter (EvM.good r)).length := ⟨_, rfl⟩
        have hNle : N ≤ n := by rw [hNN, HN.out]; exact List.length_filter_le _ _
        rw [← hNN]
        have HNN := hide hNN
        have H3 := hide h
        clear h hNN hfz hlt
        go_wp2_with fail
        go_loopg [15, 16] n (fun gh wv kv wr => ∃ (k q : Nat), gh = n - k ∧ k ≤ n ∧ wv = .int .i64 (q : Nat) ∧ kv = .int .i64 (k : Nat) ∧ q = ((l.take k).filter (EvM.good r)).length ∧ St M0 wr (keepR secC 4 (.slice A m c) (zs.map Prod.fst) :: persR (fun w => ∀ z ∈ zs, secP z w) :: rowsR 7 EvR (.slice Av n cv) l :: L))
        case atStart => exact ⟨0, 0, rfl, by omega, rfl, rfl, by simp, H3.out⟩
        case round =>
          clear H3
          obtain ⟨k, q, hgk, hk, rfl, rfl, hq, h⟩ := hrel
          have HGK := hide hgk
          have hqn : q ≤ 60 := by
            rw [hq]
            have := List.length_filter_le (EvM.good r) (l.take k)
            rw [List.length_take] at this
            omega
          have HQ := hide hq
          clear hgk hq
          by_cases hkn : k < n
          · as_aux_lemma =>
              have hx := List.getElem?_eq_getElem (l := l) (i := k) (by rw [← HN.out]; exact hkn)
              generalize l[k]'(by rw [← HN.out]; exact hkn) = x at hx
              have HFN := hide (fil_next (p := EvM.good r) hx)
              have HGX := hide (good_eq (r := r) (HTK0.out x (List.mem_of_getElem? hx)))
              have H4 := hide h
              obtain ⟨ae, cs, rfl, _, hcs, hev, _⟩ := h.elem 2 rfl hx
              obtain ⟨Ad, cd, rfl, _⟩ := hev
              obtain ⟨e0, e1, e2, e3, e4, e5, e6⟩ := cells7 hcs
              have k0 : (0 : Int) ≤ (k : Int) := by omega
              have k1 : (k : Int) < (n : Int) := by omega
              obtain ⟨a1, ha1⟩ : ∃ a1, (x.r == r) = a1 := ⟨_, rfl⟩
              obtain ⟨a2, ha2⟩ : ∃ a2, decide (x.t > 0) = a2 := ⟨_, rfl⟩
              have ha2' : decide (0 < x.t) = a2 := ha2
              obtain ⟨a3, ha3⟩ : ∃ a3, (x.e == 0) = a3 := ⟨_, rfl⟩
              obtain ⟨a4, ha4⟩ : ∃ a4, decide (x.d ≥ 5) = a4 := ⟨_, rfl⟩
              have ha4' : decide (5 ≤ x.d) = a4 := ha4
              obtain ⟨a5, ha5⟩ : ∃ a5, decide (x.d ≤ 7) = a5 := ⟨_, rfl⟩
              have HGD := hide (show x.good r = (a1 && a2 && a3 && a4 && a5) by rw [HGX.out, ha1, ha2, ha3, ha4, ha5])
              clear h hx hcs HGX
              by_cases hgd : (a1 && a2 && a3 && a4 && a5) = true
              · have HQ2 := hide (show q + 1 = ((l.take (k + 1)).filter (EvM.good r)).length by rw [HFN.out, HGD.out, if_pos hgd, ← HQ.out])
                obtain ⟨rfl, rfl, rfl, rfl, rfl⟩ := five_all hgd
                clear hgd
                go_wp2_with fail
                go_roundg (n - (k + 1))
                case measure => have := HGK.out; omega
                case rel => exact ⟨k + 1, q + 1, rfl, by omega, by go_num, by go_num, HQ2.out, H4.out⟩
              · have HQ2 := hide (show q = ((l.take (k + 1)).filter (EvM.good r)).length by rw [HFN.out, HGD.out, if_neg hgd, ← HQ.out, Nat.add_zero])
                cases a1
                case' true => cases a2
                case' true.true => cases a3
                case' true.true.true => cases a4
                case' true.true.true.true => cases a5
                case' true.true.true.true.true => exact absurd rfl hgd
                all_goals
                  clear hgd
                  go_wp2_with fail
                  go_roundg (n - (k + 1))
                  case measure => have := HGK.out; omega
                  case rel => exact ⟨k + 1, q, rfl, by omega, rfl, by go_num, HQ2.out, H4.out⟩
          · obtain rfl : n = k := by omega
            have hfull : l.take n = l := by rw [HN.out]; exact List.take_length
            obtain rfl : q = N := by rw [HQ.out, HNN.out, hfull]
            have b1 : ((q : Int) == (q : Int)) = true := isT rfl
            have H4 := hide h
            clear h hfull hkn
            go_wp2_with fail
            go_ret
            exact ⟨rfl, _, H4.out⟩
end Go.Proofs.Ytbgknfdaaffeaaa
