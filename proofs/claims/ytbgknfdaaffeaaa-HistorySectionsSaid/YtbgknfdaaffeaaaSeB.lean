/- History: Sections. Printed by gen_seb.py. -/
import Derived.Test.YtbgknfdaaffeaaaSeA
import Derived.Test.YtbgknfdaaffeaaaSrD
import Derived.Test.YtbgknfdaaffeaaaCloneSt
import Derived.Deep.DeepCutAuto
namespace Go.Proofs.Ytbgknfdaaffeaaa
open Go.RowKit Go.Shelf

theorem sl_blkS {w : World} {b : Nat} {t : TypeId} {cs : List Value} (h : Blk w b t cs.toArray) : Sl w Any cs.length (some ⟨b, 0, none⟩) 1 cs :=
  ⟨by simp, fun _ => ⟨_, rfl, trivial, h.lt, fun j u hu => by
    rw [show (⟨b, 0, none⟩ : Addr).add j = ⟨b, j, none⟩ by simp [Addr.add]; exact Eq.symm, h.cell]
    simpa using hu⟩⟩
theorem put_elemH : ElemOf Try.prog 34 122 (.agg #[.int .i64 0, .slice none 0 0]) 2 32 := ⟨Try.underlying34, by kernel_rfl, by kernel_rfl, by omega⟩
theorem look_elemH : ElemOf Try.prog 35 124 (.agg #[.int .i64 0, .int .i64 0, .slice none 0 0]) 3 40 := ⟨Try.underlying35, by kernel_rfl, by kernel_rfl, by omega⟩
theorem put_buildH (w : World) (a : Int) (A : Option Addr) (n c : Nat) : (Instr.buildSlice 34 1 #[(0, .agg #[.int .i64 a, .slice A n c])]).run Try.prog w = .ok (.slice (some ⟨w.heap.size, 0, none⟩) 1 1) (w.alloc (.cells #[.int .i64 a, .slice A n c] 122)) := by kernel_rfl
theorem look_buildH (w : World) (a b : Int) (A : Option Addr) (n c : Nat) : (Instr.buildSlice 35 1 #[(0, .agg #[.int .i64 a, .int .i64 b, .slice A n c])]).run Try.prog w = .ok (.slice (some ⟨w.heap.size, 0, none⟩) 1 1) (w.alloc (.cells #[.int .i64 a, .int .i64 b, .slice A n c] 124)) := by kernel_rfl
theorem sec_buildH (w : World) (t s : Int) (A B : Option Addr) (n c m d : Nat) : (Instr.buildSlice 22 1 #[(0, .agg #[.int .u64 t, .slice A n c, .int .i64 s, .slice B m d])]).run Try.prog w = .ok (.slice (some ⟨w.heap.size, 0, none⟩) 1 1) (w.alloc (.cells #[.int .u64 t, .slice A n c, .int .i64 s, .slice B m d] 37)) := by kernel_rfl
theorem put_oneH (a : Int) (A : Option Addr) (n c : Nat) : ∀ u ∈ ([.int .i64 a, .slice A n c] : List Value), u.oneCell' = true := by
  intro u hu
  simp only [List.mem_cons, List.not_mem_nil, or_false] at hu
  rcases hu with rfl | rfl <;> rfl
theorem look_oneH (a b : Int) (A : Option Addr) (n c : Nat) : ∀ u ∈ ([.int .i64 a, .int .i64 b, .slice A n c] : List Value), u.oneCell' = true := by
  intro u hu
  simp only [List.mem_cons, List.not_mem_nil, or_false] at hu
  rcases hu with rfl | rfl | rfl <;> rfl
def EvR (w : World) (cs : List Value) (x : EvM) : Prop := ∃ A c, cs = [.int .i64 x.d, .int .i64 x.c, .int .i64 x.r, .int .i64 x.i, .int .u64 x.t, .slice A x.b.length c, .int .i64 x.e] ∧ Ints w .u8 (.slice A x.b.length c) x.b
theorem cells7 {w : World} {p : Addr} {a b c d e f g : Value} (h : ∀ j u, [a, b, c, d, e, f, g][j]? = some u → w.cell? (p.add j) = some u) : w.cell? p = some a ∧ w.cell? ⟨p.block, p.off + 1, none⟩ = some b ∧ w.cell? ⟨p.block, p.off + 2, none⟩ = some c ∧ w.cell? ⟨p.block, p.off + 3, none⟩ = some d ∧ w.cell? ⟨p.block, p.off + 4, none⟩ = some e ∧ w.cell? ⟨p.block, p.off + 5, none⟩ = some f ∧ w.cell? ⟨p.block, p.off + 6, none⟩ = some g :=
  ⟨by simpa [Addr.add] using h 0 a rfl, by simpa [Addr.add] using h 1 b rfl, by simpa [Addr.add] using h 2 c rfl, by simpa [Addr.add] using h 3 d rfl, by simpa [Addr.add] using h 4 e rfl, by simpa [Addr.add] using h 5 f rfl, by simpa [Addr.add] using h 6 g rfl⟩
set_option maxHeartbeats 400000 in
theorem sortStable0_st {M0 : Imm} {L : List Res} (A : Option Addr) (c : Nat) (fv : Value) (w : World) (h : St M0 w L) :
    Calls Try.prog 112 #[.slice A 0 c, fv] w fun u w' => u = .returned (.tuple #[]) ∧ St M0 w' L := by
  have H := hide h
  clear h
  have key : ∀ w, St M0 w L → Calls Try.prog 164 #[.slice A 0 c, .int .i64 0, .int .i64 0, fv] w fun u w' => u = .returned (.tuple #[]) ∧ St M0 w' L := fun w h => by
    have H := hide h
    clear h
    go_enter Try.func164, Try.ntmps164
    go_wp2_with fail
    go_loopg [8] 1 (fun gh iv wr => iv = .int .i64 1 ∧ gh = 1 ∧ St M0 wr L)
    case atStart => exact ⟨rfl, rfl, H.out⟩
    case round =>
      obtain ⟨rfl, _, h⟩ := hrel
      have H1 := hide h
      clear h H
      go_wp2_with fail
      go_end0
      exact ⟨rfl, H1.out⟩
  have KEY := hide key
  clear key
  go_enter Try.func112, Try.ntmps112
  go_wp2_with fail
  refine (show Calls Try.prog 149 #[.slice A 0 c, .int .i64 0, fv] _ (fun u w' => u = .returned (.tuple #[]) ∧ St M0 w' L) from ?_).mono ?_
  · go_enter Try.func149, Try.ntmps149
    go_wp2_with fail
    go_loopg [7, 8] 1 (fun gh av bw wr => av = .int .i64 0 ∧ bw = .int .i64 20 ∧ gh = 1 ∧ St M0 wr L)
    case atStart => exact ⟨rfl, rfl, rfl, H.out⟩
    case round =>
      obtain ⟨rfl, rfl, _, h⟩ := hrel
      have H1 := hide h
      clear h H
      go_wp2_with fail
      refine (KEY.out _ H1.out).mono ?_
      rintro e w2 ⟨rfl, h2⟩
      have H2 := hide h2
      clear h2 H1
      go_wp2_with fail
      go_loopg [6] 1 (fun gh sv wr => sv = .int .i64 20 ∧ gh = 1 ∧ St M0 wr L)
      case atStart => exact ⟨rfl, rfl, H2.out⟩
      case round =>
        obtain ⟨rfl, _, h⟩ := hrel
        have H3 := hide h
        clear h H2
        go_wp2_with fail
        go_end0
        exact ⟨rfl, H3.out⟩
  · rintro e w2 ⟨rfl, h2⟩
    have H2 := hide h2
    clear h2 H
    go_wp2_with fail
    go_end0
    exact ⟨rfl, H2.out⟩
/-- how the sections that grow stand to what happened -/
structure PairsOk (r : Int) (l : List EvM) (zs : List PairS) : Prop where
  eq : zs.map Prod.snd = secsM r l
  ok : ∀ z ∈ zs, z.1.t = z.2.t ∧ z.1.s = z.2.s
  n : zs.length ≤ l.length
  p : ∀ z ∈ zs, z.2.p.length ≤ l.length ∧ z.2.k.length ≤ l.length
theorem stepS_len (s : SecH) (x : EvM) : (stepS s x).p.length ≤ s.p.length + 1 ∧ (stepS s x).k.length ≤ s.k.length + 1 := by
  unfold stepS
  split
  · simp
  · split <;> simp
theorem PairsOk.skip {r : Int} {l : List EvM} {zs : List PairS} {x : EvM} (h : PairsOk r l zs) (hg : x.good r = false) : PairsOk r (l ++ [x]) zs :=
  ⟨by rw [secsM_snoc, if_neg (by rw [hg]; exact Bool.false_ne_true)]; exact h.eq, h.ok, by have := h.n; simp; omega, fun z hz => by have := h.p z hz; simp; omega⟩
/-- with a section for a token that was not there -/
theorem PairsOk.more {r : Int} {l : List EvM} {zs : List PairS} {x : EvM} (h : PairsOk r l zs) (hg : x.good r = true) (hn : (zs.map Prod.fst).find? (fun s => s.t == x.t) = none) {z' : PairS} (hz : z'.2 = stepS (zeroS x.t) x) (ho : z'.1.t = z'.2.t ∧ z'.1.s = z'.2.s) :
    PairsOk r (l ++ [x]) ((zs ++ [((⟨x.t, ⟨none, 0, 0⟩, 0, ⟨none, 0, 0⟩⟩ : SecV), zeroS x.t)]).set zs.length z') := by
  have e : (zs ++ [((⟨x.t, ⟨none, 0, 0⟩, 0, ⟨none, 0, 0⟩⟩ : SecV), zeroS x.t)]).set zs.length z' = zs ++ [z'] := by simp
  rw [e]
  have hno : ∀ s ∈ secsM r l, s.t ≠ x.t := by
    rw [← h.eq]
    intro s hs he
    obtain ⟨z, hz, rfl⟩ := List.mem_map.1 hs
    have := List.find?_eq_none.1 hn z.1 (List.mem_map.2 ⟨z, hz, rfl⟩)
    rw [(h.ok z hz).1, he] at this
    simp at this
  refine ⟨by rw [secsM_snoc, if_pos hg, addS_none hno, List.map_append, h.eq, ← hz]; rfl, fun z hz => ?_, by have := h.n; simp; omega, fun z hm => ?_⟩
  · rcases List.mem_append.1 hz with hz | hz
    · exact h.ok z hz
    · rw [List.mem_singleton] at hz
      rw [hz]
      exact ho
  · rcases List.mem_append.1 hm with hm | hm
    · have := h.p z hm
      simp
      omega
    · rw [List.mem_singleton] at hm
      rw [hm, hz]
      have := stepS_len (zeroS x.t) x
      simp [zeroS] at this ⊢
      omega
/-- with another section in place of the one of that token -/
theorem PairsOk.put {r : Int} {l : List EvM} {zs : List PairS} {x : EvM} {k : Nat} {z z' : PairS} (h : PairsOk r l zs) (hg : x.good r = true) (hk : zs[k]? = some z) (ht : z.1.t = x.t) (hno : ∀ y ∈ (zs.map Prod.fst).take k, (y.t == x.t) = false) (hz : z'.2 = stepS z.2 x) (ho : z'.1.t = z'.2.t ∧ z'.1.s = z'.2.s) :
    PairsOk r (l ++ [x]) (zs.set k z') := by
  have hm := List.mem_of_getElem? hk
  have hk2 : (secsM r l)[k]? = some z.2 := by rw [← h.eq, List.getElem?_map, hk]; rfl
  refine ⟨?_, fun y hy => ?_, by have := h.n; simp; omega, fun y hy => ?_⟩
  · rw [secsM_snoc, if_pos hg, addS_some hk2 ((h.ok z hm).1.symm.trans ht) (fun s hs => ?_), List.map_set, h.eq, hz]
    rw [← h.eq, ← List.map_take] at hs
    obtain ⟨y, hy, rfl⟩ := List.mem_map.1 hs
    intro he
    have := hno y.1 (by rw [← List.map_take]; exact List.mem_map.2 ⟨y, hy, rfl⟩)
    rw [(h.ok y (List.mem_of_mem_take hy)).1, he] at this
    simp at this
  · rcases List.mem_or_eq_of_mem_set hy with hy | rfl
    · exact h.ok y hy
    · exact ho
  · rcases List.mem_or_eq_of_mem_set hy with hy | rfl
    · have := h.p y hy
      simp
      omega
    · rw [hz]
      have := stepS_len z.2 x
      have := h.p z hm
      simp
      omega
theorem St.bigBack {M0 : Imm} {w : World} {L : List Res} {z' : PairS} {P K : Res} {zs : List PairS} {v : Value} {xs ys : List SecV} (h : St M0 w (P :: K :: bigS zs :: ownR secC 37 4 v xs :: L)) (h1 : secR1 z' = starR P K) (h2 : xs = ys) : St M0 w (bigS (z' :: zs) :: ownR secC 37 4 v ys :: L) := by
  subst h2
  refine St.bigCons ?_
  rw [h1]
  exact h.addStar
theorem five_not : ∀ {a b c d e : Bool}, (!a && !b && !c && !d && !e) = true → a = false ∧ b = false ∧ c = false ∧ d = false ∧ e = false := by decide
set_option maxHeartbeats 16000000 in
set_option maxRecDepth 100000 in
theorem sections_st {M0 : Imm} {L : List Res} (v : Value) (r : Int) (l : List EvM) (w : World) (hmx : l.length ≤ 1000000) (hbl : ∀ x ∈ l, x.b.length ≤ 140737488355328) (h : St M0 w (rowsR 7 EvR v l :: L)) :
    Calls Try.prog 57 #[v, .int .i64 r] w fun e w' => ∃ (u : Value) (zs : List PairS), e = .returned u ∧ (zs.map Prod.snd).Perm (secsM r l) ∧ SortedT (zs.map Prod.fst) ∧ (∀ z ∈ zs, z.1.t = z.2.t ∧ z.1.s = z.2.s) ∧ St M0 w' (keepR secC 4 u (zs.map Prod.fst) :: persR (fun w => ∀ z ∈ zs, secP z w) :: rowsR 7 EvR v l :: L) := by
  obtain ⟨Av, cv, rfl, hcv, hmv⟩ := (h.getRows 0 rfl).slice
  obtain ⟨n, hn⟩ : ∃ n, n = l.length := ⟨_, rfl⟩
  rw [← hn] at hcv h hmx ⊢
  have HN := hide hn
  have HBLA := hide hbl
  have H := hide ((h.bigNil).ownNil secC 37 4)
  clear h hn hbl
  go_enter Try.func57, Try.ntmps57
  go_wp2_with fail
  go_loopg [5, 12] n (fun gh ov iv wr => ∃ (j q : Nat) (A : Option Addr) (c : Nat) (zs : List PairS), gh = n - j ∧ j ≤ n ∧ ov = .slice A q c ∧ iv = .int .i64 (j : Nat) ∧ q = zs.length ∧ PairsOk r (l.take j) zs ∧ St M0 wr (ownR secC 37 4 (.slice A q c) (zs.map Prod.fst) :: bigS zs :: rowsR 7 EvR (.slice Av n cv) l :: L))
  case atStart => exact ⟨0, 0, none, 0, [], rfl, by omega, rfl, rfl, rfl, ⟨rfl, fun _ h => absurd h List.not_mem_nil, by simp, fun _ h => absurd h List.not_mem_nil⟩, H.out⟩
  case round =>
    clear H
    obtain ⟨j, q, A, c, zs, hg, hj, rfl, rfl, hq, hpo, h⟩ := hrel
    have HG := hide hg
    have HP := hide hpo
    have HQ := hide hq
    clear hg hpo
    by_cases hlt : j < n
    · have hx := List.getElem?_eq_getElem (l := l) (i := j) (by rw [← HN.out]; exact hlt)
      generalize l[j]'(by rw [← HN.out]; exact hlt) = x at hx
      have HTK := hide (show l.take (j + 1) = l.take j ++ [x] by rw [List.take_add_one, hx]; rfl)
      have HBL := hide (HBLA.out x (List.mem_of_getElem? hx))
      have hqj : q ≤ j := by rw [hq]; have := HP.out.n; rw [List.length_take] at this; omega
      obtain ⟨ad, cs, rfl, _, hcs, hev, h⟩ := h.elem 2 rfl hx
      obtain ⟨Ad, cd, rfl, hints⟩ := hev
      obtain ⟨e0, e1, e2, e3, e4, e5, e6⟩ := cells7 hcs
      have h1 := (h.pers1 (R' := fun w' => Ints w' .u8 (.slice Ad x.b.length cd) x.b) (fun w' hw => by
        obtain ⟨_, A', c', e, hi⟩ := hw
        injection e with _ e
        injection e with _ e
        injection e with _ e
        injection e with _ e
        injection e with _ e
        injection e with e _
        rw [e]
        exact hi)).alloc 120 #[.int .i64 x.d, .int .i64 x.c, .int .i64 x.r, .int .i64 x.i, .int .u64 x.t, .slice Ad x.b.length cd, .int .i64 x.e]
      generalize hy : wr.heap.size = y at h1
      have HY := hide hy
      have j0 : (0 : Int) ≤ (j : Int) := by omega
      have j1 : (j : Int) < (n : Int) := by omega
      have H1 := hide h1
      obtain ⟨a1, ha1⟩ : ∃ a1, (x.r != r) = a1 := ⟨_, rfl⟩
      obtain ⟨a2, ha2⟩ : ∃ a2, (x.t == 0) = a2 := ⟨_, rfl⟩
      obtain ⟨a3, ha3⟩ : ∃ a3, (x.e != 0) = a3 := ⟨_, rfl⟩
      obtain ⟨a4, ha4⟩ : ∃ a4, decide (x.d < 5) = a4 := ⟨_, rfl⟩
      obtain ⟨a5, ha5⟩ : ∃ a5, decide (x.d > 7) = a5 := ⟨_, rfl⟩
      have ha5' : decide (7 < x.d) = a5 := ha5
      have hgood : x.good r = (!a1 && !a2 && !a3 && !a4 && !a5) := by
        unfold EvM.good
        rw [← ha1, ← ha2, ← ha3, ← ha4, ← ha5]
        have e1 : decide (5 ≤ x.d) = !decide (x.d < 5) := by rw [← decide_not]; exact decide_eq_decide.2 (by omega)
        have e2 : decide (x.d ≤ 7) = !decide (x.d > 7) := by rw [← decide_not]; exact decide_eq_decide.2 (by omega)
        rw [e1, e2]
        simp [bne]
      clear h h1 hx hcs hints hy hq
      by_cases hgd : x.good r = true
      case neg =>
        have hgf : x.good r = false := by simpa using hgd
        have HNX := hide (show PairsOk r (l.take (j + 1)) zs by rw [HTK.out]; exact HP.out.skip hgf)
        rw [hgood] at hgf
        have H2 := hide (H1.out.sub (L' := ownR secC 37 4 (.slice A q c) (zs.map Prod.fst) :: bigS zs :: rowsR 7 EvR (.slice (some ad) n cv) l :: L) (by (repeat (first | with_reducible exact Sub.refl _ | (with_reducible apply Sub.take; focus (repeat (first | with_reducible exact At.here | with_reducible apply At.there))) | with_reducible apply Sub.drop))))
        clear H1 hgd hgood
        cases a1
        case' true => skip
        case' false => cases a2
        case' false.false => cases a3
        case' false.false.false => cases a4
        case' false.false.false.false => cases a5
        case' false.false.false.false.false => exact absurd hgf (by decide)
        all_goals
          clear hgf
          go_wp2_with fail
          go_roundg (n - (j + 1))
          case measure => have := HG.out; omega
          case rel => exact ⟨j + 1, q, A, c, zs, rfl, by omega, rfl, by go_num, HQ.out, HNX.out, H2.out⟩
      case pos =>
        rw [hgd] at hgood
        have ha := five_not hgood.symm
        obtain ⟨rfl, rfl, rfl, rfl, rfl⟩ := ha
        have hd57 : 5 ≤ x.d ∧ x.d ≤ 7 := ⟨by have := of_decide_eq_false ha4; omega, by have := of_decide_eq_false ha5; omega⟩
        have HD57 := hide hd57
        have hen := fun args W => enters_of Try.func111 (by kernel_rfl) rfl (P := Try.prog) args W
        have HGD := hide hgd
        have HQJ := hide hqj
        clear hgood hgd hd57 hqj
        go_wp2_with fail
        rw [HY.out]
        refine (idxSec2_st 111 #[.pointer (some ⟨y, 0, none⟩)] (fun s => s.t == x.t) (zs.map Prod.fst) A q c _ hen (fun W hW => hW.flatO (by (repeat (first | with_reducible exact At.here | with_reducible apply At.there)))) (fun s W _ hW => tokClo_st s y #[.int .i64 x.d, .int .i64 x.c, .int .i64 x.r, .int .i64 x.i, .int .u64 x.t, .slice Ad x.b.length cd, .int .i64 x.e] x.t W rfl (by (repeat (first | with_reducible exact At.here | with_reducible apply At.there))) hW) H1.out).mono ?_
        rintro e w2 ⟨rfl, h2⟩
        obtain ⟨zi, hzi⟩ : ∃ zi, zi = idxL (fun s : SecV => s.t == x.t) 0 (zs.map Prod.fst) := ⟨_, rfl⟩
        rw [← hzi]
        have HZI := hide hzi
        have H2 := hide (h2.sub (L' := ownR secC 37 4 (.slice A q c) (zs.map Prod.fst) :: bigS zs :: blkR y 120 #[.int .i64 x.d, .int .i64 x.c, .int .i64 x.r, .int .i64 x.i, .int .u64 x.t, .slice Ad x.b.length cd, .int .i64 x.e] :: intsR .u8 (.slice Ad x.b.length cd) x.b :: rowsR 7 EvR (.slice (some ad) n cv) l :: L) (by (repeat (first | with_reducible exact Sub.refl _ | (with_reducible apply Sub.take; focus (repeat (first | with_reducible exact At.here | with_reducible apply At.there))) | with_reducible apply Sub.drop))))
        clear h2 H1 hzi e0 e1 e2 e3 e4 e5 e6 hen HY ha1 ha2 ha3 ha4 ha5 ha5'
        go_upto_if 44 with fail
        go_cut [5, 8] (fun ov iv wx => ∃ (b2 q2 c2 k : Nat) (zs2 : List PairS) (z : PairS), ov = .slice (some ⟨b2, 0, none⟩) q2 c2 ∧ iv = .int .i64 (k : Nat) ∧ zs2[k]? = some z ∧ q2 = zs2.length ∧ q2 ≤ j + 1 ∧ (z.2.p.length ≤ j ∧ z.2.k.length ≤ j) ∧ (z.1.t = z.2.t ∧ z.1.s = z.2.s) ∧ (∀ z' : PairS, z'.2 = stepS z.2 x → z'.1.t = z'.2.t ∧ z'.1.s = z'.2.s → PairsOk r (l.take (j + 1)) (zs2.set k z')) ∧ St M0 wx (ownR secC 37 4 (.slice (some ⟨b2, 0, none⟩) q2 c2) (zs2.map Prod.fst) :: bigS zs2 :: blkR y 120 #[.int .i64 x.d, .int .i64 x.c, .int .i64 x.r, .int .i64 x.i, .int .u64 x.t, .slice Ad x.b.length cd, .int .i64 x.e] :: intsR .u8 (.slice Ad x.b.length cd) x.b :: rowsR 7 EvR (.slice (some ad) n cv) l :: L))
        case first =>
          as_aux_lemma =>
            rcases idxL_spec (fun s : SecV => s.t == x.t) (zs.map Prod.fst) 0 with ⟨hz, hf⟩ | ⟨k, s, hz, hk, hp, hf⟩
            · have hz1 : zi = -1 := HZI.out.trans hz
              subst hz1
              have HF := hide (show (zs.map Prod.fst).find? (fun s => s.t == x.t) = none from List.find?_eq_none.2 (fun s hs => by
                have := List.any_eq_false.1 hf s hs
                simpa using this))
              have y4 := (H2.out.blkA (g := y) (t := 120) (cs := #[.int .i64 x.d, .int .i64 x.c, .int .i64 x.r, .int .i64 x.i, .int .u64 x.t, .slice Ad x.b.length cd, .int .i64 x.e]) (by (repeat (first | with_reducible exact At.here | with_reducible apply At.there)))).cell 4
              have h3 := H2.out.alloc 37 #[.int .u64 x.t, .slice none 0 0, .int .i64 0, .slice none 0 0]
              have HB := hide (h3.blk 0 rfl)
              have H3 := hide ((h3.front (X := ownR secC 37 4 (.slice A q c) (zs.map Prod.fst)) (by (repeat (first | with_reducible exact At.here | with_reducible apply At.there)))).ownOpen.2)
              have hbld := sec_buildH
              clear hz hf h3
              go_wp2_with (at_builtin; refine St.app_step sec_elem H3.out rfl _ _ rfl rfl (some ⟨w2.heap.size, 0, none⟩) 1 1 rfl (secC ⟨x.t, ⟨none, 0, 0⟩, 0, ⟨none, 0, 0⟩⟩) (sl_blkS (cs := [.int .u64 x.t, .slice none 0 0, .int .i64 0, .slice none 0 0]) HB.out) (sec_one _) (by have := HQJ.out; omega) (by have := HQJ.out; omega) ?_; intro A6 c6 w6 h7)
              obtain ⟨b2, rfl⟩ := own_form (h7.row 0 rfl) (by omega)
              have h8 := St.ownSnoc (C := secC) (x := (⟨x.t, ⟨none, 0, 0⟩, 0, ⟨none, 0, 0⟩⟩ : SecV)) h7 (by rw [List.length_map]; exact HQ.out)
              have h9 := (((h8.nilGrow 124 3 LookHR).nilGrow 122 2 PutHR).addStar)
              have h10 := St.bigCons (z := ((⟨x.t, ⟨none, 0, 0⟩, 0, ⟨none, 0, 0⟩⟩ : SecV), zeroS x.t)) (zs := zs) (h9.sub (L' := starR (growR 122 2 PutHR (.slice none 0 0) []) (growR 124 3 LookHR (.slice none 0 0) []) :: bigS zs :: ownR secC 37 4 (.slice (some ⟨b2, 0, none⟩) (q + 1) c6) (zs.map Prod.fst ++ [⟨x.t, ⟨none, 0, 0⟩, 0, ⟨none, 0, 0⟩⟩]) :: blkR y 120 #[.int .i64 x.d, .int .i64 x.c, .int .i64 x.r, .int .i64 x.i, .int .u64 x.t, .slice Ad x.b.length cd, .int .i64 x.e] :: intsR .u8 (.slice Ad x.b.length cd) x.b :: rowsR 7 EvR (.slice (some ad) n cv) l :: L) (by (repeat (first | with_reducible exact Sub.refl _ | (with_reducible apply Sub.take; focus (repeat (first | with_reducible exact At.here | with_reducible apply At.there))) | with_reducible apply Sub.drop))))
              have h11 := h10.bigPerm (List.perm_append_singleton ((⟨x.t, ⟨none, 0, 0⟩, 0, ⟨none, 0, 0⟩⟩ : SecV), zeroS x.t) zs).symm
              have H12 := hide h11
              clear h7 h8 h9 h10 h11 H3 HB y4 hbld
              try go_wp2_with fail
              go_meet
              exact ⟨b2, q + 1, c6, q, zs ++ [(⟨x.t, ⟨none, 0, 0⟩, 0, ⟨none, 0, 0⟩⟩, zeroS x.t)], (⟨x.t, ⟨none, 0, 0⟩, 0, ⟨none, 0, 0⟩⟩, zeroS x.t), rfl, rfl, by rw [HQ.out]; simp, by rw [HQ.out]; simp, by have := HQJ.out; omega, ⟨Nat.zero_le _, Nat.zero_le _⟩, ⟨rfl, rfl⟩, fun z' h1 h2 => by rw [HTK.out, HQ.out]; exact HP.out.more HGD.out HF.out h1 h2, by have := H12.out.swap; rw [List.map_append]; exact this⟩
            · have hz1 : zi = ((k : Nat) : Int) := HZI.out.trans (hz.trans (by rw [Nat.zero_add]))
              subst hz1
              rw [List.getElem?_map] at hk
              obtain ⟨z, hzk, rfl⟩ := Option.map_eq_some_iff.1 hk
              have hkl := (List.getElem?_eq_some_iff.1 hzk).1
              have HZK := hide hzk
              have HPT := hide (show z.1.t = x.t by simpa using hp)
              have HNO := hide (show ∀ y ∈ (zs.map Prod.fst).take k, (y.t == x.t) = false from fun y hy => by
                have := List.any_eq_false.1 hf y hy
                simpa using this)
              have HLE := hide (show z.2.p.length ≤ j ∧ z.2.k.length ≤ j by
                have := HP.out.p z (List.mem_of_getElem? hzk)
                rw [List.length_take] at this
                omega)
              have HZO := hide (HP.out.ok z (List.mem_of_getElem? hzk))
              have kn : decide ((k : Int) < 0) = false := decide_eq_false (by omega)
              obtain ⟨b2, hb2⟩ := own_form ((H2.out.ownOpen.2).row 0 rfl) (by rw [HQ.out]; omega)
              subst hb2
              clear hz hk hp hf hzk hkl
              go_wp2_with fail
              go_meet
              exact ⟨b2, q, c, k, zs, z, rfl, rfl, HZK.out, HQ.out, by have := HQJ.out; omega, HLE.out, HZO.out, fun z' h1 h2 => by rw [HTK.out]; exact HP.out.put HGD.out HZK.out HPT.out HNO.out h1 h2, H2.out⟩
        case rest =>
          as_aux_lemma =>
            clear H2 HZI HQ HP HQJ
            obtain ⟨b2, q2, c2, k, zs2, z, rfl, rfl, hzk, hq2, hqj, hle, hzo, hnx, h⟩ := hcut
            obtain ⟨xs, hxs⟩ : ∃ xs, xs = zs2.map Prod.fst := ⟨_, rfl⟩
            have HK := hide (show xs[k]? = some z.1 by rw [hxs, List.getElem?_map, hzk]; rfl)
            have HKL := hide ((List.getElem?_eq_some_iff.1 hzk).1)
            rw [← hxs] at h
            have h5 := (((h.front (X := bigS zs2) (by (repeat (first | with_reducible exact At.here | with_reducible apply At.there)))).bigPerm (perm_at hzk)).bigOpen).star
            obtain ⟨_, hpn, _⟩ := h5.openGrowS
            obtain ⟨_, hkn, _⟩ := h5.swap.openGrowS
            have HPL := hide hpn
            have HXS := hide hxs
            have HQ2 := hide hq2
            have HNX := hide hnx
            have HZO := hide hzo
            have hpn2 : z.1.p.n ≤ j := by rw [hpn]; exact hle.1
            have hkn2 : z.1.k.n ≤ j := by rw [hkn]; exact hle.2
            have k0 : (0 : Int) ≤ (k : Int) := by omega
            have k1 : (k : Int) < (q2 : Int) := by have := HKL.out; omega
            have H5 := hide h5
            have y0 := (h5.blkA (g := y) (t := 120) (cs := #[.int .i64 x.d, .int .i64 x.c, .int .i64 x.r, .int .i64 x.i, .int .u64 x.t, .slice Ad x.b.length cd, .int .i64 x.e]) (by (repeat (first | with_reducible exact At.here | with_reducible apply At.there)))).cell 0
            clear h h5 hzk hq2 hxs hpn hkn hnx hzo hle
            by_cases h5 : x.d = 5
            · have b1 := isT h5
              have HST := hide (show stepS z.2 x = ⟨z.2.t, z.2.p ++ [⟨x.i, x.b⟩], z.2.s, z.2.k⟩ from if_pos h5)
              clear h5
              go_wp2_with fail
              clear y0
              have h0 := H5.out.sub (L' := blkR y 120 #[.int .i64 x.d, .int .i64 x.c, .int .i64 x.r, .int .i64 x.i, .int .u64 x.t, .slice Ad x.b.length cd, .int .i64 x.e] :: ownR secC 37 4 (.slice (some ⟨b2, 0, none⟩) q2 c2) (xs) :: growR 122 2 PutHR (.slice z.1.p.a z.1.p.n z.1.p.c) z.2.p :: intsR .u8 (.slice Ad x.b.length cd) x.b :: growR 124 3 LookHR (.slice z.1.k.a z.1.k.n z.1.k.c) z.2.k :: bigS (zs2.eraseIdx k) :: rowsR 7 EvR (.slice (some ad) n cv) l :: L) (by (repeat (first | with_reducible exact Sub.refl _ | (with_reducible apply Sub.take; focus (repeat (first | with_reducible exact At.here | with_reducible apply At.there))) | with_reducible apply Sub.drop)))
              clear H5
              refine region_flow (M0 := M0) (L0 := growR 124 3 LookHR (.slice z.1.k.a z.1.k.n z.1.k.c) z.2.k :: bigS (zs2.eraseIdx k) :: rowsR 7 EvR (.slice (some ad) n cv) l :: L) [⟨none, none, fun e => blkR y 120 #[.int .i64 x.d, .int .i64 x.c, .int .i64 x.r, .int .i64 x.i, .int .u64 x.t, .slice Ad x.b.length cd, .int .i64 x.e]⟩, ⟨none, some 15, fun e => ownR secC 37 4 (.slice (some ⟨b2, 0, none⟩) q2 c2) (xs)⟩, ⟨none, some 12, fun e => growR 122 2 PutHR (.slice z.1.p.a z.1.p.n z.1.p.c) z.2.p⟩, ⟨none, none, fun e => intsR .u8 (.slice Ad x.b.length cd) x.b⟩, ⟨some 9, none, fun e => intsR .u8 (.slice (e 9).A x.b.length (e 9).n) x.b⟩, ⟨some 11, none, fun e => blkR (e 11).n 122 #[.int .i64 x.i, .slice (e 9).A x.b.length (e 9).n]⟩, ⟨some 12, none, fun e => growR 122 2 PutHR (.slice (e 12).A (z.1.p.n + 1) (e 12).n) (z.2.p ++ [⟨x.i, x.b⟩])⟩, ⟨some 15, none, fun e => ownR secC 37 4 (.slice (some ⟨b2, 0, none⟩) q2 c2) (xs.set k ⟨z.1.t, ⟨(e 12).A, z.1.p.n + 1, (e 12).n⟩, z.1.s, z.1.k⟩)⟩] [[], [], [1], [1, 2], [1, 2, 3], [], [5], [], [7], [7, 8], [5, 6, 7, 8, 9], [5, 6, 7, 8, 9, 10], [1, 2, 3, 4, 5, 6, 7, 8, 9, 10, 11], [0, 1, 2, 3, 4, 5, 6, 7, 8, 9, 10, 11, 12], [0, 1, 2, 3, 4, 5, 6, 7, 8, 9, 10, 11, 12, 13], [0, 1, 2, 3, 4, 5, 6, 7, 8, 9, 10, 11, 12, 13, 14]] [0, 1, 2, 3, 4, 5, 6, 7, 8, 9, 10, 11, 12, 13, 14, 15] rfl (by kernel_rfl) (by kernel_rfl) (by kernel_rfl) (by rfl) (fun _ => rfl) (show St M0 _ (blkR y 120 #[.int .i64 x.d, .int .i64 x.c, .int .i64 x.r, .int .i64 x.i, .int .u64 x.t, .slice Ad x.b.length cd, .int .i64 x.e] :: ownR secC 37 4 (.slice (some ⟨b2, 0, none⟩) q2 c2) (xs) :: growR 122 2 PutHR (.slice z.1.p.a z.1.p.n z.1.p.c) z.2.p :: intsR .u8 (.slice Ad x.b.length cd) x.b :: growR 124 3 LookHR (.slice z.1.k.a z.1.k.n z.1.k.c) z.2.k :: bigS (zs2.eraseIdx k) :: rowsR 7 EvR (.slice (some ad) n cv) l :: L) from h0) ?_
              refine flow_run _ rfl (fun _ => rfl) (fun e wx Lx h => by (go_simp; try rfl)) (by intro e; rfl) (by intro e; rfl) (by intro e x; rfl) ?_
              (simp only [Act.put, List.setIfInBounds_toArray, List.set_cons_succ, List.set_cons_zero])
              refine flow_run _ rfl (fun _ => rfl) (fun e wx Lx h => by (go_simp; try rfl)) (by intro e; rfl) (by intro e; rfl) (by intro e x; rfl) ?_
              (simp only [Act.put, List.setIfInBounds_toArray, List.set_cons_succ, List.set_cons_zero])
              refine flow_run _ rfl (fun _ => rfl) (fun e wx Lx h => by (go_simp; try rfl)) (by intro e; rfl) (by intro e; rfl) (by intro e x; rfl) ?_
              (simp only [Act.put, List.setIfInBounds_toArray, List.set_cons_succ, List.set_cons_zero])
              refine flow_run _ rfl (fun _ => rfl) (fun e wx Lx h => by (go_simp; try rfl)) (by intro e; rfl) (by intro e; rfl) (by intro e x; rfl) ?_
              (simp only [Act.put, List.setIfInBounds_toArray, List.set_cons_succ, List.set_cons_zero])
              refine flow_run _ rfl (fun _ => rfl) (fun e wx Lx h => by (have h : St M0 wx (blkR y 120 #[.int .i64 x.d, .int .i64 x.c, .int .i64 x.r, .int .i64 x.i, .int .u64 x.t, .slice Ad x.b.length cd, .int .i64 x.e] :: ownR secC 37 4 (.slice (some ⟨b2, 0, none⟩) q2 c2) (xs) :: growR 122 2 PutHR (.slice z.1.p.a z.1.p.n z.1.p.c) z.2.p :: intsR .u8 (.slice Ad x.b.length cd) x.b :: Lx) := h; have y0 := (h.blkA (g := y) (t := 120) (cs := #[.int .i64 x.d, .int .i64 x.c, .int .i64 x.r, .int .i64 x.i, .int .u64 x.t, .slice Ad x.b.length cd, .int .i64 x.e]) (by (repeat (first | with_reducible exact At.here | with_reducible apply At.there)))).cell 0; have y1 := (h.blkA (g := y) (t := 120) (cs := #[.int .i64 x.d, .int .i64 x.c, .int .i64 x.r, .int .i64 x.i, .int .u64 x.t, .slice Ad x.b.length cd, .int .i64 x.e]) (by (repeat (first | with_reducible exact At.here | with_reducible apply At.there)))).cell 1; have y2 := (h.blkA (g := y) (t := 120) (cs := #[.int .i64 x.d, .int .i64 x.c, .int .i64 x.r, .int .i64 x.i, .int .u64 x.t, .slice Ad x.b.length cd, .int .i64 x.e]) (by (repeat (first | with_reducible exact At.here | with_reducible apply At.there)))).cell 2; have y3 := (h.blkA (g := y) (t := 120) (cs := #[.int .i64 x.d, .int .i64 x.c, .int .i64 x.r, .int .i64 x.i, .int .u64 x.t, .slice Ad x.b.length cd, .int .i64 x.e]) (by (repeat (first | with_reducible exact At.here | with_reducible apply At.there)))).cell 3; have y4 := (h.blkA (g := y) (t := 120) (cs := #[.int .i64 x.d, .int .i64 x.c, .int .i64 x.r, .int .i64 x.i, .int .u64 x.t, .slice Ad x.b.length cd, .int .i64 x.e]) (by (repeat (first | with_reducible exact At.here | with_reducible apply At.there)))).cell 4; have y5 := (h.blkA (g := y) (t := 120) (cs := #[.int .i64 x.d, .int .i64 x.c, .int .i64 x.r, .int .i64 x.i, .int .u64 x.t, .slice Ad x.b.length cd, .int .i64 x.e]) (by (repeat (first | with_reducible exact At.here | with_reducible apply At.there)))).cell 5; have y6 := (h.blkA (g := y) (t := 120) (cs := #[.int .i64 x.d, .int .i64 x.c, .int .i64 x.r, .int .i64 x.i, .int .u64 x.t, .slice Ad x.b.length cd, .int .i64 x.e]) (by (repeat (first | with_reducible exact At.here | with_reducible apply At.there)))).cell 6; have hf := h.flatO (C := secC) (e := 37) (size := 4) (v := .slice (some ⟨b2, 0, none⟩) q2 c2) (xs := xs) (by (repeat (first | with_reducible exact At.here | with_reducible apply At.there))); obtain ⟨x0, x1, x2, x3⟩ := cellsSec hf HK.out; go_simp; try rfl)) (by intro e; rfl) (by intro e; rfl) (by intro e x; rfl) ?_
              (simp only [Act.put, List.setIfInBounds_toArray, List.set_cons_succ, List.set_cons_zero])
              refine flow_run _ rfl (fun _ => rfl) (fun e wx Lx h => by (go_simp; try rfl)) (by intro e; rfl) (by intro e; rfl) (by intro e x; rfl) ?_
              (simp only [Act.put, List.setIfInBounds_toArray, List.set_cons_succ, List.set_cons_zero])
              refine flow_run _ rfl (fun _ => rfl) (fun e wx Lx h => by (have h : St M0 wx (blkR y 120 #[.int .i64 x.d, .int .i64 x.c, .int .i64 x.r, .int .i64 x.i, .int .u64 x.t, .slice Ad x.b.length cd, .int .i64 x.e] :: ownR secC 37 4 (.slice (some ⟨b2, 0, none⟩) q2 c2) (xs) :: growR 122 2 PutHR (.slice z.1.p.a z.1.p.n z.1.p.c) z.2.p :: intsR .u8 (.slice Ad x.b.length cd) x.b :: Lx) := h; have y0 := (h.blkA (g := y) (t := 120) (cs := #[.int .i64 x.d, .int .i64 x.c, .int .i64 x.r, .int .i64 x.i, .int .u64 x.t, .slice Ad x.b.length cd, .int .i64 x.e]) (by (repeat (first | with_reducible exact At.here | with_reducible apply At.there)))).cell 0; have y1 := (h.blkA (g := y) (t := 120) (cs := #[.int .i64 x.d, .int .i64 x.c, .int .i64 x.r, .int .i64 x.i, .int .u64 x.t, .slice Ad x.b.length cd, .int .i64 x.e]) (by (repeat (first | with_reducible exact At.here | with_reducible apply At.there)))).cell 1; have y2 := (h.blkA (g := y) (t := 120) (cs := #[.int .i64 x.d, .int .i64 x.c, .int .i64 x.r, .int .i64 x.i, .int .u64 x.t, .slice Ad x.b.length cd, .int .i64 x.e]) (by (repeat (first | with_reducible exact At.here | with_reducible apply At.there)))).cell 2; have y3 := (h.blkA (g := y) (t := 120) (cs := #[.int .i64 x.d, .int .i64 x.c, .int .i64 x.r, .int .i64 x.i, .int .u64 x.t, .slice Ad x.b.length cd, .int .i64 x.e]) (by (repeat (first | with_reducible exact At.here | with_reducible apply At.there)))).cell 3; have y4 := (h.blkA (g := y) (t := 120) (cs := #[.int .i64 x.d, .int .i64 x.c, .int .i64 x.r, .int .i64 x.i, .int .u64 x.t, .slice Ad x.b.length cd, .int .i64 x.e]) (by (repeat (first | with_reducible exact At.here | with_reducible apply At.there)))).cell 4; have y5 := (h.blkA (g := y) (t := 120) (cs := #[.int .i64 x.d, .int .i64 x.c, .int .i64 x.r, .int .i64 x.i, .int .u64 x.t, .slice Ad x.b.length cd, .int .i64 x.e]) (by (repeat (first | with_reducible exact At.here | with_reducible apply At.there)))).cell 5; have y6 := (h.blkA (g := y) (t := 120) (cs := #[.int .i64 x.d, .int .i64 x.c, .int .i64 x.r, .int .i64 x.i, .int .u64 x.t, .slice Ad x.b.length cd, .int .i64 x.e]) (by (repeat (first | with_reducible exact At.here | with_reducible apply At.there)))).cell 6; have hf := h.flatO (C := secC) (e := 37) (size := 4) (v := .slice (some ⟨b2, 0, none⟩) q2 c2) (xs := xs) (by (repeat (first | with_reducible exact At.here | with_reducible apply At.there))); obtain ⟨x0, x1, x2, x3⟩ := cellsSec hf HK.out; go_simp; try rfl)) (by intro e; rfl) (by intro e; rfl) (by intro e x; rfl) ?_
              (simp only [Act.put, List.setIfInBounds_toArray, List.set_cons_succ, List.set_cons_zero])
              refine flow_run _ rfl (fun _ => rfl) (fun e wx Lx h => by (go_simp; try rfl)) (by intro e; rfl) (by intro e; rfl) (by intro e x; rfl) ?_
              (simp only [Act.put, List.setIfInBounds_toArray, List.set_cons_succ, List.set_cons_zero])
              refine flow_run _ rfl (fun _ => rfl) (fun e wx Lx h => by (have h : St M0 wx (blkR y 120 #[.int .i64 x.d, .int .i64 x.c, .int .i64 x.r, .int .i64 x.i, .int .u64 x.t, .slice Ad x.b.length cd, .int .i64 x.e] :: ownR secC 37 4 (.slice (some ⟨b2, 0, none⟩) q2 c2) (xs) :: growR 122 2 PutHR (.slice z.1.p.a z.1.p.n z.1.p.c) z.2.p :: intsR .u8 (.slice Ad x.b.length cd) x.b :: Lx) := h; have y0 := (h.blkA (g := y) (t := 120) (cs := #[.int .i64 x.d, .int .i64 x.c, .int .i64 x.r, .int .i64 x.i, .int .u64 x.t, .slice Ad x.b.length cd, .int .i64 x.e]) (by (repeat (first | with_reducible exact At.here | with_reducible apply At.there)))).cell 0; have y1 := (h.blkA (g := y) (t := 120) (cs := #[.int .i64 x.d, .int .i64 x.c, .int .i64 x.r, .int .i64 x.i, .int .u64 x.t, .slice Ad x.b.length cd, .int .i64 x.e]) (by (repeat (first | with_reducible exact At.here | with_reducible apply At.there)))).cell 1; have y2 := (h.blkA (g := y) (t := 120) (cs := #[.int .i64 x.d, .int .i64 x.c, .int .i64 x.r, .int .i64 x.i, .int .u64 x.t, .slice Ad x.b.length cd, .int .i64 x.e]) (by (repeat (first | with_reducible exact At.here | with_reducible apply At.there)))).cell 2; have y3 := (h.blkA (g := y) (t := 120) (cs := #[.int .i64 x.d, .int .i64 x.c, .int .i64 x.r, .int .i64 x.i, .int .u64 x.t, .slice Ad x.b.length cd, .int .i64 x.e]) (by (repeat (first | with_reducible exact At.here | with_reducible apply At.there)))).cell 3; have y4 := (h.blkA (g := y) (t := 120) (cs := #[.int .i64 x.d, .int .i64 x.c, .int .i64 x.r, .int .i64 x.i, .int .u64 x.t, .slice Ad x.b.length cd, .int .i64 x.e]) (by (repeat (first | with_reducible exact At.here | with_reducible apply At.there)))).cell 4; have y5 := (h.blkA (g := y) (t := 120) (cs := #[.int .i64 x.d, .int .i64 x.c, .int .i64 x.r, .int .i64 x.i, .int .u64 x.t, .slice Ad x.b.length cd, .int .i64 x.e]) (by (repeat (first | with_reducible exact At.here | with_reducible apply At.there)))).cell 5; have y6 := (h.blkA (g := y) (t := 120) (cs := #[.int .i64 x.d, .int .i64 x.c, .int .i64 x.r, .int .i64 x.i, .int .u64 x.t, .slice Ad x.b.length cd, .int .i64 x.e]) (by (repeat (first | with_reducible exact At.here | with_reducible apply At.there)))).cell 6; have hf := h.flatO (C := secC) (e := 37) (size := 4) (v := .slice (some ⟨b2, 0, none⟩) q2 c2) (xs := xs) (by (repeat (first | with_reducible exact At.here | with_reducible apply At.there))); obtain ⟨x0, x1, x2, x3⟩ := cellsSec hf HK.out; go_simp; try rfl)) (by intro e; rfl) (by intro e; rfl) (by intro e x; rfl) ?_
              (simp only [Act.put, List.setIfInBounds_toArray, List.set_cons_succ, List.set_cons_zero])
              refine flow_call 76 (fun e => #[.slice Ad x.b.length cd]) (fun e => .slice (e 9).A x.b.length (e 9).n) rfl (fun _ => rfl) (by intro e; rfl) (fun e wx => by (go_simp; try rfl)) (fun e wx Lx h => by (
                have h : St M0 wx (blkR y 120 #[.int .i64 x.d, .int .i64 x.c, .int .i64 x.r, .int .i64 x.i, .int .u64 x.t, .slice Ad x.b.length cd, .int .i64 x.e] :: ownR secC 37 4 (.slice (some ⟨b2, 0, none⟩) q2 c2) (xs) :: growR 122 2 PutHR (.slice z.1.p.a z.1.p.n z.1.p.c) z.2.p :: intsR .u8 (.slice Ad x.b.length cd) x.b :: Lx) := h
                refine (clone_st Ad x.b.length cd x.b _ (h.getA (Q := fun w => Ints w .u8 (.slice Ad x.b.length cd) x.b) (by (repeat (first | with_reducible exact At.here | with_reducible apply At.there)))).sl.2.2.2 HBL.out h).mono ?_
                rintro u wy ⟨v, rfl, h1⟩
                obtain ⟨A', c', rfl⟩ := h1.slice
                have h2 := St.ints (k := .u8) (xs := x.b) h1
                have hk : St M0 wy (blkR y 120 #[.int .i64 x.d, .int .i64 x.c, .int .i64 x.r, .int .i64 x.i, .int .u64 x.t, .slice Ad x.b.length cd, .int .i64 x.e] :: ownR secC 37 4 (.slice (some ⟨b2, 0, none⟩) q2 c2) (xs) :: growR 122 2 PutHR (.slice z.1.p.a z.1.p.n z.1.p.c) z.2.p :: intsR .u8 (.slice Ad x.b.length cd) x.b :: intsR .u8 (.slice A' x.b.length c') x.b :: Lx) := h2.sub (by (repeat (first | with_reducible exact Sub.refl _ | (with_reducible apply Sub.take; focus (repeat (first | with_reducible exact At.here | with_reducible apply At.there))) | with_reducible apply Sub.drop)))
                exact ⟨⟨A', c', default⟩, rfl, hk⟩)) ?_
              (simp only [Act.put, List.setIfInBounds_toArray, List.set_cons_succ, List.set_cons_zero])
              refine flow_run _ rfl (fun _ => rfl) (fun e wx Lx h => by (go_simp; try rfl)) (by intro e; rfl) (by intro e; rfl) (by intro e x; rfl) ?_
              (simp only [Act.put, List.setIfInBounds_toArray, List.set_cons_succ, List.set_cons_zero])
              refine flow_do (fun e => .slice (some ⟨(e 11).n, 0, none⟩) 1 1) rfl (fun _ => rfl) (by intro e; rfl) (fun e wx Lx h => by (
                have h : St M0 wx (blkR y 120 #[.int .i64 x.d, .int .i64 x.c, .int .i64 x.r, .int .i64 x.i, .int .u64 x.t, .slice Ad x.b.length cd, .int .i64 x.e] :: ownR secC 37 4 (.slice (some ⟨b2, 0, none⟩) q2 c2) (xs) :: growR 122 2 PutHR (.slice z.1.p.a z.1.p.n z.1.p.c) z.2.p :: intsR .u8 (.slice Ad x.b.length cd) x.b :: intsR .u8 (.slice (e 9).A x.b.length (e 9).n) x.b :: Lx) := h
                have hk : St M0 _ (blkR y 120 #[.int .i64 x.d, .int .i64 x.c, .int .i64 x.r, .int .i64 x.i, .int .u64 x.t, .slice Ad x.b.length cd, .int .i64 x.e] :: ownR secC 37 4 (.slice (some ⟨b2, 0, none⟩) q2 c2) (xs) :: growR 122 2 PutHR (.slice z.1.p.a z.1.p.n z.1.p.c) z.2.p :: intsR .u8 (.slice Ad x.b.length cd) x.b :: intsR .u8 (.slice (e 9).A x.b.length (e 9).n) x.b :: blkR wx.heap.size 122 #[.int .i64 x.i, .slice (e 9).A x.b.length (e 9).n] :: Lx) := (h.alloc 122 #[.int .i64 x.i, .slice (e 9).A x.b.length (e 9).n]).sub (by (repeat (first | with_reducible exact Sub.refl _ | (with_reducible apply Sub.take; focus (repeat (first | with_reducible exact At.here | with_reducible apply At.there))) | with_reducible apply Sub.drop)))
                exact ⟨⟨none, wx.heap.size, default⟩, _, exec_buildSlice1 rfl rfl (put_buildH _ _ _ _ _), hk⟩)) ?_
              (simp only [Act.put, List.setIfInBounds_toArray, List.set_cons_succ, List.set_cons_zero])
              refine flow_do (fun e => .slice (e 12).A (z.1.p.n + 1) (e 12).n) rfl (fun _ => rfl) (by intro e; rfl) (fun e wx Lx h => by (
                have h : St M0 wx (blkR y 120 #[.int .i64 x.d, .int .i64 x.c, .int .i64 x.r, .int .i64 x.i, .int .u64 x.t, .slice Ad x.b.length cd, .int .i64 x.e] :: ownR secC 37 4 (.slice (some ⟨b2, 0, none⟩) q2 c2) (xs) :: growR 122 2 PutHR (.slice z.1.p.a z.1.p.n z.1.p.c) z.2.p :: intsR .u8 (.slice Ad x.b.length cd) x.b :: intsR .u8 (.slice (e 9).A x.b.length (e 9).n) x.b :: blkR (e 11).n 122 #[.int .i64 x.i, .slice (e 9).A x.b.length (e 9).n] :: Lx) := h
                have hz := sl_blkS (cs := [.int .i64 x.i, .slice (e 9).A x.b.length (e 9).n]) (h.blkA (g := (e 11).n) (t := 122) (cs := #[.int .i64 x.i, .slice (e 9).A x.b.length (e 9).n]) (by (repeat (first | with_reducible exact At.here | with_reducible apply At.there))))
                have h1 := (h.copyA (Q := fun w => Ints w .u8 (.slice (e 9).A x.b.length (e 9).n) x.b) (by (repeat (first | with_reducible exact At.here | with_reducible apply At.there)))).pers1 (R' := fun w => PutHR w [.int .i64 x.i, .slice (e 9).A x.b.length (e 9).n] ⟨x.i, x.b⟩) (fun w' hw => ⟨_, rfl, hw⟩)
                obtain ⟨A', c', w', hr, h2⟩ := (h1.sub (L' := growR 122 2 PutHR (.slice z.1.p.a z.1.p.n z.1.p.c) z.2.p :: persR (fun w => PutHR w [.int .i64 x.i, .slice (e 9).A x.b.length (e 9).n] ⟨x.i, x.b⟩) :: blkR y 120 #[.int .i64 x.d, .int .i64 x.c, .int .i64 x.r, .int .i64 x.i, .int .u64 x.t, .slice Ad x.b.length cd, .int .i64 x.e] :: ownR secC 37 4 (.slice (some ⟨b2, 0, none⟩) q2 c2) (xs) :: intsR .u8 (.slice Ad x.b.length cd) x.b :: intsR .u8 (.slice (e 9).A x.b.length (e 9).n) x.b :: blkR (e 11).n 122 #[.int .i64 x.i, .slice (e 9).A x.b.length (e 9).n] :: Lx) (by (repeat (first | with_reducible exact Sub.refl _ | (with_reducible apply Sub.take; focus (repeat (first | with_reducible exact At.here | with_reducible apply At.there))) | with_reducible apply Sub.drop)))).grow1 put_elemH _ ⟨(e 11).n, 0, none⟩ 1 hz (put_oneH _ _ _ _) rfl (by omega) (by omega)
                have hk : St M0 _ (blkR y 120 #[.int .i64 x.d, .int .i64 x.c, .int .i64 x.r, .int .i64 x.i, .int .u64 x.t, .slice Ad x.b.length cd, .int .i64 x.e] :: ownR secC 37 4 (.slice (some ⟨b2, 0, none⟩) q2 c2) (xs) :: intsR .u8 (.slice Ad x.b.length cd) x.b :: intsR .u8 (.slice (e 9).A x.b.length (e 9).n) x.b :: blkR (e 11).n 122 #[.int .i64 x.i, .slice (e 9).A x.b.length (e 9).n] :: growR 122 2 PutHR (.slice A' (z.1.p.n + 1) c') (z.2.p ++ [⟨x.i, x.b⟩]) :: Lx) := h2.sub (by (repeat (first | with_reducible exact Sub.refl _ | (with_reducible apply Sub.take; focus (repeat (first | with_reducible exact At.here | with_reducible apply At.there))) | with_reducible apply Sub.drop)))
                exact ⟨⟨A', c', default⟩, _, exec_append rfl rfl rfl hr, hk⟩)) ?_
              (simp only [Act.put, List.setIfInBounds_toArray, List.set_cons_succ, List.set_cons_zero])
              refine flow_run _ rfl (fun _ => rfl) (fun e wx Lx h => by (go_simp; try rfl)) (by intro e; rfl) (by intro e; rfl) (by intro e x; rfl) ?_
              (simp only [Act.put, List.setIfInBounds_toArray, List.set_cons_succ, List.set_cons_zero])
              refine flow_run _ rfl (fun _ => rfl) (fun e wx Lx h => by (go_simp; try rfl)) (by intro e; rfl) (by intro e; rfl) (by intro e x; rfl) ?_
              (simp only [Act.put, List.setIfInBounds_toArray, List.set_cons_succ, List.set_cons_zero])
              refine flow_store _ _ _ (fun e => .pointer (some ⟨b2, k * 4 + 1, none⟩)) (fun e => .slice (e 12).A (z.1.p.n + 1) (e 12).n) rfl (fun _ => rfl) rfl (fun _ => rfl) (fun _ => rfl) (fun e wx Lx h => by (
                have h : St M0 wx (blkR y 120 #[.int .i64 x.d, .int .i64 x.c, .int .i64 x.r, .int .i64 x.i, .int .u64 x.t, .slice Ad x.b.length cd, .int .i64 x.e] :: ownR secC 37 4 (.slice (some ⟨b2, 0, none⟩) q2 c2) (xs) :: intsR .u8 (.slice Ad x.b.length cd) x.b :: intsR .u8 (.slice (e 9).A x.b.length (e 9).n) x.b :: blkR (e 11).n 122 #[.int .i64 x.i, .slice (e 9).A x.b.length (e 9).n] :: growR 122 2 PutHR (.slice (e 12).A (z.1.p.n + 1) (e 12).n) (z.2.p ++ [⟨x.i, x.b⟩]) :: Lx) := h
                obtain ⟨h1, hc1, hc2⟩ := (h.front (X := ownR secC 37 4 (.slice (some ⟨b2, 0, none⟩) q2 c2) (xs)) (by (repeat (first | with_reducible exact At.here | with_reducible apply At.there)))).ownSet secC_len (k := k) (j := 1) (x := z.1) (y := ⟨z.1.t, ⟨(e 12).A, z.1.p.n + 1, (e 12).n⟩, z.1.s, z.1.k⟩) (u := .slice (e 12).A (z.1.p.n + 1) (e 12).n) HK.out (by omega) rfl
                obtain ⟨y0, hc3⟩ := Option.isSome_iff_exists.1 hc1
                have hk : St M0 _ (blkR y 120 #[.int .i64 x.d, .int .i64 x.c, .int .i64 x.r, .int .i64 x.i, .int .u64 x.t, .slice Ad x.b.length cd, .int .i64 x.e] :: intsR .u8 (.slice Ad x.b.length cd) x.b :: intsR .u8 (.slice (e 9).A x.b.length (e 9).n) x.b :: blkR (e 11).n 122 #[.int .i64 x.i, .slice (e 9).A x.b.length (e 9).n] :: growR 122 2 PutHR (.slice (e 12).A (z.1.p.n + 1) (e 12).n) (z.2.p ++ [⟨x.i, x.b⟩]) :: ownR secC 37 4 (.slice (some ⟨b2, 0, none⟩) q2 c2) (xs.set k ⟨z.1.t, ⟨(e 12).A, z.1.p.n + 1, (e 12).n⟩, z.1.s, z.1.k⟩) :: Lx) := h1.sub (by (repeat (first | with_reducible exact Sub.refl _ | (with_reducible apply Sub.take; focus (repeat (first | with_reducible exact At.here | with_reducible apply At.there))) | with_reducible apply Sub.drop)))
                exact ⟨_, (by (go_simp; try rfl)), hk⟩)) ?_
              simp only [Act.put]
              refine flow_nil ?_
              intro e w1 h
              have h : St M0 w1 (blkR y 120 #[.int .i64 x.d, .int .i64 x.c, .int .i64 x.r, .int .i64 x.i, .int .u64 x.t, .slice Ad x.b.length cd, .int .i64 x.e] :: intsR .u8 (.slice Ad x.b.length cd) x.b :: intsR .u8 (.slice (e 9).A x.b.length (e 9).n) x.b :: blkR (e 11).n 122 #[.int .i64 x.i, .slice (e 9).A x.b.length (e 9).n] :: growR 122 2 PutHR (.slice (e 12).A (z.1.p.n + 1) (e 12).n) (z.2.p ++ [⟨x.i, x.b⟩]) :: ownR secC 37 4 (.slice (some ⟨b2, 0, none⟩) q2 c2) (xs.set k ⟨z.1.t, ⟨(e 12).A, z.1.p.n + 1, (e 12).n⟩, z.1.s, z.1.k⟩) :: growR 124 3 LookHR (.slice z.1.k.a z.1.k.n z.1.k.c) z.2.k :: bigS (zs2.eraseIdx k) :: rowsR 7 EvR (.slice (some ad) n cv) l :: L) := h
              obtain ⟨A', hA'⟩ : ∃ A', (e 12).A = A' := ⟨_, rfl⟩
              obtain ⟨c', hc'⟩ : ∃ c', (e 12).n = c' := ⟨_, rfl⟩
              rw [hA', hc'] at h
              obtain ⟨z', hz'⟩ : ∃ z' : PairS, z' = (⟨z.1.t, ⟨A', z.1.p.n + 1, c'⟩, z.1.s, z.1.k⟩, stepS z.2 x) := ⟨_, rfl⟩
              have HZ := hide hz'
              have h1 := h.sub (L' := growR 122 2 PutHR (.slice A' (z.1.p.n + 1) c') (z.2.p ++ [⟨x.i, x.b⟩]) :: growR 124 3 LookHR (.slice z.1.k.a z.1.k.n z.1.k.c) z.2.k :: bigS (zs2.eraseIdx k) :: ownR secC 37 4 (.slice (some ⟨b2, 0, none⟩) q2 c2) (xs.set k ⟨z.1.t, ⟨A', z.1.p.n + 1, c'⟩, z.1.s, z.1.k⟩) :: rowsR 7 EvR (.slice (some ad) n cv) l :: L) (by (repeat (first | with_reducible exact Sub.refl _ | (with_reducible apply Sub.take; focus (repeat (first | with_reducible exact At.here | with_reducible apply At.there))) | with_reducible apply Sub.drop)))
              have H6 := hide h1
              clear h h0 h1 hz'
              go_wp2_with fail
              have H7 := hide ((H6.out.bigBack (z' := z') (ys := (zs2.set k z').map Prod.fst) (by rw [HZ.out, HST.out]; rfl) (by rw [List.map_set, ← HXS.out, HZ.out])).bigPerm (perm_put z' HKL.out)).swap
              clear H6
              go_roundg (n - (j + 1))
              case measure => have := HG.out; omega
              case rel => exact ⟨j + 1, q2, some ⟨b2, 0, none⟩, c2, zs2.set k z', rfl, by omega, rfl, by go_num, by rw [List.length_set]; exact HQ2.out, HNX.out z' (by rw [HZ.out]) (by rw [HZ.out, HST.out]; exact HZO.out), H7.out⟩
            · have b1 := isF h5
              by_cases h6 : x.d = 6
              · have b2' := isT h6
                have HST := hide (show stepS z.2 x = ⟨z.2.t, z.2.p, z.2.s, z.2.k ++ [⟨(z.2.p.length : Nat), x.i, x.b⟩]⟩ from (if_neg h5).trans (if_pos h6))
                clear h5 h6
                go_wp2_with fail
                clear y0
                have h0 := H5.out.sub (L' := blkR y 120 #[.int .i64 x.d, .int .i64 x.c, .int .i64 x.r, .int .i64 x.i, .int .u64 x.t, .slice Ad x.b.length cd, .int .i64 x.e] :: ownR secC 37 4 (.slice (some ⟨b2, 0, none⟩) q2 c2) (xs) :: growR 124 3 LookHR (.slice z.1.k.a z.1.k.n z.1.k.c) z.2.k :: intsR .u8 (.slice Ad x.b.length cd) x.b :: growR 122 2 PutHR (.slice z.1.p.a z.1.p.n z.1.p.c) z.2.p :: bigS (zs2.eraseIdx k) :: rowsR 7 EvR (.slice (some ad) n cv) l :: L) (by (repeat (first | with_reducible exact Sub.refl _ | (with_reducible apply Sub.take; focus (repeat (first | with_reducible exact At.here | with_reducible apply At.there))) | with_reducible apply Sub.drop)))
                clear H5
                refine region_flow (M0 := M0) (L0 := growR 122 2 PutHR (.slice z.1.p.a z.1.p.n z.1.p.c) z.2.p :: bigS (zs2.eraseIdx k) :: rowsR 7 EvR (.slice (some ad) n cv) l :: L) [⟨none, none, fun e => blkR y 120 #[.int .i64 x.d, .int .i64 x.c, .int .i64 x.r, .int .i64 x.i, .int .u64 x.t, .slice Ad x.b.length cd, .int .i64 x.e]⟩, ⟨none, some 20, fun e => ownR secC 37 4 (.slice (some ⟨b2, 0, none⟩) q2 c2) (xs)⟩, ⟨none, some 17, fun e => growR 124 3 LookHR (.slice z.1.k.a z.1.k.n z.1.k.c) z.2.k⟩, ⟨none, none, fun e => intsR .u8 (.slice Ad x.b.length cd) x.b⟩, ⟨some 14, none, fun e => intsR .u8 (.slice (e 14).A x.b.length (e 14).n) x.b⟩, ⟨some 16, none, fun e => blkR (e 16).n 124 #[.int .i64 (z.1.p.n : Nat), .int .i64 x.i, .slice (e 14).A x.b.length (e 14).n]⟩, ⟨some 17, none, fun e => growR 124 3 LookHR (.slice (e 17).A (z.1.k.n + 1) (e 17).n) (z.2.k ++ [⟨(z.2.p.length : Nat), x.i, x.b⟩])⟩, ⟨some 20, none, fun e => ownR secC 37 4 (.slice (some ⟨b2, 0, none⟩) q2 c2) (xs.set k ⟨z.1.t, z.1.p, z.1.s, ⟨(e 17).A, z.1.k.n + 1, (e 17).n⟩⟩)⟩] [[], [], [1], [1, 2], [1, 2, 3], [], [5], [5, 6], [5, 6, 7], [5, 6, 7, 8], [], [10], [], [12], [12, 13], [5, 6, 7, 8, 9, 10, 11, 12, 13, 14], [5, 6, 7, 8, 9, 10, 11, 12, 13, 14, 15], [1, 2, 3, 4, 5, 6, 7, 8, 9, 10, 11, 12, 13, 14, 15, 16], [0, 1, 2, 3, 4, 5, 6, 7, 8, 9, 10, 11, 12, 13, 14, 15, 16, 17], [0, 1, 2, 3, 4, 5, 6, 7, 8, 9, 10, 11, 12, 13, 14, 15, 16, 17, 18], [0, 1, 2, 3, 4, 5, 6, 7, 8, 9, 10, 11, 12, 13, 14, 15, 16, 17, 18, 19]] [0, 1, 2, 3, 4, 5, 6, 7, 8, 9, 10, 11, 12, 13, 14, 15, 16, 17, 18, 19, 20] rfl (by kernel_rfl) (by kernel_rfl) (by kernel_rfl) (by rfl) (fun _ => rfl) (show St M0 _ (blkR y 120 #[.int .i64 x.d, .int .i64 x.c, .int .i64 x.r, .int .i64 x.i, .int .u64 x.t, .slice Ad x.b.length cd, .int .i64 x.e] :: ownR secC 37 4 (.slice (some ⟨b2, 0, none⟩) q2 c2) (xs) :: growR 124 3 LookHR (.slice z.1.k.a z.1.k.n z.1.k.c) z.2.k :: intsR .u8 (.slice Ad x.b.length cd) x.b :: growR 122 2 PutHR (.slice z.1.p.a z.1.p.n z.1.p.c) z.2.p :: bigS (zs2.eraseIdx k) :: rowsR 7 EvR (.slice (some ad) n cv) l :: L) from h0) ?_
                refine flow_run _ rfl (fun _ => rfl) (fun e wx Lx h => by (go_simp; try rfl)) (by intro e; rfl) (by intro e; rfl) (by intro e x; rfl) ?_
                (simp only [Act.put, List.setIfInBounds_toArray, List.set_cons_succ, List.set_cons_zero])
                refine flow_run _ rfl (fun _ => rfl) (fun e wx Lx h => by (go_simp; try rfl)) (by intro e; rfl) (by intro e; rfl) (by intro e x; rfl) ?_
                (simp only [Act.put, List.setIfInBounds_toArray, List.set_cons_succ, List.set_cons_zero])
                refine flow_run _ rfl (fun _ => rfl) (fun e wx Lx h => by (go_simp; try rfl)) (by intro e; rfl) (by intro e; rfl) (by intro e x; rfl) ?_
                (simp only [Act.put, List.setIfInBounds_toArray, List.set_cons_succ, List.set_cons_zero])
                refine flow_run _ rfl (fun _ => rfl) (fun e wx Lx h => by (go_simp; try rfl)) (by intro e; rfl) (by intro e; rfl) (by intro e x; rfl) ?_
                (simp only [Act.put, List.setIfInBounds_toArray, List.set_cons_succ, List.set_cons_zero])
                refine flow_run _ rfl (fun _ => rfl) (fun e wx Lx h => by (have h : St M0 wx (blkR y 120 #[.int .i64 x.d, .int .i64 x.c, .int .i64 x.r, .int .i64 x.i, .int .u64 x.t, .slice Ad x.b.length cd, .int .i64 x.e] :: ownR secC 37 4 (.slice (some ⟨b2, 0, none⟩) q2 c2) (xs) :: growR 124 3 LookHR (.slice z.1.k.a z.1.k.n z.1.k.c) z.2.k :: intsR .u8 (.slice Ad x.b.length cd) x.b :: Lx) := h; have y0 := (h.blkA (g := y) (t := 120) (cs := #[.int .i64 x.d, .int .i64 x.c, .int .i64 x.r, .int .i64 x.i, .int .u64 x.t, .slice Ad x.b.length cd, .int .i64 x.e]) (by (repeat (first | with_reducible exact At.here | with_reducible apply At.there)))).cell 0; have y1 := (h.blkA (g := y) (t := 120) (cs := #[.int .i64 x.d, .int .i64 x.c, .int .i64 x.r, .int .i64 x.i, .int .u64 x.t, .slice Ad x.b.length cd, .int .i64 x.e]) (by (repeat (first | with_reducible exact At.here | with_reducible apply At.there)))).cell 1; have y2 := (h.blkA (g := y) (t := 120) (cs := #[.int .i64 x.d, .int .i64 x.c, .int .i64 x.r, .int .i64 x.i, .int .u64 x.t, .slice Ad x.b.length cd, .int .i64 x.e]) (by (repeat (first | with_reducible exact At.here | with_reducible apply At.there)))).cell 2; have y3 := (h.blkA (g := y) (t := 120) (cs := #[.int .i64 x.d, .int .i64 x.c, .int .i64 x.r, .int .i64 x.i, .int .u64 x.t, .slice Ad x.b.length cd, .int .i64 x.e]) (by (repeat (first | with_reducible exact At.here | with_reducible apply At.there)))).cell 3; have y4 := (h.blkA (g := y) (t := 120) (cs := #[.int .i64 x.d, .int .i64 x.c, .int .i64 x.r, .int .i64 x.i, .int .u64 x.t, .slice Ad x.b.length cd, .int .i64 x.e]) (by (repeat (first | with_reducible exact At.here | with_reducible apply At.there)))).cell 4; have y5 := (h.blkA (g := y) (t := 120) (cs := #[.int .i64 x.d, .int .i64 x.c, .int .i64 x.r, .int .i64 x.i, .int .u64 x.t, .slice Ad x.b.length cd, .int .i64 x.e]) (by (repeat (first | with_reducible exact At.here | with_reducible apply At.there)))).cell 5; have y6 := (h.blkA (g := y) (t := 120) (cs := #[.int .i64 x.d, .int .i64 x.c, .int .i64 x.r, .int .i64 x.i, .int .u64 x.t, .slice Ad x.b.length cd, .int .i64 x.e]) (by (repeat (first | with_reducible exact At.here | with_reducible apply At.there)))).cell 6; have hf := h.flatO (C := secC) (e := 37) (size := 4) (v := .slice (some ⟨b2, 0, none⟩) q2 c2) (xs := xs) (by (repeat (first | with_reducible exact At.here | with_reducible apply At.there))); obtain ⟨x0, x1, x2, x3⟩ := cellsSec hf HK.out; go_simp; try rfl)) (by intro e; rfl) (by intro e; rfl) (by intro e x; rfl) ?_
                (simp only [Act.put, List.setIfInBounds_toArray, List.set_cons_succ, List.set_cons_zero])
                refine flow_run _ rfl (fun _ => rfl) (fun e wx Lx h => by (go_simp; try rfl)) (by intro e; rfl) (by intro e; rfl) (by intro e x; rfl) ?_
                (simp only [Act.put, List.setIfInBounds_toArray, List.set_cons_succ, List.set_cons_zero])
                refine flow_run _ rfl (fun _ => rfl) (fun e wx Lx h => by (go_simp; try rfl)) (by intro e; rfl) (by intro e; rfl) (by intro e x; rfl) ?_
                (simp only [Act.put, List.setIfInBounds_toArray, List.set_cons_succ, List.set_cons_zero])
                refine flow_run _ rfl (fun _ => rfl) (fun e wx Lx h => by (go_simp; try rfl)) (by intro e; rfl) (by intro e; rfl) (by intro e x; rfl) ?_
                (simp only [Act.put, List.setIfInBounds_toArray, List.set_cons_succ, List.set_cons_zero])
                refine flow_run _ rfl (fun _ => rfl) (fun e wx Lx h => by (have h : St M0 wx (blkR y 120 #[.int .i64 x.d, .int .i64 x.c, .int .i64 x.r, .int .i64 x.i, .int .u64 x.t, .slice Ad x.b.length cd, .int .i64 x.e] :: ownR secC 37 4 (.slice (some ⟨b2, 0, none⟩) q2 c2) (xs) :: growR 124 3 LookHR (.slice z.1.k.a z.1.k.n z.1.k.c) z.2.k :: intsR .u8 (.slice Ad x.b.length cd) x.b :: Lx) := h; have y0 := (h.blkA (g := y) (t := 120) (cs := #[.int .i64 x.d, .int .i64 x.c, .int .i64 x.r, .int .i64 x.i, .int .u64 x.t, .slice Ad x.b.length cd, .int .i64 x.e]) (by (repeat (first | with_reducible exact At.here | with_reducible apply At.there)))).cell 0; have y1 := (h.blkA (g := y) (t := 120) (cs := #[.int .i64 x.d, .int .i64 x.c, .int .i64 x.r, .int .i64 x.i, .int .u64 x.t, .slice Ad x.b.length cd, .int .i64 x.e]) (by (repeat (first | with_reducible exact At.here | with_reducible apply At.there)))).cell 1; have y2 := (h.blkA (g := y) (t := 120) (cs := #[.int .i64 x.d, .int .i64 x.c, .int .i64 x.r, .int .i64 x.i, .int .u64 x.t, .slice Ad x.b.length cd, .int .i64 x.e]) (by (repeat (first | with_reducible exact At.here | with_reducible apply At.there)))).cell 2; have y3 := (h.blkA (g := y) (t := 120) (cs := #[.int .i64 x.d, .int .i64 x.c, .int .i64 x.r, .int .i64 x.i, .int .u64 x.t, .slice Ad x.b.length cd, .int .i64 x.e]) (by (repeat (first | with_reducible exact At.here | with_reducible apply At.there)))).cell 3; have y4 := (h.blkA (g := y) (t := 120) (cs := #[.int .i64 x.d, .int .i64 x.c, .int .i64 x.r, .int .i64 x.i, .int .u64 x.t, .slice Ad x.b.length cd, .int .i64 x.e]) (by (repeat (first | with_reducible exact At.here | with_reducible apply At.there)))).cell 4; have y5 := (h.blkA (g := y) (t := 120) (cs := #[.int .i64 x.d, .int .i64 x.c, .int .i64 x.r, .int .i64 x.i, .int .u64 x.t, .slice Ad x.b.length cd, .int .i64 x.e]) (by (repeat (first | with_reducible exact At.here | with_reducible apply At.there)))).cell 5; have y6 := (h.blkA (g := y) (t := 120) (cs := #[.int .i64 x.d, .int .i64 x.c, .int .i64 x.r, .int .i64 x.i, .int .u64 x.t, .slice Ad x.b.length cd, .int .i64 x.e]) (by (repeat (first | with_reducible exact At.here | with_reducible apply At.there)))).cell 6; have hf := h.flatO (C := secC) (e := 37) (size := 4) (v := .slice (some ⟨b2, 0, none⟩) q2 c2) (xs := xs) (by (repeat (first | with_reducible exact At.here | with_reducible apply At.there))); obtain ⟨x0, x1, x2, x3⟩ := cellsSec hf HK.out; go_simp; try rfl)) (by intro e; rfl) (by intro e; rfl) (by intro e x; rfl) ?_
                (simp only [Act.put, List.setIfInBounds_toArray, List.set_cons_succ, List.set_cons_zero])
                refine flow_run _ rfl (fun _ => rfl) (fun e wx Lx h => by (go_simp; try rfl)) (by intro e; rfl) (by intro e; rfl) (by intro e x; rfl) ?_
                (simp only [Act.put, List.setIfInBounds_toArray, List.set_cons_succ, List.set_cons_zero])
                refine flow_run _ rfl (fun _ => rfl) (fun e wx Lx h => by (go_simp; try rfl)) (by intro e; rfl) (by intro e; rfl) (by intro e x; rfl) ?_
                (simp only [Act.put, List.setIfInBounds_toArray, List.set_cons_succ, List.set_cons_zero])
                refine flow_run _ rfl (fun _ => rfl) (fun e wx Lx h => by (have h : St M0 wx (blkR y 120 #[.int .i64 x.d, .int .i64 x.c, .int .i64 x.r, .int .i64 x.i, .int .u64 x.t, .slice Ad x.b.length cd, .int .i64 x.e] :: ownR secC 37 4 (.slice (some ⟨b2, 0, none⟩) q2 c2) (xs) :: growR 124 3 LookHR (.slice z.1.k.a z.1.k.n z.1.k.c) z.2.k :: intsR .u8 (.slice Ad x.b.length cd) x.b :: Lx) := h; have y0 := (h.blkA (g := y) (t := 120) (cs := #[.int .i64 x.d, .int .i64 x.c, .int .i64 x.r, .int .i64 x.i, .int .u64 x.t, .slice Ad x.b.length cd, .int .i64 x.e]) (by (repeat (first | with_reducible exact At.here | with_reducible apply At.there)))).cell 0; have y1 := (h.blkA (g := y) (t := 120) (cs := #[.int .i64 x.d, .int .i64 x.c, .int .i64 x.r, .int .i64 x.i, .int .u64 x.t, .slice Ad x.b.length cd, .int .i64 x.e]) (by (repeat (first | with_reducible exact At.here | with_reducible apply At.there)))).cell 1; have y2 := (h.blkA (g := y) (t := 120) (cs := #[.int .i64 x.d, .int .i64 x.c, .int .i64 x.r, .int .i64 x.i, .int .u64 x.t, .slice Ad x.b.length cd, .int .i64 x.e]) (by (repeat (first | with_reducible exact At.here | with_reducible apply At.there)))).cell 2; have y3 := (h.blkA (g := y) (t := 120) (cs := #[.int .i64 x.d, .int .i64 x.c, .int .i64 x.r, .int .i64 x.i, .int .u64 x.t, .slice Ad x.b.length cd, .int .i64 x.e]) (by (repeat (first | with_reducible exact At.here | with_reducible apply At.there)))).cell 3; have y4 := (h.blkA (g := y) (t := 120) (cs := #[.int .i64 x.d, .int .i64 x.c, .int .i64 x.r, .int .i64 x.i, .int .u64 x.t, .slice Ad x.b.length cd, .int .i64 x.e]) (by (repeat (first | with_reducible exact At.here | with_reducible apply At.there)))).cell 4; have y5 := (h.blkA (g := y) (t := 120) (cs := #[.int .i64 x.d, .int .i64 x.c, .int .i64 x.r, .int .i64 x.i, .int .u64 x.t, .slice Ad x.b.length cd, .int .i64 x.e]) (by (repeat (first | with_reducible exact At.here | with_reducible apply At.there)))).cell 5; have y6 := (h.blkA (g := y) (t := 120) (cs := #[.int .i64 x.d, .int .i64 x.c, .int .i64 x.r, .int .i64 x.i, .int .u64 x.t, .slice Ad x.b.length cd, .int .i64 x.e]) (by (repeat (first | with_reducible exact At.here | with_reducible apply At.there)))).cell 6; have hf := h.flatO (C := secC) (e := 37) (size := 4) (v := .slice (some ⟨b2, 0, none⟩) q2 c2) (xs := xs) (by (repeat (first | with_reducible exact At.here | with_reducible apply At.there))); obtain ⟨x0, x1, x2, x3⟩ := cellsSec hf HK.out; go_simp; try rfl)) (by intro e; rfl) (by intro e; rfl) (by intro e x; rfl) ?_
                (simp only [Act.put, List.setIfInBounds_toArray, List.set_cons_succ, List.set_cons_zero])
                refine flow_run _ rfl (fun _ => rfl) (fun e wx Lx h => by (go_simp; try rfl)) (by intro e; rfl) (by intro e; rfl) (by intro e x; rfl) ?_
                (simp only [Act.put, List.setIfInBounds_toArray, List.set_cons_succ, List.set_cons_zero])
                refine flow_run _ rfl (fun _ => rfl) (fun e wx Lx h => by (have h : St M0 wx (blkR y 120 #[.int .i64 x.d, .int .i64 x.c, .int .i64 x.r, .int .i64 x.i, .int .u64 x.t, .slice Ad x.b.length cd, .int .i64 x.e] :: ownR secC 37 4 (.slice (some ⟨b2, 0, none⟩) q2 c2) (xs) :: growR 124 3 LookHR (.slice z.1.k.a z.1.k.n z.1.k.c) z.2.k :: intsR .u8 (.slice Ad x.b.length cd) x.b :: Lx) := h; have y0 := (h.blkA (g := y) (t := 120) (cs := #[.int .i64 x.d, .int .i64 x.c, .int .i64 x.r, .int .i64 x.i, .int .u64 x.t, .slice Ad x.b.length cd, .int .i64 x.e]) (by (repeat (first | with_reducible exact At.here | with_reducible apply At.there)))).cell 0; have y1 := (h.blkA (g := y) (t := 120) (cs := #[.int .i64 x.d, .int .i64 x.c, .int .i64 x.r, .int .i64 x.i, .int .u64 x.t, .slice Ad x.b.length cd, .int .i64 x.e]) (by (repeat (first | with_reducible exact At.here | with_reducible apply At.there)))).cell 1; have y2 := (h.blkA (g := y) (t := 120) (cs := #[.int .i64 x.d, .int .i64 x.c, .int .i64 x.r, .int .i64 x.i, .int .u64 x.t, .slice Ad x.b.length cd, .int .i64 x.e]) (by (repeat (first | with_reducible exact At.here | with_reducible apply At.there)))).cell 2; have y3 := (h.blkA (g := y) (t := 120) (cs := #[.int .i64 x.d, .int .i64 x.c, .int .i64 x.r, .int .i64 x.i, .int .u64 x.t, .slice Ad x.b.length cd, .int .i64 x.e]) (by (repeat (first | with_reducible exact At.here | with_reducible apply At.there)))).cell 3; have y4 := (h.blkA (g := y) (t := 120) (cs := #[.int .i64 x.d, .int .i64 x.c, .int .i64 x.r, .int .i64 x.i, .int .u64 x.t, .slice Ad x.b.length cd, .int .i64 x.e]) (by (repeat (first | with_reducible exact At.here | with_reducible apply At.there)))).cell 4; have y5 := (h.blkA (g := y) (t := 120) (cs := #[.int .i64 x.d, .int .i64 x.c, .int .i64 x.r, .int .i64 x.i, .int .u64 x.t, .slice Ad x.b.length cd, .int .i64 x.e]) (by (repeat (first | with_reducible exact At.here | with_reducible apply At.there)))).cell 5; have y6 := (h.blkA (g := y) (t := 120) (cs := #[.int .i64 x.d, .int .i64 x.c, .int .i64 x.r, .int .i64 x.i, .int .u64 x.t, .slice Ad x.b.length cd, .int .i64 x.e]) (by (repeat (first | with_reducible exact At.here | with_reducible apply At.there)))).cell 6; have hf := h.flatO (C := secC) (e := 37) (size := 4) (v := .slice (some ⟨b2, 0, none⟩) q2 c2) (xs := xs) (by (repeat (first | with_reducible exact At.here | with_reducible apply At.there))); obtain ⟨x0, x1, x2, x3⟩ := cellsSec hf HK.out; go_simp; try rfl)) (by intro e; rfl) (by intro e; rfl) (by intro e x; rfl) ?_
                (simp only [Act.put, List.setIfInBounds_toArray, List.set_cons_succ, List.set_cons_zero])
                refine flow_call 76 (fun e => #[.slice Ad x.b.length cd]) (fun e => .slice (e 14).A x.b.length (e 14).n) rfl (fun _ => rfl) (by intro e; rfl) (fun e wx => by (go_simp; try rfl)) (fun e wx Lx h => by (
                  have h : St M0 wx (blkR y 120 #[.int .i64 x.d, .int .i64 x.c, .int .i64 x.r, .int .i64 x.i, .int .u64 x.t, .slice Ad x.b.length cd, .int .i64 x.e] :: ownR secC 37 4 (.slice (some ⟨b2, 0, none⟩) q2 c2) (xs) :: growR 124 3 LookHR (.slice z.1.k.a z.1.k.n z.1.k.c) z.2.k :: intsR .u8 (.slice Ad x.b.length cd) x.b :: Lx) := h
                  refine (clone_st Ad x.b.length cd x.b _ (h.getA (Q := fun w => Ints w .u8 (.slice Ad x.b.length cd) x.b) (by (repeat (first | with_reducible exact At.here | with_reducible apply At.there)))).sl.2.2.2 HBL.out h).mono ?_
                  rintro u wy ⟨v, rfl, h1⟩
                  obtain ⟨A', c', rfl⟩ := h1.slice
                  have h2 := St.ints (k := .u8) (xs := x.b) h1
                  have hk : St M0 wy (blkR y 120 #[.int .i64 x.d, .int .i64 x.c, .int .i64 x.r, .int .i64 x.i, .int .u64 x.t, .slice Ad x.b.length cd, .int .i64 x.e] :: ownR secC 37 4 (.slice (some ⟨b2, 0, none⟩) q2 c2) (xs) :: growR 124 3 LookHR (.slice z.1.k.a z.1.k.n z.1.k.c) z.2.k :: intsR .u8 (.slice Ad x.b.length cd) x.b :: intsR .u8 (.slice A' x.b.length c') x.b :: Lx) := h2.sub (by (repeat (first | with_reducible exact Sub.refl _ | (with_reducible apply Sub.take; focus (repeat (first | with_reducible exact At.here | with_reducible apply At.there))) | with_reducible apply Sub.drop)))
                  exact ⟨⟨A', c', default⟩, rfl, hk⟩)) ?_
                (simp only [Act.put, List.setIfInBounds_toArray, List.set_cons_succ, List.set_cons_zero])
                refine flow_run _ rfl (fun _ => rfl) (fun e wx Lx h => by (go_simp; try rfl)) (by intro e; rfl) (by intro e; rfl) (by intro e x; rfl) ?_
                (simp only [Act.put, List.setIfInBounds_toArray, List.set_cons_succ, List.set_cons_zero])
                refine flow_do (fun e => .slice (some ⟨(e 16).n, 0, none⟩) 1 1) rfl (fun _ => rfl) (by intro e; rfl) (fun e wx Lx h => by (
                  have h : St M0 wx (blkR y 120 #[.int .i64 x.d, .int .i64 x.c, .int .i64 x.r, .int .i64 x.i, .int .u64 x.t, .slice Ad x.b.length cd, .int .i64 x.e] :: ownR secC 37 4 (.slice (some ⟨b2, 0, none⟩) q2 c2) (xs) :: growR 124 3 LookHR (.slice z.1.k.a z.1.k.n z.1.k.c) z.2.k :: intsR .u8 (.slice Ad x.b.length cd) x.b :: intsR .u8 (.slice (e 14).A x.b.length (e 14).n) x.b :: Lx) := h
                  have hk : St M0 _ (blkR y 120 #[.int .i64 x.d, .int .i64 x.c, .int .i64 x.r, .int .i64 x.i, .int .u64 x.t, .slice Ad x.b.length cd, .int .i64 x.e] :: ownR secC 37 4 (.slice (some ⟨b2, 0, none⟩) q2 c2) (xs) :: growR 124 3 LookHR (.slice z.1.k.a z.1.k.n z.1.k.c) z.2.k :: intsR .u8 (.slice Ad x.b.length cd) x.b :: intsR .u8 (.slice (e 14).A x.b.length (e 14).n) x.b :: blkR wx.heap.size 124 #[.int .i64 (z.1.p.n : Nat), .int .i64 x.i, .slice (e 14).A x.b.length (e 14).n] :: Lx) := (h.alloc 124 #[.int .i64 (z.1.p.n : Nat), .int .i64 x.i, .slice (e 14).A x.b.length (e 14).n]).sub (by (repeat (first | with_reducible exact Sub.refl _ | (with_reducible apply Sub.take; focus (repeat (first | with_reducible exact At.here | with_reducible apply At.there))) | with_reducible apply Sub.drop)))
                  exact ⟨⟨none, wx.heap.size, default⟩, _, exec_buildSlice1 rfl rfl (look_buildH _ _ _ _ _ _), hk⟩)) ?_
                (simp only [Act.put, List.setIfInBounds_toArray, List.set_cons_succ, List.set_cons_zero])
                refine flow_do (fun e => .slice (e 17).A (z.1.k.n + 1) (e 17).n) rfl (fun _ => rfl) (by intro e; rfl) (fun e wx Lx h => by (
                  have h : St M0 wx (blkR y 120 #[.int .i64 x.d, .int .i64 x.c, .int .i64 x.r, .int .i64 x.i, .int .u64 x.t, .slice Ad x.b.length cd, .int .i64 x.e] :: ownR secC 37 4 (.slice (some ⟨b2, 0, none⟩) q2 c2) (xs) :: growR 124 3 LookHR (.slice z.1.k.a z.1.k.n z.1.k.c) z.2.k :: intsR .u8 (.slice Ad x.b.length cd) x.b :: intsR .u8 (.slice (e 14).A x.b.length (e 14).n) x.b :: blkR (e 16).n 124 #[.int .i64 (z.1.p.n : Nat), .int .i64 x.i, .slice (e 14).A x.b.length (e 14).n] :: Lx) := h
                  have hz := sl_blkS (cs := [.int .i64 (z.1.p.n : Nat), .int .i64 x.i, .slice (e 14).A x.b.length (e 14).n]) (h.blkA (g := (e 16).n) (t := 124) (cs := #[.int .i64 (z.1.p.n : Nat), .int .i64 x.i, .slice (e 14).A x.b.length (e 14).n]) (by (repeat (first | with_reducible exact At.here | with_reducible apply At.there))))
                  have h1 := (h.copyA (Q := fun w => Ints w .u8 (.slice (e 14).A x.b.length (e 14).n) x.b) (by (repeat (first | with_reducible exact At.here | with_reducible apply At.there)))).pers1 (R' := fun w => LookHR w [.int .i64 (z.1.p.n : Nat), .int .i64 x.i, .slice (e 14).A x.b.length (e 14).n] ⟨(z.2.p.length : Nat), x.i, x.b⟩) (fun w' hw => ⟨_, by rw [HPL.out], hw⟩)
                  obtain ⟨A', c', w', hr, h2⟩ := (h1.sub (L' := growR 124 3 LookHR (.slice z.1.k.a z.1.k.n z.1.k.c) z.2.k :: persR (fun w => LookHR w [.int .i64 (z.1.p.n : Nat), .int .i64 x.i, .slice (e 14).A x.b.length (e 14).n] ⟨(z.2.p.length : Nat), x.i, x.b⟩) :: blkR y 120 #[.int .i64 x.d, .int .i64 x.c, .int .i64 x.r, .int .i64 x.i, .int .u64 x.t, .slice Ad x.b.length cd, .int .i64 x.e] :: ownR secC 37 4 (.slice (some ⟨b2, 0, none⟩) q2 c2) (xs) :: intsR .u8 (.slice Ad x.b.length cd) x.b :: intsR .u8 (.slice (e 14).A x.b.length (e 14).n) x.b :: blkR (e 16).n 124 #[.int .i64 (z.1.p.n : Nat), .int .i64 x.i, .slice (e 14).A x.b.length (e 14).n] :: Lx) (by (repeat (first | with_reducible exact Sub.refl _ | (with_reducible apply Sub.take; focus (repeat (first | with_reducible exact At.here | with_reducible apply At.there))) | with_reducible apply Sub.drop)))).grow1 look_elemH _ ⟨(e 16).n, 0, none⟩ 1 hz (look_oneH _ _ _ _ _) rfl (by omega) (by omega)
                  have hk : St M0 _ (blkR y 120 #[.int .i64 x.d, .int .i64 x.c, .int .i64 x.r, .int .i64 x.i, .int .u64 x.t, .slice Ad x.b.length cd, .int .i64 x.e] :: ownR secC 37 4 (.slice (some ⟨b2, 0, none⟩) q2 c2) (xs) :: intsR .u8 (.slice Ad x.b.length cd) x.b :: intsR .u8 (.slice (e 14).A x.b.length (e 14).n) x.b :: blkR (e 16).n 124 #[.int .i64 (z.1.p.n : Nat), .int .i64 x.i, .slice (e 14).A x.b.length (e 14).n] :: growR 124 3 LookHR (.slice A' (z.1.k.n + 1) c') (z.2.k ++ [⟨(z.2.p.length : Nat), x.i, x.b⟩]) :: Lx) := h2.sub (by (repeat (first | with_reducible exact Sub.refl _ | (with_reducible apply Sub.take; focus (repeat (first | with_reducible exact At.here | with_reducible apply At.there))) | with_reducible apply Sub.drop)))
                  exact ⟨⟨A', c', default⟩, _, exec_append rfl rfl rfl hr, hk⟩)) ?_
                (simp only [Act.put, List.setIfInBounds_toArray, List.set_cons_succ, List.set_cons_zero])
                refine flow_run _ rfl (fun _ => rfl) (fun e wx Lx h => by (go_simp; try rfl)) (by intro e; rfl) (by intro e; rfl) (by intro e x; rfl) ?_
                (simp only [Act.put, List.setIfInBounds_toArray, List.set_cons_succ, List.set_cons_zero])
                refine flow_run _ rfl (fun _ => rfl) (fun e wx Lx h => by (go_simp; try rfl)) (by intro e; rfl) (by intro e; rfl) (by intro e x; rfl) ?_
                (simp only [Act.put, List.setIfInBounds_toArray, List.set_cons_succ, List.set_cons_zero])
                refine flow_store _ _ _ (fun e => .pointer (some ⟨b2, k * 4 + 3, none⟩)) (fun e => .slice (e 17).A (z.1.k.n + 1) (e 17).n) rfl (fun _ => rfl) rfl (fun _ => rfl) (fun _ => rfl) (fun e wx Lx h => by (
                  have h : St M0 wx (blkR y 120 #[.int .i64 x.d, .int .i64 x.c, .int .i64 x.r, .int .i64 x.i, .int .u64 x.t, .slice Ad x.b.length cd, .int .i64 x.e] :: ownR secC 37 4 (.slice (some ⟨b2, 0, none⟩) q2 c2) (xs) :: intsR .u8 (.slice Ad x.b.length cd) x.b :: intsR .u8 (.slice (e 14).A x.b.length (e 14).n) x.b :: blkR (e 16).n 124 #[.int .i64 (z.1.p.n : Nat), .int .i64 x.i, .slice (e 14).A x.b.length (e 14).n] :: growR 124 3 LookHR (.slice (e 17).A (z.1.k.n + 1) (e 17).n) (z.2.k ++ [⟨(z.2.p.length : Nat), x.i, x.b⟩]) :: Lx) := h
                  obtain ⟨h1, hc1, hc2⟩ := (h.front (X := ownR secC 37 4 (.slice (some ⟨b2, 0, none⟩) q2 c2) (xs)) (by (repeat (first | with_reducible exact At.here | with_reducible apply At.there)))).ownSet secC_len (k := k) (j := 3) (x := z.1) (y := ⟨z.1.t, z.1.p, z.1.s, ⟨(e 17).A, z.1.k.n + 1, (e 17).n⟩⟩) (u := .slice (e 17).A (z.1.k.n + 1) (e 17).n) HK.out (by omega) rfl
                  obtain ⟨y0, hc3⟩ := Option.isSome_iff_exists.1 hc1
                  have hk : St M0 _ (blkR y 120 #[.int .i64 x.d, .int .i64 x.c, .int .i64 x.r, .int .i64 x.i, .int .u64 x.t, .slice Ad x.b.length cd, .int .i64 x.e] :: intsR .u8 (.slice Ad x.b.length cd) x.b :: intsR .u8 (.slice (e 14).A x.b.length (e 14).n) x.b :: blkR (e 16).n 124 #[.int .i64 (z.1.p.n : Nat), .int .i64 x.i, .slice (e 14).A x.b.length (e 14).n] :: growR 124 3 LookHR (.slice (e 17).A (z.1.k.n + 1) (e 17).n) (z.2.k ++ [⟨(z.2.p.length : Nat), x.i, x.b⟩]) :: ownR secC 37 4 (.slice (some ⟨b2, 0, none⟩) q2 c2) (xs.set k ⟨z.1.t, z.1.p, z.1.s, ⟨(e 17).A, z.1.k.n + 1, (e 17).n⟩⟩) :: Lx) := h1.sub (by (repeat (first | with_reducible exact Sub.refl _ | (with_reducible apply Sub.take; focus (repeat (first | with_reducible exact At.here | with_reducible apply At.there))) | with_reducible apply Sub.drop)))
                  exact ⟨_, (by (go_simp; try rfl)), hk⟩)) ?_
                simp only [Act.put]
                refine flow_nil ?_
                intro e w1 h
                have h : St M0 w1 (blkR y 120 #[.int .i64 x.d, .int .i64 x.c, .int .i64 x.r, .int .i64 x.i, .int .u64 x.t, .slice Ad x.b.length cd, .int .i64 x.e] :: intsR .u8 (.slice Ad x.b.length cd) x.b :: intsR .u8 (.slice (e 14).A x.b.length (e 14).n) x.b :: blkR (e 16).n 124 #[.int .i64 (z.1.p.n : Nat), .int .i64 x.i, .slice (e 14).A x.b.length (e 14).n] :: growR 124 3 LookHR (.slice (e 17).A (z.1.k.n + 1) (e 17).n) (z.2.k ++ [⟨(z.2.p.length : Nat), x.i, x.b⟩]) :: ownR secC 37 4 (.slice (some ⟨b2, 0, none⟩) q2 c2) (xs.set k ⟨z.1.t, z.1.p, z.1.s, ⟨(e 17).A, z.1.k.n + 1, (e 17).n⟩⟩) :: growR 122 2 PutHR (.slice z.1.p.a z.1.p.n z.1.p.c) z.2.p :: bigS (zs2.eraseIdx k) :: rowsR 7 EvR (.slice (some ad) n cv) l :: L) := h
                obtain ⟨A', hA'⟩ : ∃ A', (e 17).A = A' := ⟨_, rfl⟩
                obtain ⟨c', hc'⟩ : ∃ c', (e 17).n = c' := ⟨_, rfl⟩
                rw [hA', hc'] at h
                obtain ⟨z', hz'⟩ : ∃ z' : PairS, z' = (⟨z.1.t, z.1.p, z.1.s, ⟨A', z.1.k.n + 1, c'⟩⟩, stepS z.2 x) := ⟨_, rfl⟩
                have HZ := hide hz'
                have h1 := h.sub (L' := growR 124 3 LookHR (.slice A' (z.1.k.n + 1) c') (z.2.k ++ [⟨(z.2.p.length : Nat), x.i, x.b⟩]) :: growR 122 2 PutHR (.slice z.1.p.a z.1.p.n z.1.p.c) z.2.p :: bigS (zs2.eraseIdx k) :: ownR secC 37 4 (.slice (some ⟨b2, 0, none⟩) q2 c2) (xs.set k ⟨z.1.t, z.1.p, z.1.s, ⟨A', z.1.k.n + 1, c'⟩⟩) :: rowsR 7 EvR (.slice (some ad) n cv) l :: L) (by (repeat (first | with_reducible exact Sub.refl _ | (with_reducible apply Sub.take; focus (repeat (first | with_reducible exact At.here | with_reducible apply At.there))) | with_reducible apply Sub.drop)))
                have H6 := hide h1
                clear h h0 h1 hz'
                go_wp2_with fail
                have H7 := hide ((H6.out.swap.bigBack (z' := z') (ys := (zs2.set k z').map Prod.fst) (by rw [HZ.out, HST.out]; rfl) (by rw [List.map_set, ← HXS.out, HZ.out])).bigPerm (perm_put z' HKL.out)).swap
                clear H6
                go_roundg (n - (j + 1))
                case measure => have := HG.out; omega
                case rel => exact ⟨j + 1, q2, some ⟨b2, 0, none⟩, c2, zs2.set k z', rfl, by omega, rfl, by go_num, by rw [List.length_set]; exact HQ2.out, HNX.out z' (by rw [HZ.out]) (by rw [HZ.out, HST.out]; exact HZO.out), H7.out⟩
              · have b2' := isF h6
                have h7 : x.d = 7 := by have := HD57.out; omega
                have b3' := isT h7
                have HST := hide (show stepS z.2 x = ⟨z.2.t, z.2.p, (z.2.p.length : Nat), z.2.k⟩ from (if_neg h5).trans (if_neg h6))
                clear h5 h6 h7
                obtain ⟨h8, hc1, hc2⟩ := (H5.out.front (X := ownR secC 37 4 (.slice (some ⟨b2, 0, none⟩) q2 c2) (xs)) (by (repeat (first | with_reducible exact At.here | with_reducible apply At.there)))).ownSet secC_len (k := k) (j := 2) (x := z.1) (y := ⟨z.1.t, z.1.p, (z.1.p.n : Nat), z.1.k⟩) (u := .int .i64 (z.1.p.n : Nat)) HK.out (by omega) rfl
                obtain ⟨v0, hc3⟩ := Option.isSome_iff_exists.1 hc1
                obtain ⟨x0, x1, x2, x3⟩ := cellsSec (H5.out.flatO (C := secC) (e := 37) (size := 4) (v := .slice (some ⟨b2, 0, none⟩) q2 c2) (xs := xs) (by (repeat (first | with_reducible exact At.here | with_reducible apply At.there)))) HK.out
                obtain ⟨z', hz'⟩ : ∃ z' : PairS, z' = (⟨z.1.t, z.1.p, (z.1.p.n : Nat), z.1.k⟩, stepS z.2 x) := ⟨_, rfl⟩
                have HZ := hide hz'
                have H6 := hide (h8.sub (L' := growR 122 2 PutHR (.slice z.1.p.a z.1.p.n z.1.p.c) z.2.p :: growR 124 3 LookHR (.slice z.1.k.a z.1.k.n z.1.k.c) z.2.k :: bigS (zs2.eraseIdx k) :: ownR secC 37 4 (.slice (some ⟨b2, 0, none⟩) q2 c2) (xs.set k ⟨z.1.t, z.1.p, (z.1.p.n : Nat), z.1.k⟩) :: rowsR 7 EvR (.slice (some ad) n cv) l :: L) (by (repeat (first | with_reducible exact Sub.refl _ | (with_reducible apply Sub.take; focus (repeat (first | with_reducible exact At.here | with_reducible apply At.there))) | with_reducible apply Sub.drop))))
                clear h8 hc1 hz'
                go_wp2_with fail
                have H7 := hide ((H6.out.bigBack (z' := z') (ys := (zs2.set k z').map Prod.fst) (by rw [HZ.out, HST.out]; rfl) (by rw [List.map_set, ← HXS.out, HZ.out])).bigPerm (perm_put z' HKL.out)).swap
                clear H6
                go_roundg (n - (j + 1))
                case measure => have := HG.out; omega
                case rel => exact ⟨j + 1, q2, some ⟨b2, 0, none⟩, c2, zs2.set k z', rfl, by omega, rfl, by go_num, by rw [List.length_set]; exact HQ2.out, HNX.out z' (by rw [HZ.out]) (by rw [HZ.out, HST.out]; exact ⟨HZO.out.1, by show ((z.1.p.n : Nat) : Int) = _; rw [HPL.out]⟩), H7.out⟩
    · obtain rfl : n = j := by omega
      rw [List.take_of_length_le (by rw [← HN.out]; exact Nat.le_refl _)] at HP
      have hqn : q ≤ n := by rw [hq, HN.out]; exact HP.out.n
      have H2 := hide h
      rcases Nat.eq_zero_or_pos q with h0 | h0
      · have hz0 : zs = [] := List.eq_nil_of_length_eq_zero (by omega)
        subst h0
        subst hz0
        clear h hq hlt
        go_wp2_with fail
        refine (sortStable0_st A c _ _ H2.out).mono ?_
        rintro e w3 ⟨rfl, h3⟩
        have H3 := hide h3
        clear h3 H2
        go_wp2_with fail
        go_ret
        exact ⟨_, [], rfl, by rw [← HP.out.eq], SortedT.nil, fun _ h => absurd h List.not_mem_nil, (H3.out.ownKeep.swap.bigKeep).swap⟩
      · have hb := own_form ((h.ownOpen.2).row 0 rfl) h0
        clear h hlt h0 hq
        go_wp2_with fail
        refine (sortStable_st A q c (zs.map Prod.fst) _ (by omega) hb H2.out).mono ?_
        rintro e w3 ⟨rfl, ys, hp, hs, h3⟩
        obtain ⟨zs', e1, p1⟩ := perm_lift hp zs rfl
        subst e1
        have H3 := hide (((h3.swap.bigPerm p1.symm).swap.ownKeep.swap.bigKeep).swap)
        have HS := hide hs
        have HP1 := hide p1
        clear h3 H2 hs p1 hp
        go_wp2_with fail
        go_ret
        exact ⟨_, zs', rfl, by rw [← HP.out.eq]; exact HP1.out.map _, HS.out, fun z hz => HP.out.ok z (HP1.out.mem_iff.1 hz), H3.out⟩
end Go.Proofs.Ytbgknfdaaffeaaa
