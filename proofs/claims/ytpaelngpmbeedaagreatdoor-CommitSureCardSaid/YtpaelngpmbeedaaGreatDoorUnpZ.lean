/- Images read from bytes (plain). -/
import Derived.Test.YtpaelngpmbeedaaGreatDoorImgEZ
import Derived.Test.YtpaelngpmbeedaaGreatDoorImgPZ
import Derived.Test.YtpaelngpmbeedaaGreatDoorImgRZ
import Derived.Test.YtpaelngpmbeedaaGreatDoorBaseZ
import Derived.Test.YtpaelngpmbeedaaGreatDoorImgOZ
namespace Go.Proofs.YtpaelngpmbeedaaGreatDoor

def Rd.blk (r : Rd) : Nat → (Nat → List Int) × Rd
  | 0 => (fun _ => [], r)
  | j + 1 => (upd (r.blk j).1 j (r.blk j).2.byt.1, (r.blk j).2.byt.2)
def Rd.logs (r : Rd) : Nat → List (List Int) × Rd
  | 0 => ([], r)
  | n + 1 => ((r.logs n).1 ++ [(r.logs n).2.byt.1], (r.logs n).2.byt.2)
def Rd.h1 (r : Rd) : Int × Rd := r.num 8
def Rd.h2 (r : Rd) : Int × Rd := r.h1.2.num 4
def Rd.h3 (r : Rd) : (Nat → List Int) × Rd := r.h2.2.blk 4
def Rd.h4 (r : Rd) : Int × Rd := r.h3.2.num 1
def Rd.h5 (r : Rd) : List (List Int) × Rd := r.h4.2.logs r.h4.1.toNat
def Rd.rg (r : Rd) : Rg := ⟨r.h1.1, r.h2.1, r.h3.1, r.h5.1⟩
def Rd.img (r : Rd) : Nat → (Nat → Rg) × Rd
  | 0 => (aw0, r)
  | k + 1 => (upd (r.img k).1 k (r.img k).2.rg, (r.img k).2.h5.2)
def shortB (b : List Int) : Bool := decide (b.length ≤ 24)
def blkOk (b : Nat → List Int) (j : Nat) : Bool := (List.range j).all fun i => shortB (b i)
def rgOk (x : Rg) : Bool := blkOk x.b 4 && x.log.all shortB && decide (x.log.length ≤ 4) && (decide (0 < x.high) || x.seq == 0)
def imgOk (m : Nat → Rg) (k : Nat) : Bool := (List.range k).all fun i => rgOk (m i)
def unpE (bs : List Int) : Int := if (Rd.img ⟨bs, false⟩ 4).2.endE ≠ 0 then (Rd.img ⟨bs, false⟩ 4).2.endE else if imgOk (Rd.img ⟨bs, false⟩ 4).1 4 = true then 0 else 1
theorem blkOk_succ (b : Nat → List Int) (j : Nat) : blkOk b (j + 1) = (blkOk b j && shortB (b j)) := by simp [blkOk, List.range_succ]
theorem imgOk_succ (m : Nat → Rg) (k : Nat) : imgOk m (k + 1) = (imgOk m k && rgOk (m k)) := by simp [imgOk, List.range_succ]

theorem Rd.Ok.blk {r : Rd} (h : r.Ok) (j : Nat) : (r.blk j).2.Ok := by
  induction j with
  | zero => exact h
  | succ j ih => exact ih.byt
theorem Rd.Ok.logs {r : Rd} (h : r.Ok) (n : Nat) : (r.logs n).2.Ok := by
  induction n with
  | zero => exact h
  | succ n ih => exact ih.byt
theorem Rd.Ok.h5 {r : Rd} (h : r.Ok) : r.h5.2.Ok := (((h.num 8).num 4).blk 4 |>.num 1).logs _
theorem Rd.Ok.img {r : Rd} (h : r.Ok) (k : Nat) : (r.img k).2.Ok := by
  induction k with
  | zero => exact h
  | succ k ih => exact ih.h5
theorem Rd.logs_length (r : Rd) (n : Nat) : (r.logs n).1.length = n := by
  induction n with
  | zero => rfl
  | succ n ih => show ((r.logs n).1 ++ [_]).length = _; simp [ih]
theorem Rd.byt_len {r : Rd} (_h : r.Ok) : r.byt.1.length ≤ 1000 := by
  unfold Rd.byt
  have h1 := ((r.num 2).2.take_len (Rd.count (r.num 2).1 (r.num 2).2)).1
  unfold Rd.count at h1 ⊢
  split
  · rename_i h2
    unfold Rd.take
    rw [if_pos (.inr (by omega))]
    simp
  · rename_i h2
    rw [if_neg h2] at h1
    omega

/-- what is read goodly is what was packed -/
theorem Rd.byt_good {r : Rd} (h : r.Ok) (hs : r.byt.2.s = false) : r.s = false ∧ r.xs = bytB r.byt.1 ++ r.byt.2.xs := by
  have h9 : r.fld 9 = (⟨9, 0, r.byt.1⟩, r.byt.2) := if_pos rfl
  have h1 := Rd.fld_good (k := 9) h.hb rfl (by rw [h9]; exact hs)
  rw [h9] at h1
  exact ⟨h1.1, h1.2.1⟩
theorem Rd.num_goodI {r : Rd} (h : r.Ok) (m : Nat) (h1 : 1 ≤ m) (h8 : m ≤ 8) (hs : (r.num (m : Int)).2.s = false) : r.s = false ∧ r.xs = numI (r.num (m : Int)).1 m ++ (r.num (m : Int)).2.xs := by
  have h2 := Rd.num_good h.hb h1 h8 hs
  refine ⟨h2.1, ?_⟩
  have e : numI (r.num (m : Int)).1 m = numB (r.num (m : Int)).1 m := by
    unfold numI
    rw [if_neg (by omega), Int.toNat_natCast]
  rw [e]
  exact h2.2.1
def blkB (b : Nat → List Int) (j : Nat) : List Int := (List.range j).flatMap fun i => bytB (b i)
theorem blkB_succ (b : Nat → List Int) (j : Nat) : blkB b (j + 1) = blkB b j ++ bytB (b j) := by simp [blkB, List.range_succ]
theorem blkB_upd (b : Nat → List Int) (j k : Nat) (x : List Int) (h : j ≤ k) : blkB (upd b k x) j = blkB b j := by
  induction j with
  | zero => rfl
  | succ j ih => rw [blkB_succ, blkB_succ, ih (by omega), upd_ne _ _ _ _ (by omega)]
theorem Rd.blk_good {r : Rd} (h : r.Ok) (j : Nat) (hs : (r.blk j).2.s = false) : r.s = false ∧ r.xs = blkB (r.blk j).1 j ++ (r.blk j).2.xs := by
  induction j with
  | zero => exact ⟨hs, rfl⟩
  | succ j ih =>
    have h1 := Rd.byt_good (h.blk j) hs
    have h2 := ih h1.1
    refine ⟨h2.1, ?_⟩
    show r.xs = blkB (upd (r.blk j).1 j (r.blk j).2.byt.1) (j + 1) ++ (r.blk j).2.byt.2.xs
    rw [blkB_succ, blkB_upd _ _ _ _ (Nat.le_refl _), upd_at, List.append_assoc, ← h1.2]
    exact h2.2
theorem Rd.logs_good {r : Rd} (h : r.Ok) (n : Nat) (hs : (r.logs n).2.s = false) : r.s = false ∧ r.xs = (r.logs n).1.flatMap bytB ++ (r.logs n).2.xs := by
  induction n with
  | zero => exact ⟨hs, rfl⟩
  | succ n ih =>
    have h1 := Rd.byt_good (h.logs n) hs
    have h2 := ih h1.1
    refine ⟨h2.1, ?_⟩
    show r.xs = ((r.logs n).1 ++ [(r.logs n).2.byt.1]).flatMap bytB ++ (r.logs n).2.byt.2.xs
    rw [List.flatMap_append, List.append_assoc]
    simp only [List.flatMap_cons, List.flatMap_nil, List.append_nil]
    rw [← h1.2]
    exact h2.2
theorem Rd.rg_good {r : Rd} (h : r.Ok) (hs : r.h5.2.s = false) : r.s = false ∧ r.xs = regB r.rg ++ r.h5.2.xs := by
  have ok1 : r.h1.2.Ok := h.num 8
  have ok2 : r.h2.2.Ok := ok1.num 4
  have ok3 : r.h3.2.Ok := ok2.blk 4
  have ok4 : r.h4.2.Ok := ok3.num 1
  have g5 := Rd.logs_good ok4 r.h4.1.toNat hs
  have g4 := Rd.num_goodI ok3 1 (by omega) (by omega) g5.1
  have g3 := Rd.blk_good ok2 4 g4.1
  have g2 := Rd.num_goodI ok1 4 (by omega) (by omega) g3.1
  have g1 := Rd.num_goodI h 8 (by omega) (by omega) g2.1
  refine ⟨g1.1, ?_⟩
  have hl : ((r.h5.1.length : Nat) : Int) = r.h4.1 := by
    have e : r.h5.1.length = r.h4.1.toNat := Rd.logs_length _ _
    have := (Rd.num1_lt ok3).1
    rw [e]
    exact Int.toNat_of_nonneg this
  have e1 : r.xs = numI r.h1.1 8 ++ r.h1.2.xs := g1.2
  have e2 : r.h1.2.xs = numI r.h2.1 4 ++ r.h2.2.xs := g2.2
  have e3 : r.h2.2.xs = blkB r.h3.1 4 ++ r.h3.2.xs := g3.2
  have e4 : r.h3.2.xs = numI r.h4.1 1 ++ r.h4.2.xs := g4.2
  have e5 : r.h4.2.xs = r.h5.1.flatMap bytB ++ r.h5.2.xs := g5.2
  have eb : blkB r.h3.1 4 = bytB (r.h3.1 0) ++ bytB (r.h3.1 1) ++ bytB (r.h3.1 2) ++ bytB (r.h3.1 3) := by
    rw [blkB_succ, blkB_succ, blkB_succ, blkB_succ]
    simp [blkB]
  show r.xs = (numI r.h1.1 8 ++ numI r.h2.1 4 ++ bytB (r.h3.1 0) ++ bytB (r.h3.1 1) ++ bytB (r.h3.1 2) ++ bytB (r.h3.1 3) ++ numI (r.h5.1.length : Nat) 1 ++ r.h5.1.flatMap bytB) ++ r.h5.2.xs
  rw [hl, e1, e2, e3, e4, e5, eb]
  simp only [List.append_assoc]
theorem packTo_upd (m : Nat → Rg) (k i : Nat) (x : Rg) (h : k ≤ i) : packTo (upd m i x) k = packTo m k := by
  induction k with
  | zero => rfl
  | succ k ih => rw [packTo_succ, packTo_succ, ih (by omega), upd_ne _ _ _ _ (by omega)]
theorem Rd.img_good {r : Rd} (h : r.Ok) (k : Nat) (hs : (r.img k).2.s = false) : r.s = false ∧ r.xs = packTo (r.img k).1 k ++ (r.img k).2.xs := by
  induction k with
  | zero => exact ⟨hs, rfl⟩
  | succ k ih =>
    have h1 := Rd.rg_good (h.img k) hs
    have h2 := ih h1.1
    refine ⟨h2.1, ?_⟩
    show r.xs = packTo (upd (r.img k).1 k (r.img k).2.rg) (k + 1) ++ (r.img k).2.h5.2.xs
    rw [packTo_succ, packTo_upd _ _ _ _ (Nat.le_refl _), upd_at, List.append_assoc, ← h1.2]
    exact h2.2
theorem Rd.blk_far (r : Rd) (j i : Nat) (h : j ≤ i) : (r.blk j).1 i = [] := by
  induction j with
  | zero => rfl
  | succ j ih =>
    show upd (r.blk j).1 j _ i = []
    rw [upd_ne _ _ _ _ (by omega)]
    exact ih (by omega)
theorem Rd.img_far (r : Rd) (k i : Nat) (h : k ≤ i) : (r.img k).1 i = Rg.zero := by
  induction k with
  | zero => rfl
  | succ k ih =>
    show upd (r.img k).1 k _ i = Rg.zero
    rw [upd_ne _ _ _ _ (by omega)]
    exact ih (by omega)
theorem Rd.img_at {r : Rd} (h : r.Ok) (k i : Nat) (hi : i < k) : ∃ q : Rd, q.Ok ∧ (r.img k).1 i = q.rg := by
  induction k with
  | zero => omega
  | succ k ih =>
    by_cases he : i = k
    · subst he
      exact ⟨(r.img i).2, h.img i, upd_at _ _ _⟩
    · obtain ⟨q, h1, h2⟩ := ih (by omega)
      exact ⟨q, h1, (upd_ne _ _ _ _ he).trans h2⟩
theorem rg_ok {q : Rd} (h : q.Ok) (ho : rgOk q.rg = true) : q.rg.ok := by
  unfold rgOk at ho
  simp only [Bool.and_eq_true, decide_eq_true_eq] at ho
  obtain ⟨⟨⟨hb, hl⟩, hn⟩, _⟩ := ho
  have n8 := Rd.num8_lt h
  have n4 := Rd.num4_lt (h.num 8)
  refine ⟨n8.1, n8.2, n4.1, n4.2, hn, fun l hm => ?_, fun j => ?_⟩
  · have := List.all_eq_true.1 hl l hm
    unfold shortB at this
    simpa using this
  · by_cases hj : j < 4
    · have := List.all_eq_true.1 hb j (List.mem_range.2 hj)
      unfold shortB at this
      simpa using this
    · show ((Rd.blk _ 4).1 j).length ≤ 24
      rw [Rd.blk_far _ _ _ (by omega)]
      simp
theorem unp_law {bs : List Int} (h : Rd.Ok ⟨bs, false⟩) (he : unpE bs = 0) : packI (Rd.img ⟨bs, false⟩ 4).1 = bs ∧ ∀ k, ((Rd.img ⟨bs, false⟩ 4).1 k).ok := by
  unfold unpE at he
  split at he
  · rename_i h1
    exact absurd he h1
  · rename_i h1
    have h0 : (Rd.img ⟨bs, false⟩ 4).2.endE = 0 := Decidable.not_not.1 h1
    split at he
    · rename_i hok
      have hs : (Rd.img ⟨bs, false⟩ 4).2.s = false ∧ (Rd.img ⟨bs, false⟩ 4).2.xs = [] := by
        unfold Rd.endE at h0
        split at h0
        · cases h0
        · rename_i hs
          split at h0
          · cases h0
          · rename_i hl
            exact ⟨by simpa using hs, List.eq_nil_of_length_eq_zero (by omega)⟩
      have hg := Rd.img_good h 4 hs.1
      refine ⟨?_, fun k => ?_⟩
      · have := hg.2
        rw [hs.2, List.append_nil] at this
        exact this.symm
      · by_cases hk : k < 4
        · have hrk := List.all_eq_true.1 hok k (List.mem_range.2 hk)
          obtain ⟨q, hq, e⟩ := Rd.img_at h 4 k hk
          rw [e] at hrk ⊢
          exact rg_ok hq hrk
        · rw [Rd.img_far _ _ _ (by omega)]
          exact Rg.zero_ok
    · cases he

end Go.Proofs.YtpaelngpmbeedaaGreatDoor
/- Unpack's closure. -/
namespace Go.Proofs.YtpaelngpmbeedaaGreatDoor
open Go.RowKit

set_option maxHeartbeats 1000000 in
theorem clo_st {M0 : Imm} {L : List Res} (bP bO gr : Nat) (ok : Bool) (r : Rd) (w : World) (hr : r.Ok) (h : St M0 w (blkR bP 116 #[.pointer (some ⟨gr, 0, none⟩)] :: blkR bO 4 #[.bool ok] :: rdR gr r :: L)) :
    Calls Tryz.prog 100 #[.pointer (some ⟨bP, 0, none⟩), .pointer (some ⟨bO, 0, none⟩)] w fun e w' => ∃ v, e = .returned v ∧ St M0 w' (intsR .u8 v r.byt.1 :: blkR bP 116 #[.pointer (some ⟨gr, 0, none⟩)] :: blkR bO 4 #[.bool (ok && shortB r.byt.1)] :: rdR gr r.byt.2 :: L) := by
  have x0 := (h.blk 0 rfl).cell 0
  have H := hide h
  clear h
  go_enter Tryz.func100, Tryz.ntmps100
  go_wp2_with fail
  refine (rdbyt_st gr r _ hr.hb hr.hl hr.hz H.out.up2).mono ?_
  rintro e w2 ⟨v, rfl, h⟩
  obtain ⟨A, c, rfl, _, _, _⟩ := h.get 0 rfl
  have y0 := (h.blk 3 rfl).cell 0
  have f0 := (h.blk 3 rfl).frozen 0
  have H2 := hide h
  clear H h x0
  cases ok with
  | true =>
    have h3 : St M0 (w2.setCell ⟨bO, 0, none⟩ (.bool (decide ((r.byt.1.length : Int) ≤ 24)))) (blkR bO 4 #[.bool (decide ((r.byt.1.length : Int) ≤ 24))] :: intsR .u8 (.slice A r.byt.1.length c) r.byt.1 :: rdR gr r.byt.2 :: blkR bP 116 #[.pointer (some ⟨gr, 0, none⟩)] :: L) := H2.out.up3.set_ 0 _
    have e : (true && shortB r.byt.1) = decide ((r.byt.1.length : Int) ≤ 24) := by
      unfold shortB
      rw [Bool.true_and]
      exact decide_eq_decide.2 (by omega)
    have E := hide e
    have H3 := hide h3
    clear H2 h3 e
    go_wp2_with fail
    go_ret
    exact ⟨_, rfl, by rw [E.out]; exact H3.out.pick 4 [1, 3, 0, 2]⟩
  | false =>
    have h3 : St M0 (w2.setCell ⟨bO, 0, none⟩ (.bool false)) (blkR bO 4 #[.bool false] :: intsR .u8 (.slice A r.byt.1.length c) r.byt.1 :: rdR gr r.byt.2 :: blkR bP 116 #[.pointer (some ⟨gr, 0, none⟩)] :: L) := H2.out.up3.set_ 0 _
    have H3 := hide h3
    clear H2 h3
    go_wp2_with fail
    go_ret
    exact ⟨_, rfl, by rw [Bool.false_and]; exact H3.out.pick 4 [1, 3, 0, 2]⟩

end Go.Proofs.YtpaelngpmbeedaaGreatDoor
/- A region that draws its order: behind the operations that may be taken first, whatever comes up next. -/
namespace Go.Proofs.YtpaelngpmbeedaaGreatDoor
open Go.RowKit

section
variable {P : Program} {ops : Array Oper} {Q : Exit → Act → World → Prop} {S : World → Prop} {L : Nat}
theorem wpT_takeK (hsel : ∀ (j : Nat) (o : Oper) cs b, ops[j]? = some o → o.op ≠ .select cs b) (hlast : lastB ops L = true) (hQ : ∀ d v c a w, Q (.panic c) (a.put d v) w → Q (.panic c) a w)
    (n : Nat) {w : World} (hS : S w) : ∀ (hd : List Nat) (listed l : Array Bool) (a : Act), takeB ops L hd listed = some l →
      wpTake P ops S (fun a' => wpT P ops Q S L n l a' w) hd a → wpT P ops Q S L (hd.length + n) listed a w
  | [], listed, l, a, h, ht => by
    simp only [takeB, Option.some.injEq] at h
    subst h
    rw [List.length_nil, Nat.zero_add]
    exact ht
  | i :: r, listed, l, a, h, ht => by
    unfold takeB at h
    split at h
    · rename_i hc
      simp only [Bool.and_eq_true, decide_eq_true_eq] at hc
      obtain ⟨⟨hf, hr⟩, hiL⟩ := hc
      obtain ⟨o, v, ho, hy, ht⟩ := ht
      have := wpT_takeK hsel hlast hQ n hS r _ l _ h ht
      rw [List.length_cons, show r.length + 1 + n = (r.length + n) + 1 by omega]
      exact wpT_first ho hsel hlast hiL (hQ _ _) _ listed a w (Region.free_spec ho hf) (by simpa using hr) hy hS this
    · cases h
def mixTB (ops : Array Oper) (L n : Nat) (hd : List Nat) (l : Array Bool) : Bool :=
  Region.noSelect ops && lastB ops L && (hd.length + n == ops.size) && takeB ops L hd (Array.replicate ops.size false) == some l
/-- the node of one operation that may come up -/
def wpNode (P : Program) (ops : Array Oper) (Q : Exit → Act → World → Prop) (S : World → Prop) (L k : Nat) (listed : Array Bool) (i : Nat) (a : Act) (w : World) : Prop :=
  wpOp P ops Q i (fun a' w' => (i < L → S w') ∧ wpT P ops Q S L k (listed.setIfInBounds i true) a' w') a w
theorem wpT_nodes {k : Nat} {listed : Array Bool} {a : Act} {w : World} (rs : List Nat) (h : Region.ready .any ops listed = rs) (hne : rs ≠ []) (H : ∀ i ∈ rs, wpNode P ops Q S L k listed i a w) : wpT P ops Q S L (k + 1) listed a w :=
  ⟨fun h0 => absurd (h.symm.trans h0) hne, fun i hi => H i (h ▸ hi)⟩
end

section
variable {P : Program} {l : List Oper} {Q : Exit → Act → World → Prop} {S : World → Prop} {L : Nat}
theorem region_mixT {id : Nat} {a : Act} {w : World} {l : List Oper} (S : World → Prop) (L n : Nat) (hd : List Nat) (listed : Array Bool) (hm : P.follows .mixedOrders = true) (hB : mixTB l.toArray L n hd listed = true)
    (hQ : ∀ d v c a w, Q (.panic c) (a.put d v) w → Q (.panic c) a w)
    (h : ∀ W : World, W = w.drew → S W ∧ wpTake P l.toArray S (fun a' => wpT P l.toArray Q S L n listed a' W) hd a) : (Code.region id l.toArray true).wp P Q a w := by
  obtain ⟨hS, ht⟩ := h _ rfl
  simp only [mixTB, Bool.and_eq_true, beq_iff_eq] at hB
  obtain ⟨⟨⟨hsel, hlast⟩, hlen⟩, hB⟩ := hB
  refine wp_region_any hm (wpAny_of_wpT (S := S) (L := L) _ _ _ _ ?_)
  rw [← hlen]
  exact wpT_takeK (Region.noSelect_spec hsel) hlast hQ n hS hd _ listed a (by rw [hlen]; exact hB) ht
theorem node_run {k : Nat} {listed : Array Bool} {i : Nat} {a : Act} {w w' : World} {o : Oper} {v : Value} (ho : l[i]? = some o) (hg : o.guard = none)
    (hrun : (execOp a.eval o).run P w = .ok (.value v) w') (hS : i < L → S w') (h : wpT P l.toArray Q S L k (listed.setIfInBounds i true) (a.put o.dst v) w') : wpNode P l.toArray Q S L k listed i a w := by
  unfold wpNode wpOp
  have ho' : l.toArray[i]? = some o := by simpa using ho
  simp only [ho']
  rw [if_pos (by simp [Region.wanted, hg])]
  refine .inl ?_
  unfold Oper.wp
  rw [hrun]
  exact ⟨hS, h⟩
theorem node_buildSlice0 {k : Nat} {listed : Array Bool} {i : Nat} {a : Act} {w w' : World} {o : Oper} {v : Value} (ho : l[i]? = some o) (hg : o.guard = none) (t : TypeId) (len : Nat) (hop : o.op = .buildSlice t len #[])
    (hrun : (Instr.buildSlice t len #[]).run P w = .ok v w') (hS : i < L → S w') (h : wpT P l.toArray Q S L k (listed.setIfInBounds i true) (a.put o.dst v) w') : wpNode P l.toArray Q S L k listed i a w :=
  node_run ho hg (by unfold execOp; simp only [hop, List.map_toArray, List.map_nil, Sem.run_bind, Sem.run_pure, Result.andThen_ok, hrun]) hS h
theorem node_buildSlice1 {k : Nat} {listed : Array Bool} {i : Nat} {a : Act} {w w' : World} {o : Oper} {v : Value} (ho : l[i]? = some o) (hg : o.guard = none) (t : TypeId) (len q : Nat) (x : Operand) (u : Value) (hop : o.op = .buildSlice t len #[(q, x)]) (hx : a.eval x = u)
    (hrun : (Instr.buildSlice t len #[(q, u)]).run P w = .ok v w') (hS : i < L → S w') (h : wpT P l.toArray Q S L k (listed.setIfInBounds i true) (a.put o.dst v) w') : wpNode P l.toArray Q S L k listed i a w :=
  node_run ho hg (by unfold execOp; simp only [hop, hx, List.map_toArray, List.map_cons, List.map_nil, Sem.run_bind, Sem.run_pure, Result.andThen_ok, hrun]) hS h
theorem node_app {k : Nat} {listed : Array Bool} {M0 : Imm} {Ls : List Res} {t e : TypeId} {z : Value} {size bytes : Nat} {v : Value} {n : Nat} {xs : List Value} {w : World} {i : Nat} {ac : Act} {o : Oper} (hE : ElemOf P t e z size bytes) (h : St M0 w (rowR e size v n xs :: Ls)) (ho : l[i]? = some o) (hg : o.guard = none) (s x : Operand)
    (hop : o.op = .call { callee := .builtin .append, args := #[s, x], argTypes := #[t, t] }) (hs : ac.eval s = v)
    (A : Option Addr) (m c : Nat) (hx : ac.eval x = .slice A m c) (ys : List Value) (hy : Sl w Any size A m ys) (h1 : ∀ u ∈ ys, u.oneCell' = true)
    (hb : (n + m) * bytes ≤ 140737488355328) (hn : n + m ≤ 140737488355328)
    (kk : ∀ A' c' w', St M0 w' (rowR e size (.slice A' (n + m) c') (n + m) (xs ++ ys) :: Ls) → (i < L → S w') ∧ wpT P l.toArray Q S L k (listed.setIfInBounds i true) (ac.put o.dst (.slice A' (n + m) c')) w') : wpNode P l.toArray Q S L k listed i ac w := by
  obtain ⟨v', w', hrun, h2⟩ := St.run_app hE h o.type A m c ys hy h1 hb hn
  obtain ⟨A', c', rfl⟩ := h2.slice
  have hk := kk A' c' w' h2
  exact node_run ho hg (by unfold execOp; simp only [hop, resolve, invoke, builtin, Sem.run_bind, Sem.run_pure, Result.andThen_ok, List.map_toArray, List.map_cons, List.map_nil, hs, hx, hrun]) hk.1 hk.2
end

theorem node_callR {P : Program} {l : List Oper} {Q : Exit → Act → World → Prop} {S : World → Prop} {L : Nat} {k : Nat} {listed : Array Bool} {i : Nat} {a : Act} {w : World} {o : Oper} {f : FuncId} {args : Array Value} (ho : l[i]? = some o) (hg : o.guard = none)
    (hrun : (execOp a.eval o).run P w = .ok (.enter f args) w)
    (h : Calls P f args w fun e w' => ∃ v, e = .returned v ∧ (i < L → S w') ∧ wpT P l.toArray Q S L k (listed.setIfInBounds i true) (a.put o.dst v) w') : wpNode P l.toArray Q S L k listed i a w := by
  unfold wpNode wpOp
  have ho' : l.toArray[i]? = some o := by simpa using ho
  simp only [ho']
  rw [if_pos (by simp [Region.wanted, hg])]
  refine .inl ?_
  unfold Oper.wp
  rw [hrun, Oper.upon_enter]
  refine h.mono fun e w' ⟨v, he, hS, h⟩ => ?_
  subst he
  exact ⟨hS, h⟩
theorem wpT_mid1 {P : Program} {l : List Oper} {Q : Exit → Act → World → Prop} {S : World → Prop} {L : Nat} {n : Nat} {listed : Array Bool} {a : Act} {w : World} (hd : List Nat) (l' : Array Bool) (hsel : Region.noSelect l.toArray = true) (hlast : lastB l.toArray L = true) (hQ : ∀ d v c a w, Q (.panic c) (a.put d v) w → Q (.panic c) a w)
    (hS : S w) (ht : takeB l.toArray L hd listed = some l') (h : wpTake P l.toArray S (fun a' => wpT P l.toArray Q S L n l' a' w) hd a) : wpT P l.toArray Q S L (hd.length + n) listed a w :=
  wpT_takeK (Region.noSelect_spec hsel) hlast hQ n hS hd listed l' a ht h
end Go.Proofs.YtpaelngpmbeedaaGreatDoor
/- Unpack: what its walk needs. -/
namespace Go.Proofs.YtpaelngpmbeedaaGreatDoor
open Go.RowKit

section
variable {P : Program} {l : List Oper} {Q : Exit → Act → World → Prop} {S : World → Prop} {L : Nat}
theorem node_call {k : Nat} {listed : Array Bool} {i : Nat} {a : Act} {w : World} {o : Oper} {f : FuncId} {args : Array Value} (ho : l[i]? = some o) (hg : o.guard = none)
    (hrun : (execOp a.eval o).run P w = .ok (.enter f args) w)
    (h : Calls P f args w fun e w' => ∃ v, e = .returned v ∧ (i < L → S w') ∧ wpT P l.toArray Q S L k (listed.setIfInBounds i true) (a.put o.dst v) w') : wpNode P l.toArray Q S L k listed i a w := by
  unfold wpNode wpOp
  have ho' : l.toArray[i]? = some o := by simpa using ho
  simp only [ho']
  rw [if_pos (by simp [Region.wanted, hg])]
  refine .inl ?_
  unfold Oper.wp
  rw [hrun, Oper.upon_enter]
  refine h.mono fun e w' ⟨v, he, hS, h⟩ => ?_
  subst he
  exact ⟨hS, h⟩
theorem wpT_one {k : Nat} {listed : Array Bool} {a : Act} {w : World} (i : Nat) (hr : Region.ready .any l.toArray listed = [i]) (h : wpNode P l.toArray Q S L k listed i a w) : wpT P l.toArray Q S L (k + 1) listed a w :=
  wpT_nodes [i] hr (by simp) (fun j hj => by rw [List.mem_singleton.1 hj]; exact h)
/-- in the midst: operations that may be taken first -/
theorem wpT_mid {n : Nat} {listed : Array Bool} {a : Act} {w : World} (hd : List Nat) (l' : Array Bool) (hsel : Region.noSelect l.toArray = true) (hlast : lastB l.toArray L = true) (hQ : ∀ d v c a w, Q (.panic c) (a.put d v) w → Q (.panic c) a w)
    (hS : S w) (ht : takeB l.toArray L hd listed = some l') (h : wpTake P l.toArray S (fun a' => wpT P l.toArray Q S L n l' a' w) hd a) : wpT P l.toArray Q S L (hd.length + n) listed a w :=
  wpT_takeK (Region.noSelect_spec hsel) hlast hQ n hS hd listed l' a ht h
end

section
variable {M0 : Imm} {w : World} {L : List Res} {g : Nat} {m : Nat → Rg}
theorem upd_self {α : Type} (f : Nat → α) (k : Nat) : upd f k (f k) = f := by
  funext i
  by_cases h : i = k
  · subst h; rw [upd_at]
  · rw [upd_ne _ _ _ _ h]
theorem St.setImg2 {vs : Nat → RV} {R : World → Prop} {k j : Nat} {x : Rg} {p : RV} {u : Value} (h : St M0 w (imgB g vs m :: regsR vs m :: persR R :: L)) (hk : k < 4) (hj : j < 7)
    (hu : rgC x p = (rgC (m k) (vs k)).set j u) (hx : ∀ w', RegR w' (vs k) (m k) → R w' → RegR w' p x) : St M0 (w.setCell ⟨g, k * 7 + j, none⟩ u) (imgB g (upd vs k p) (upd m k x) :: regsR (upd vs k p) (upd m k x) :: L) := by
  have h1 := h.set_ (k * 7 + j) u
  rw [imgC_set m vs hk hj hu] at h1
  exact (h1.swap.up2.swap.pers2 (fun w' h3 h4 => upd_reg h3 (hx w' (h3 k hk) h4))).swap
theorem St.newImgB (h : St M0 w L) : St M0 (w.alloc (.cells (imgC aw0 (fun _ => nilRV)) 102)) (imgB w.heap.size (fun _ => nilRV) aw0 :: regsR (fun _ => nilRV) aw0 :: L) :=
  (h.pers0 (R := fun w => ∀ k, k < 4 → RegR w nilRV (aw0 k)) (fun w' _ _k _ => ⟨fun _ _ => Ints.none_ w' _, RowsC.none_ _ _ _ _⟩)).alloc 102 _
theorem imgC_self (m : Nat → Rg) (vs : Nat → RV) {k : Nat} (hk : k < 4) {u : Value} (hu : (vs k).log = u) : (imgC m vs).setIfInBounds (k * 7 + 6) u = imgC m vs := by
  rw [imgC_set m vs hk (by omega) (x := m k) (p := vs k) (by subst hu; rfl), upd_self, upd_self]
theorem St.logImg {vs : Nat → RV} {k : Nat} {u : Value} {e : TypeId} {logs : List (List Int)} {x : Rg} (h : St M0 w (blkR g 102 ((imgC m vs).setIfInBounds (k * 7 + 6) u) :: regsR vs m :: growR e 1 LogR u logs :: L)) (hk : k < 4) (hx : x = { m k with log := logs }) :
    ∃ p : RV, p.log = u ∧ St M0 w (imgB g (upd vs k p) (upd m k x) :: regsR (upd vs k p) (upd m k x) :: L) := by
  obtain ⟨css, h1⟩ := h.up2.rowsGrow.openRows
  rw [imgC_set m vs hk (by omega) (x := x) (p := { vs k with log := u, cs := css }) (by subst hx; rfl)] at h1
  refine ⟨{ vs k with log := u, cs := css }, rfl, ?_⟩
  have h2 := h1.dn2
  exact (h2.swap.up2.swap.pers2 (fun w' h3 h4 => upd_reg h3 ⟨fun j hj => by subst hx; exact (h3 k hk).b j hj, by subst hx; exact h4⟩)).swap
theorem imgC_log_at (m : Nat → Rg) (vs : Nat → RV) {k : Nat} (hk : k < 4) (u : Value) : ((imgC m vs).setIfInBounds (k * 7 + 6) u)[k * 7 + 6]? = some u := by
  rw [Array.getElem?_setIfInBounds, if_pos rfl, if_pos (show k * 7 + 6 < (imgC m vs).size from (by omega : k * 7 + 6 < 28))]
end

theorem Rd.img_rest (r : Rd) (k i : Nat) (h : k ≤ i) : (r.img k).1 i = Rg.zero := by
  induction k with
  | zero => rfl
  | succ k ih =>
    show upd (r.img k).1 k _ i = _
    rw [upd_ne _ _ _ _ (by omega), ih (by omega)]
theorem shortB_all (l : List (List Int)) (x : List Int) : (l ++ [x]).all shortB = (l.all shortB && shortB x) := by simp
theorem imgOk_far (m : Nat → Rg) (k j : Nat) (x : Rg) (h : j ≤ k) : imgOk (upd m k x) j = imgOk m j := by
  induction j with
  | zero => rfl
  | succ j ih => rw [imgOk_succ, imgOk_succ, ih (by omega), upd_ne _ _ _ _ (by omega)]
theorem blkOk_far (b : Nat → List Int) (k j : Nat) (x : List Int) (h : j ≤ k) : blkOk (upd b k x) j = blkOk b j := by
  induction j with
  | zero => rfl
  | succ j ih => rw [blkOk_succ, blkOk_succ, ih (by omega), upd_ne _ _ _ _ (by omega)]
theorem blkOk_next (b : Nat → List Int) (j : Nat) (x : List Int) : blkOk (upd b j x) (j + 1) = (blkOk b j && shortB x) := by
  rw [blkOk_succ, blkOk_far _ _ _ _ (Nat.le_refl _), upd_at]
theorem img_next (r : Rd) (k : Nat) (ok : Bool) (h : ok = (imgOk (r.img k).1 k && blkOk (r.img k).2.h3.1 4 && (r.img k).2.h5.1.all shortB)) :
    imgOk (r.img (k + 1)).1 (k + 1) = (ok && decide ((r.img k).2.h5.1.length ≤ 4) && (decide (0 < (r.img k).2.h1.1) || (r.img k).2.h2.1 == 0)) := by
  show imgOk (upd (r.img k).1 k (r.img k).2.rg) (k + 1) = _
  rw [imgOk_succ, imgOk_far _ _ _ _ (Nat.le_refl _), upd_at, h]
  show (_ && (_ && _ && _ && _)) = _
  simp only [Bool.and_assoc]
  rfl
theorem region_sum (r : Rd) (k : Nat) : (r.img (k + 1)).1 = upd (r.img k).1 k ⟨(r.img k).2.h1.1, (r.img k).2.h2.1, (r.img k).2.h3.1, (r.img k).2.h5.1⟩ := rfl
end Go.Proofs.YtpaelngpmbeedaaGreatDoor
