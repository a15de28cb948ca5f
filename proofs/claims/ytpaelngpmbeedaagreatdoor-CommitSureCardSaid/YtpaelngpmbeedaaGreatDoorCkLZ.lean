/- slot.records, slot.last: the records of both sectors, and the last one. -/
import Derived.Test.YtpaelngpmbeedaaGreatDoorCkSZ
import Derived.Test.YtpaelngpmbeedaaGreatDoorDiskZ
import Derived.Test.YtpaelngpmbeedaaGreatDoorStZ
import Derived.Test.YtpaelngpmbeedaaGreatDoorFlowZ
namespace Go.Proofs.YtpaelngpmbeedaaGreatDoor
open Go.RowKit Go.Shelf
attribute [local go_sem] Oper.semAt_some

/-! ### plain -/
structure RcM where
  at_ : Int
  q : Int
  b : List Int
def recM (D : DS) (i : Int) : PM := parseM (D.read i)
def isRec (p : PM) : Bool := p.ok && (p.e == 0)
def pickM (D : DS) (i : Int) (o : RcM) : RcM := if isRec (recM D i) = true ∧ (recM D i).q > o.q then ⟨i, (recM D i).q, (recM D i).b⟩ else o
def lastTo (D : DS) (a : Int) : Nat → RcM
  | 0 => ⟨a + 1, 0, []⟩
  | j + 1 => pickM D (a + j) (lastTo D a j)
def lastM (D : DS) (a : Int) : RcM := lastTo D a 2
theorem DS.read_bytes {D : DS} (h : Bytes D.seen) (i : Int) : Bytes (D.read i) := by
  unfold DS.read
  split
  · exact Bytes.nil
  · exact (h.drop _).take _
theorem DS.read_len (D : DS) (i : Int) : (D.read i).length ≤ 64 := by
  unfold DS.read
  split
  · simp
  · unfold DS.at_
    rw [List.length_take]
    omega
theorem parseM_range {s : List Int} (h : Bytes s) : 0 ≤ (parseM s).q ∧ (parseM s).q < 4294967296 ∧ 0 ≤ (parseM s).e ∧ (parseM s).e < 4294967296 ∧ (parseM s).b.length ≤ 43 := by
  unfold parseM
  split
  · rename_i hf
    refine ⟨(at4_range h 0).1, (at4_range h 0).2, (at4_range h 4).1, (at4_range h 4).2, ?_⟩
    show (bodyM s).length ≤ 43
    unfold bodyM
    rw [List.length_take]
    unfold fineM at hf
    simp only [Bool.and_eq_true, Bool.not_eq_true', Bool.or_eq_false_iff, decide_eq_false_iff_not] at hf
    omega
  · refine ⟨by decide, by decide, by decide, by decide, by simp⟩
theorem parseM_bytes {s : List Int} (h : Bytes s) : Bytes (parseM s).b := by
  unfold parseM
  split
  · exact (h.drop _).take _
  · exact Bytes.nil
theorem lastTo_range {D : DS} (h : Bytes D.seen) (a : Int) : ∀ j, 0 ≤ (lastTo D a j).q ∧ (lastTo D a j).q < 4294967296 ∧ (lastTo D a j).b.length ≤ 43 ∧ Bytes (lastTo D a j).b
  | 0 => ⟨Int.le_refl 0, by show (0 : Int) < 4294967296; decide, by simp [lastTo], Bytes.nil⟩
  | j + 1 => by
    unfold lastTo pickM
    split
    · have := parseM_range (DS.read_bytes h (a + j))
      exact ⟨this.1, this.2.1, this.2.2.2.2, parseM_bytes (DS.read_bytes h (a + j))⟩
    · exact lastTo_range h a j
theorem lastTo_at (D : DS) (a : Int) : ∀ j, j ≤ 2 → (lastTo D a j).at_ = a ∨ (lastTo D a j).at_ = a + 1
  | 0, _ => .inr rfl
  | 1, _ => by
    unfold lastTo pickM
    split
    · left
      show a + ((0 : Nat) : Int) = a
      omega
    · exact lastTo_at D a 0 (by omega)
  | 2, _ => by
    unfold lastTo pickM
    split
    · exact .inr rfl
    · exact lastTo_at D a 1 (by omega)
  | j + 3, h => by omega

/-! ### in memory -/
def outR (g : Nat) (o : RcM) : Res := exR fun v => starR (blkR g 188 #[.int .i64 o.at_, .int .u32 o.q, v]) (intsR .u8 v o.b)
theorem St.outO {M0 : Imm} {w : World} {L : List Res} {g : Nat} {o : RcM} (h : St M0 w (outR g o :: L)) : ∃ A c, St M0 w (blkR g 188 #[.int .i64 o.at_, .int .u32 o.q, .slice A o.b.length c] :: intsR .u8 (.slice A o.b.length c) o.b :: L) := by
  obtain ⟨v, h⟩ := h.ex
  have h1 := h.star
  obtain ⟨A, c, rfl, _⟩ := h1.get 1 rfl
  exact ⟨A, c, h1⟩
theorem St.outC {M0 : Imm} {w : World} {L : List Res} {g : Nat} {v : Value} {o : RcM} (h : St M0 w (blkR g 188 #[.int .i64 o.at_, .int .u32 o.q, v] :: intsR .u8 v o.b :: L)) : St M0 w (outR g o :: L) := St.addEx v h.addStar

set_option maxHeartbeats 2000000 in
set_option maxRecDepth 100000 in
theorem rclo_st {M0 : Imm} (hT : Tbl M0) (g : Nat) (D : DS) (a : Int) (ba bd lr m : Nat) (T : Nat → List Res) (w : World) (ho : D.ok) (hb : Bytes D.seen) (ha : 0 ≤ a ∧ a ≤ 100000)
    (hN : ∀ j, j < 2 → isRec (recM D (a + (j : Nat))) = false → T (j + 1) = T j)
    (hY : ∀ (j : Nat) (W : World) (A' : Option Addr) (c' : Nat), j < 2 → isRec (recM D (a + (j : Nat))) = true → St M0 W (intsR .u8 (.slice A' (recM D (a + (j : Nat))).b.length c') (recM D (a + (j : Nat))).b :: blkR ba 3 #[.int .i64 a] :: blkR bd 25 #[.pointer (some ⟨g, 0, none⟩)] :: dsR g D :: T j) →
      YieldAt Fence.wide (m - 1) Tryz.prog lr #[.agg #[.int .i64 (a + (j : Nat)), .int .u32 (recM D (a + (j : Nat))).q, .slice A' (recM D (a + (j : Nat))).b.length c']] W fun e W' => e = .returned (.bool true) ∧ St M0 W' (blkR ba 3 #[.int .i64 a] :: blkR bd 25 #[.pointer (some ⟨g, 0, none⟩)] :: dsR g D :: T (j + 1)))
    (h : St M0 w (blkR ba 3 #[.int .i64 a] :: blkR bd 25 #[.pointer (some ⟨g, 0, none⟩)] :: dsR g D :: T 0)) :
    CallsIn Fence.wide m Tryz.prog 113 #[.func (.yield lr) #[] #[], .pointer (some ⟨ba, 0, none⟩), .pointer (some ⟨bd, 0, none⟩)] w fun e w' => (∃ v, e = .returned v) ∧ St M0 w' (blkR ba 3 #[.int .i64 a] :: blkR bd 25 #[.pointer (some ⟨g, 0, none⟩)] :: dsR g D :: T 2) := by
  have HY := hide hY
  have HNN := hide hN
  have HO := hide ho
  have HB := hide hb
  have H := hide h
  have y0 := (h.blk 0 rfl).cell 0
  clear h hY hN ho hb
  refine callsIn_of_wp Tryz.func113 rfl trivial ?_ rfl
  simp only [Tryz.ntmps113, List.size_toArray, List.length_cons, List.length_nil, Nat.reduceAdd, Nat.reduceSub, Array.replicate_succ, Array.replicate_zero, List.push_toArray, List.append_toArray, List.nil_append, List.cons_append]
  gi_wp2_with fail
  clear y0
  gi_loopw [4] (fun i wr => ∃ (j : Nat) (k : Int), k = a + (j : Nat) ∧ j ≤ 2 ∧ i = .int .i64 k ∧ St M0 wr (blkR ba 3 #[.int .i64 a] :: blkR bd 25 #[.pointer (some ⟨g, 0, none⟩)] :: dsR g D :: T j)) (fun i _ => (a + 2 - intOf i).toNat)
  case atStart => exact ⟨0, a, by omega, by omega, rfl, H.out⟩
  case round =>
    clear H
    obtain ⟨j, k, hk, hj, rfl, h⟩ := hrel
    have y0 := (h.blk 0 rfl).cell 0
    have y1 := (h.blk 1 rfl).cell 0
    have HYj := hide (fun W A' c' => HY.out j W A' c')
    have HNj := hide (HNN.out j)
    rw [← hk] at HYj HNj
    have HK := hide hk
    have H := hide h
    have hk0 : 0 ≤ k := by omega
    have hk1 : k ≤ 200000 := by omega
    have wa : IntKind.i64.wrap (a + 1) = a + 1 := IntWalk.i64_in _ (by omega)
    by_cases hlt : j < 2
    · have d1 : decide (k ≤ a + 1) = true := decide_eq_true (by omega)
      clear h hk
      gi_wp2_with fail
      refine ⟨trivial, fun hd => by simp [Fence.wide] at hd, (callsIn_wide.2 (read_ints k HO.out (H.out.front (X := dsR g D) (by (repeat (first | with_reducible exact At.here | with_reducible apply At.there)))))).mono ?_⟩
      rintro e w1 ⟨A1, c1, rfl, h⟩
      have H1 := hide h
      clear h H y0 y1
      gi_wp2_with fail
      refine ⟨trivial, fun hd => by simp [Fence.wide] at hd, (callsIn_wide.2 (parse_st hT A1 _ c1 _ _ (DS.read_bytes HB.out k) (by have := DS.read_len D k; omega) H1.out)).mono ?_⟩
      rintro e w2 ⟨A2, c2, rfl, h⟩
      have hpe : recM D k = parseM (D.read k) := rfl
      rw [← hpe] at h ⊢
      have H2 := hide (h.sub (L' := intsR .u8 (.slice A2 (recM D k).b.length c2) (recM D k).b :: blkR ba 3 #[.int .i64 a] :: blkR bd 25 #[.pointer (some ⟨g, 0, none⟩)] :: dsR g D :: T j) (by (repeat (first | with_reducible exact Sub.refl _ | (with_reducible apply Sub.take; focus (repeat (first | with_reducible exact At.here | with_reducible apply At.there))) | with_reducible apply Sub.drop))))
      clear h H1 hpe
      have hrec : isRec (recM D k) = ((recM D k).ok && ((recM D k).e == 0)) := rfl
      have HYj := hide (fun hr => HYj.out w2 A2 c2 hlt hr H2.out)
      have HNj := hide (HNj.out hlt)
      have y0 := (H2.out.blk 1 rfl).cell 0
      obtain ⟨b1, hb1⟩ : ∃ b1, (recM D k).ok = b1 := ⟨_, rfl⟩
      obtain ⟨b2, hb2⟩ : ∃ b2, ((recM D k).e == 0) = b2 := ⟨_, rfl⟩
      rw [hb1, hb2] at hrec
      rw [hb1]
      by_cases hbb : (b1 && b2) = true
      · obtain ⟨fn, tm, asg, bd', hy, hR⟩ := HYj.out (hrec.trans hbb)
        have hb12 : b1 = true ∧ b2 = true := by simpa using hbb
        obtain ⟨rfl, rfl⟩ := hb12
        generalize (recM D k).q = pq at *
        generalize (recM D k).e = pe at *
        generalize (recM D k).b = pb at *
        clear hbb hrec HYj HNj hb1
        gi_wp2_with fail
        refine ⟨fun hd => by simp [Fence.wide] at hd, hR.mono ?_⟩
        rintro e W3 ⟨rfl, h3⟩
        have H3 := hide h3
        clear h3 hR hy H2 y0
        gi_wp2_with fail
        go_roundw
        case rel => exact ⟨j + 1, k + 1, by have := HK.out; omega, by omega, by go_num, H3.out⟩
        case measure => have := HK.out; simp [intOf]; omega
      · have HF := hide (HNj.out (by rw [hrec]; simpa using hbb))
        have H3 := hide (show St M0 w2 (blkR ba 3 #[.int .i64 a] :: blkR bd 25 #[.pointer (some ⟨g, 0, none⟩)] :: dsR g D :: T (j + 1)) by rw [HF.out]; exact H2.out.tail)
        generalize (recM D k).q = pq at *
        generalize (recM D k).e = pe at *
        generalize (recM D k).b = pb at *
        clear hrec HYj HNj hb1 H2
        cases b1
        case' true => cases b2
        case' true.true => exact absurd rfl hbb
        all_goals
          clear hbb
          gi_wp2_with fail
          refine ⟨fun f hf => (by cases hf), ?_⟩
          gi_wp2_with fail
          go_roundw
          case rel => exact ⟨j + 1, k + 1, by have := HK.out; omega, by omega, by go_num, H3.out⟩
          case measure => have := HK.out; simp [intOf]; omega
    · have hj2 : j = 2 := by omega
      subst hj2
      have d1 : decide (k ≤ a + 1) = false := decide_eq_false (by omega)
      have H3 := hide h
      clear h hk HYj HNj H
      gi_wp2_with fail
      go_end0
      exact ⟨⟨_, rfl⟩, H3.out⟩
theorem records_st {M0 : Imm} {L : List Res} (g : Nat) (a : Int) (w : World) (h : St M0 w L) :
    Calls Tryz.prog 111 #[.pointer (some ⟨g, 0, none⟩), .int .i64 a] w fun e w' => ∃ ba bd, e = .returned (.func (.func 113) #[] #[.pointer (some ⟨ba, 0, none⟩), .pointer (some ⟨bd, 0, none⟩)]) ∧ St M0 w' (blkR ba 3 #[.int .i64 a] :: blkR bd 25 #[.pointer (some ⟨g, 0, none⟩)] :: L) := by
  have H := hide ((h.alloc 25 #[.pointer (some ⟨g, 0, none⟩)]).alloc 3 #[.int .i64 a])
  clear h
  go_enter Tryz.func111, Tryz.ntmps111
  go_wp2_with fail
  go_ret
  exact ⟨_, _, rfl, by have h := H.out; rwa [World.size_alloc] at h⟩
end Go.Proofs.YtpaelngpmbeedaaGreatDoor
/- slot.last: the last record. -/
namespace Go.Proofs.YtpaelngpmbeedaaGreatDoor
open Go.RowKit Go.Shelf
attribute [local go_sem] Oper.semAt_some

/-- a round that goes on; what is ranged over is laid in memory of its own -/
theorem yield_st2 {P : Program} {lr D : Nat} {fn : FuncId} {tmps args : Array Value} {ps : Array Tmp} {assign body : Code} {M0 : Imm} {W : World} {L : List Res} {n : Nat} (L' : List Res) (Pa : Act → List Res → Prop)
    (h : St M0 W (objR lr (.loop (recL fn tmps ps assign body D .ready)) :: L)) (hs : args.size = ps.size)
    (hassign : ∀ (K : Act → World → Prop), (∀ (a₁ : Act) (W1 : World) (L1 : List Res), Pa a₁ L1 → St M0 W1 (objR lr (.loop (recL fn tmps ps assign body D .ready)) :: L1) → K a₁ W1) → assign.wpIn (Fence.wide.inRound lr) n P (Exit.then K (fun _ _ _ => False)) { tmps := (ps.zip args).foldl (fun t (p, v) => t.setIfInBounds p v) tmps, defers := [] } W)
    (hbody : ∀ (a₁ : Act) (W1 : World) (L1 : List Res), Pa a₁ L1 → St M0 W1 (objR lr (.loop (recL fn tmps ps assign body D .busy)) :: L1) → body.wpIn (Fence.wide.inRound lr) n P (fun e _ W2 => e = .normal ∧ St M0 W2 (objR lr (.loop (recL fn tmps ps assign body D .busy)) :: L')) a₁ W1) :
    YieldAt Fence.wide n P lr args W fun e W2 => e = .returned (.bool true) ∧ St M0 W2 (objR lr (.loop (recL fn tmps ps assign body D .ready)) :: L') := by
  have hl := h.obj 0 rfl
  refine ⟨fn, _, assign, body, run_yield hl hs, roundIn_of_wpIn trivial (hassign _ (fun a₁ W1 L1 hP h1 => ⟨_, run_beginRound (h1.obj 0 rfl) rfl, ?_⟩))⟩
  refine wpIn_mono (hbody a₁ _ L1 hP (h1.putO _)) ?_
  rintro e a3 W3 ⟨rfl, h3⟩
  have hl3 := h3.obj 0 rfl
  exact ⟨_, _, run_endRound none hl3, rfl, h3.putO _⟩
theorem results_cellA {fn : Func} {t : Nat} {ty : TypeId} {P : Program} {w : World} {v : Value} {a : Addr} (h : fn.results = #[.cell t ty]) (tmps : Array Value) (ha : tmps.getD t undef = .pointer (some a)) (hl : (loadVar ty a).run P w = .ok v w) :
    (results fn tmps).run P w = .ok v w := by
  have ha' : tmps[t]?.getD undef = .pointer (some a) := by simpa using ha
  simp [results, h, ha', asAddr, hl]
theorem St.objA {M0 : Imm} {w : World} {L R : List Res} {b : Nat} {o : Obj} (h : St M0 w L) (hi : At (objR b o) L R) : w.heap[b]? = some o := by
  obtain ⟨m, hm⟩ := hi.idx
  exact h.obj m hm
set_option maxHeartbeats 2000000 in
set_option maxRecDepth 100000 in
theorem last_st {M0 : Imm} {L : List Res} (hT : Tbl M0) (g : Nat) (D : DS) (a : Int) (w : World) (ho : D.ok) (hb : Bytes D.seen) (ha : 0 ≤ a ∧ a ≤ 100000) (h : St M0 w (dsR g D :: L)) :
    Calls Tryz.prog 102 #[.pointer (some ⟨g, 0, none⟩), .int .i64 a] w fun e w' => ∃ A c, e = .returned (.agg #[.int .i64 (lastM D a).at_, .int .u32 (lastM D a).q, .slice A (lastM D a).b.length c]) ∧ St M0 w' (intsR .u8 (.slice A (lastM D a).b.length c) (lastM D a).b :: dsR g D :: L) := by
  have wa : IntKind.i64.wrap (a + 1) = a + 1 := IntWalk.i64_in _ (by omega)
  have h1 := h.alloc 188 #[.int .i64 0, .int .u32 0, .slice none 0 0]
  have h2 := (h1.pers0 (R := fun w => Ints w .u8 (.slice none 0 0) []) (fun w' _ => Ints.none_ w' .u8)).alloc 188 #[.int .i64 (a + 1), .int .u32 0, .slice none 0 0]
  rw [World.size_alloc] at h2
  have H := hide (show St M0 _ (outR (w.heap.size + 1) (lastTo D a 0) :: blkR w.heap.size 188 #[.int .i64 0, .int .u32 0, .slice none 0 0] :: dsR g D :: L) from St.outC (o := lastTo D a 0) (h2.sub (L' := blkR (w.heap.size + 1) 188 #[.int .i64 (a + 1), .int .u32 0, .slice none 0 0] :: intsR .u8 (.slice none 0 0) [] :: blkR w.heap.size 188 #[.int .i64 0, .int .u32 0, .slice none 0 0] :: dsR g D :: L) (by (repeat (first | with_reducible exact Sub.refl _ | (with_reducible apply Sub.take; focus (repeat (first | with_reducible exact At.here | with_reducible apply At.there))) | with_reducible apply Sub.drop)))))
  have HO := hide ho
  have HB := hide hb
  clear h ho hb h1 h2
  refine (callsIn_wide (n := 12)).1 ?_
  refine callsIn_of_wp_marks Tryz.func102 rfl trivial ?_ rfl
  simp only [Tryz.ntmps102, List.size_toArray, List.length_cons, List.length_nil, Nat.reduceAdd, Nat.reduceSub, Array.replicate_succ, Array.replicate_zero, List.push_toArray, List.append_toArray, List.nil_append, List.cons_append]
  gi_wp2_with fail
  refine ⟨trivial, (callsIn_wide.2 (records_st g a _ H.out)).mono ?_⟩
  rintro e w1 ⟨ba, bd, rfl, h⟩
  obtain ⟨gr, hgr⟩ : ∃ gr, gr = w.heap.size := ⟨_, rfl⟩
  obtain ⟨go, hgo⟩ : ∃ go, go = w.heap.size + 1 := ⟨_, rfl⟩
  rw [← hgo, ← hgr] at h
  rw [← hgo, ← hgr]
  have H1 := hide h
  clear h H hgr hgo
  gi_wp2_with fail
  refine rangeFunc_st (n := 12) (gf := 113) (lb := #[.pointer (some ⟨ba, 0, none⟩), .pointer (some ⟨bd, 0, none⟩)]) rfl (enters_of Tryz.func113 (by kernel_rfl) rfl) H1.out ?_
  intro fn lr D1 W1 hW1
  refine (rclo_st hT g D a ba bd lr 11 (fun j => objR lr (.loop _) :: objR D1 (.deferred (some [])) :: outR go (lastTo D a j) :: blkR gr 188 #[.int .i64 0, .int .u32 0, .slice none 0 0] :: L) W1 HO.out HB.out ha ?_ ?_ (hW1.sub (by (repeat (first | with_reducible exact Sub.refl _ | (with_reducible apply Sub.take; focus (repeat (first | with_reducible exact At.here | with_reducible apply At.there))) | with_reducible apply Sub.drop))))).mono ?_
  · intro j hj hr
    show objR lr _ :: objR D1 _ :: outR go (lastTo D a (j + 1)) :: _ = objR lr _ :: objR D1 _ :: outR go (lastTo D a j) :: _
    rw [show lastTo D a (j + 1) = lastTo D a j from if_neg (by rw [hr]; simp)]
  · intro j W A' c' hj hr hW
    have key := yield_st2 (P := Tryz.prog) (n := 10) (L' := objR D1 (.deferred (some [])) :: blkR ba 3 #[.int .i64 a] :: blkR bd 25 #[.pointer (some ⟨g, 0, none⟩)] :: dsR g D :: outR go (lastTo D a (j + 1)) :: blkR gr 188 #[.int .i64 0, .int .u32 0, .slice none 0 0] :: L) (fun a₁ L1 => ∃ gx : Nat, a₁ = { tmps := #[.pointer (some ⟨g, 0, none⟩), .int .i64 a, undef, undef, .pointer (some ⟨gr, 0, none⟩), .pointer (some ⟨go, 0, none⟩), .pointer (some ⟨gx, 0, none⟩), .int .i64 a, .int .i64 (a + 1), .agg #[.int .i64 (a + 1), .int .u32 0, .slice none 0 0], .pointer (some ⟨g, 0, none⟩), .int .i64 a, .func (.func 113) #[] #[.pointer (some ⟨ba, 0, none⟩), .pointer (some ⟨bd, 0, none⟩)], .agg #[.int .i64 (a + (j : Nat)), .int .u32 (recM D (a + (j : Nat))).q, .slice A' (recM D (a + (j : Nat))).b.length c'], undef, undef, undef, undef, undef, undef, undef], defers := [] } ∧ L1 = blkR gx 188 #[.int .i64 (a + (j : Nat)), .int .u32 (recM D (a + (j : Nat))).q, .slice A' (recM D (a + (j : Nat))).b.length c'] :: intsR .u8 (.slice A' (recM D (a + (j : Nat))).b.length c') (recM D (a + (j : Nat))).b :: objR D1 (.deferred (some [])) :: blkR ba 3 #[.int .i64 a] :: blkR bd 25 #[.pointer (some ⟨g, 0, none⟩)] :: dsR g D :: outR go (lastTo D a j) :: blkR gr 188 #[.int .i64 0, .int .u32 0, .slice none 0 0] :: L) (args := #[.agg #[.int .i64 (a + (j : Nat)), .int .u32 (recM D (a + (j : Nat))).q, .slice A' (recM D (a + (j : Nat))).b.length c']]) (hW.front (by (repeat (first | with_reducible exact At.here | with_reducible apply At.there)))) rfl ?_ ?_
    · obtain ⟨fn', tm', as', bd', hy, hR⟩ := key
      refine ⟨fn', tm', as', bd', hy, hR.mono ?_⟩
      rintro e W' ⟨he, h4⟩
      exact ⟨he, h4.sub (by (repeat (first | with_reducible exact Sub.refl _ | (with_reducible apply Sub.take; focus (repeat (first | with_reducible exact At.here | with_reducible apply At.there))) | with_reducible apply Sub.drop)))⟩
    · intro K hK
      gi_wp2
      exact hK _ _ _ ⟨W.heap.size, rfl, rfl⟩ ((hW.alloc 188 #[.int .i64 (a + (j : Nat)), .int .u32 (recM D (a + (j : Nat))).q, .slice A' (recM D (a + (j : Nat))).b.length c']).sub (by (repeat (first | with_reducible exact Sub.refl _ | (with_reducible apply Sub.take; focus (repeat (first | with_reducible exact At.here | with_reducible apply At.there))) | with_reducible apply Sub.drop))))
    · rintro a₁ W2 L1 ⟨gx, rfl, rfl⟩ h2
      have E := hide (show lastTo D a (j + 1) = if isRec (recM D (a + (j : Nat))) = true ∧ (recM D (a + (j : Nat))).q > (lastTo D a j).q then ⟨a + (j : Nat), (recM D (a + (j : Nat))).q, (recM D (a + (j : Nat))).b⟩ else lastTo D a j from rfl)
      have HR := hide hr
      clear hr hW
      generalize recM D (a + (j : Nat)) = p at *
      generalize lastTo D a (j + 1) = o2 at *
      generalize lastTo D a j = o at *
      have h3 := h2.front (X := outR go o) (by (repeat (first | with_reducible exact At.here | with_reducible apply At.there)))
      obtain ⟨A3, c3, h4⟩ := h3.outO
      have y1 := (h4.blk 0 rfl).cell 1
      have x1 := (h4.blkA (g := gx) (t := 188) (cs := #[.int .i64 (a + (j : Nat)), .int .u32 p.q, .slice A' p.b.length c']) (by (repeat (first | with_reducible exact At.here | with_reducible apply At.there)))).cell 1
      by_cases hgt : p.q > o.q
      · have d1 : decide (p.q > o.q) = true := decide_eq_true hgt
        have d1' : decide (o.q < p.q) = true := d1
        have x0 := (h4.blkA (g := gx) (t := 188) (cs := #[.int .i64 (a + (j : Nat)), .int .u32 p.q, .slice A' p.b.length c']) (by (repeat (first | with_reducible exact At.here | with_reducible apply At.there)))).cell 0
        have x2 := (h4.blkA (g := gx) (t := 188) (cs := #[.int .i64 (a + (j : Nat)), .int .u32 p.q, .slice A' p.b.length c']) (by (repeat (first | with_reducible exact At.here | with_reducible apply At.there)))).cell 2
        have y0 := (h4.blk 0 rfl).cell 0
        have y2 := (h4.blk 0 rfl).cell 2
        have f := (h4.blk 0 rfl).frozen
        have H4 := hide h4
        have E2 := hide (E.out.trans (if_pos ⟨HR.out, hgt⟩))
        clear h2 h3 h4 hgt E
        gi_wp2_with fail
        rw [E2.out]
        have h5 := ((H4.out.put_ 0 (.int .i64 (a + (j : Nat))) #[.int .i64 (a + (j : Nat)), .int .u32 o.q, .slice A3 o.b.length c3]).put_ 1 (.int .u32 p.q) #[.int .i64 (a + (j : Nat)), .int .u32 p.q, .slice A3 o.b.length c3]).put_ 2 (.slice A' p.b.length c') #[.int .i64 (a + (j : Nat)), .int .u32 p.q, .slice A' p.b.length c']
        exact (St.outC (v := .slice A' p.b.length c') (o := ⟨a + (j : Nat), p.q, p.b⟩) (h5.sub (L' := blkR go 188 #[.int .i64 (a + (j : Nat)), .int .u32 p.q, .slice A' p.b.length c'] :: intsR .u8 (.slice A' p.b.length c') p.b :: objR lr _ :: objR D1 (.deferred (some [])) :: blkR ba 3 #[.int .i64 a] :: blkR bd 25 #[.pointer (some ⟨g, 0, none⟩)] :: dsR g D :: blkR gr 188 #[.int .i64 0, .int .u32 0, .slice none 0 0] :: L) (by (repeat (first | with_reducible exact Sub.refl _ | (with_reducible apply Sub.take; focus (repeat (first | with_reducible exact At.here | with_reducible apply At.there))) | with_reducible apply Sub.drop))))).sub (by (repeat (first | with_reducible exact Sub.refl _ | (with_reducible apply Sub.take; focus (repeat (first | with_reducible exact At.here | with_reducible apply At.there))) | with_reducible apply Sub.drop)))
      · have d1 : decide (p.q > o.q) = false := decide_eq_false hgt
        have d1' : decide (o.q < p.q) = false := d1
        have E2 := hide (E.out.trans (if_neg (fun h => hgt h.2)))
        have H4 := hide h4
        clear h2 h3 h4 hgt E
        gi_wp2_with fail
        rw [E2.out]
        exact (St.outC (o := o) (H4.out.sub (L' := blkR go 188 #[.int .i64 o.at_, .int .u32 o.q, .slice A3 o.b.length c3] :: intsR .u8 (.slice A3 o.b.length c3) o.b :: objR lr _ :: objR D1 (.deferred (some [])) :: blkR ba 3 #[.int .i64 a] :: blkR bd 25 #[.pointer (some ⟨g, 0, none⟩)] :: dsR g D :: blkR gr 188 #[.int .i64 0, .int .u32 0, .slice none 0 0] :: L) (by (repeat (first | with_reducible exact Sub.refl _ | (with_reducible apply Sub.take; focus (repeat (first | with_reducible exact At.here | with_reducible apply At.there))) | with_reducible apply Sub.drop))))).sub (by (repeat (first | with_reducible exact Sub.refl _ | (with_reducible apply Sub.take; focus (repeat (first | with_reducible exact At.here | with_reducible apply At.there))) | with_reducible apply Sub.drop)))
  · rintro e W2 ⟨he, h2⟩
    refine ⟨he, _, h2.sub (L' := objR lr (.loop _) :: objR D1 (.deferred (some [])) :: outR go (lastTo D a 2) :: blkR gr 188 #[.int .i64 0, .int .u32 0, .slice none 0 0] :: dsR g D :: L) (by (repeat (first | with_reducible exact Sub.refl _ | (with_reducible apply Sub.take; focus (repeat (first | with_reducible exact At.here | with_reducible apply At.there))) | with_reducible apply Sub.drop))), ?_⟩
    intro W3 h3
    obtain ⟨A5, c5, h4⟩ := (h3.front (X := outR go (lastTo D a 2)) (by (repeat (first | with_reducible exact At.here | with_reducible apply At.there)))).outO
    have y0 := (h4.blk 0 rfl).cell 0
    have y1 := (h4.blk 0 rfl).cell 1
    have y2 := (h4.blk 0 rfl).cell 2
    have z0 := (h4.blkA (g := gr) (t := 188) (cs := #[.int .i64 0, .int .u32 0, .slice none 0 0]) (by (repeat (first | with_reducible exact At.here | with_reducible apply At.there)))).cell 0
    have z1 := (h4.blkA (g := gr) (t := 188) (cs := #[.int .i64 0, .int .u32 0, .slice none 0 0]) (by (repeat (first | with_reducible exact At.here | with_reducible apply At.there)))).cell 1
    have z2 := (h4.blkA (g := gr) (t := 188) (cs := #[.int .i64 0, .int .u32 0, .slice none 0 0]) (by (repeat (first | with_reducible exact At.here | with_reducible apply At.there)))).cell 2
    have f := (h4.blkA (g := gr) (t := 188) (cs := #[.int .i64 0, .int .u32 0, .slice none 0 0]) (by (repeat (first | with_reducible exact At.here | with_reducible apply At.there)))).frozen
    have hD := h4.objA (o := .deferred (some [])) (b := D1) (by (repeat (first | with_reducible exact At.here | with_reducible apply At.there)))
    have E := hide (show lastM D a = lastTo D a 2 from rfl)
    generalize lastTo D a 2 = o at *
    have H6 := hide h4
    clear h3 h4 h2
    gi_wp2_with fail
    have h7 := (((H6.out.front (X := blkR gr 188 #[.int .i64 0, .int .u32 0, .slice none 0 0]) (by (repeat (first | with_reducible exact At.here | with_reducible apply At.there)))).put_ 0 (.int .i64 o.at_) #[.int .i64 o.at_, .int .u32 0, .slice none 0 0]).put_ 1 (.int .u32 o.q) #[.int .i64 o.at_, .int .u32 o.q, .slice none 0 0]).put_ 2 (.slice A5 o.b.length c5) #[.int .i64 o.at_, .int .u32 o.q, .slice A5 o.b.length c5]
    have hD2 := h7.objA (o := .deferred (some [])) (b := D1) (by (repeat (first | with_reducible exact At.here | with_reducible apply At.there)))
    refine ⟨by simp, .inl ⟨_, _, rfl, run_takeDeferred hD2, ?_⟩⟩
    have h8 := (h7.front (X := objR D1 (.deferred (some []))) (by (repeat (first | with_reducible exact At.here | with_reducible apply At.there)))).putO (.deferred none)
    have c0 := (h8.blkA (g := gr) (t := 188) (cs := #[.int .i64 o.at_, .int .u32 o.q, .slice A5 o.b.length c5]) (by (repeat (first | with_reducible exact At.here | with_reducible apply At.there)))).cell 0
    have c1 := (h8.blkA (g := gr) (t := 188) (cs := #[.int .i64 o.at_, .int .u32 o.q, .slice A5 o.b.length c5]) (by (repeat (first | with_reducible exact At.here | with_reducible apply At.there)))).cell 1
    have c2 := (h8.blkA (g := gr) (t := 188) (cs := #[.int .i64 o.at_, .int .u32 o.q, .slice A5 o.b.length c5]) (by (repeat (first | with_reducible exact At.here | with_reducible apply At.there)))).cell 2
    refine ⟨.agg #[.int .i64 o.at_, .int .u32 o.q, .slice A5 o.b.length c5], results_cellA rfl _ rfl (by go_simp; try rfl), A5, c5, by rw [E.out], ?_⟩
    rw [E.out]
    exact h8.sub (by (repeat (first | with_reducible exact Sub.refl _ | (with_reducible apply Sub.take; focus (repeat (first | with_reducible exact At.here | with_reducible apply At.there))) | with_reducible apply Sub.drop)))
end Go.Proofs.YtpaelngpmbeedaaGreatDoor
