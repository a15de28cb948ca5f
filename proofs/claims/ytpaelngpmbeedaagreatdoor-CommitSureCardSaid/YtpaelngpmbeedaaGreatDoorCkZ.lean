/- vault.Save. Printed by gen_ckz.py out of ckz.in. -/
import Derived.Test.YtpaelngpmbeedaaGreatDoorCkXZ
import Derived.Test.YtpaelngpmbeedaaGreatDoorFlowZ
namespace Go.Proofs.YtpaelngpmbeedaaGreatDoor
open Go.RowKit Go.Shelf
attribute [local go_sem] Oper.semAt_some

/-! ### plain -/
def partB (b : List Int) (j : Nat) : List Int := (b.drop (43 * j)).take 43
def svI (a ar : Int) (j : Nat) : Int := a + 2 + ar * 21 + (j : Nat)
def svGo (D : DS) (a ar nu : Int) (b : List Int) : Nat → DS × Int
  | 0 => (D, 0)
  | j + 1 => if (svGo D a ar nu b j).2 = 0 then ((svGo D a ar nu b j).1.write (svI a ar j) (stampM (((j : Nat) : Int) + 1) nu (partB b j)), (svGo D a ar nu b j).1.writeE (svI a ar j) (stampM (((j : Nat) : Int) + 1) nu (partB b j))) else svGo D a ar nu b j
def vMark (D : DS) (a : Int) (b : List Int) : MkM := ⟨1 - (markM D a).ar, (markM D a).nu + 1, (b.length : Nat), true⟩
def vSaveG (D : DS) (a : Int) (b : List Int) : DS × Int := svGo D a (vMark D a b).ar (vMark D a b).nu b ((b.length + 42) / 43)
def vSaveE (D : DS) (a : Int) (b : List Int) : Int := if (markM D a).nu = 4294967295 then 42 else if (vSaveG D a b).2 = 0 then saveE (vSaveG D a b).1.sync a (markW (vMark D a b)) else (vSaveG D a b).2
def vSaveD (D : DS) (a : Int) (b : List Int) : DS := if (markM D a).nu = 4294967295 then D else if (vSaveG D a b).2 = 0 then saveD (vSaveG D a b).1.sync a (markW (vMark D a b)) else (vSaveG D a b).1
theorem svGo_go {D : DS} {a ar nu : Int} {b : List Int} {j : Nat} (h : (svGo D a ar nu b j).2 = 0) : svGo D a ar nu b (j + 1) = ((svGo D a ar nu b j).1.write (svI a ar j) (stampM (((j : Nat) : Int) + 1) nu (partB b j)), (svGo D a ar nu b j).1.writeE (svI a ar j) (stampM (((j : Nat) : Int) + 1) nu (partB b j))) := if_pos h
theorem svGo_stop {D : DS} {a ar nu : Int} {b : List Int} {j : Nat} (h : (svGo D a ar nu b j).2 ≠ 0) : ∀ i, svGo D a ar nu b (j + i) = svGo D a ar nu b j
  | 0 => rfl
  | i + 1 => by
    have := svGo_stop h i
    show (if (svGo D a ar nu b (j + i)).2 = 0 then _ else _) = _
    rw [if_neg (by rw [this]; exact h)]
    exact this
theorem partB_bytes {b : List Int} (h : Bytes b) (j : Nat) : Bytes (partB b j) := (h.drop _).take _
theorem svGo_ok {D : DS} {k : Nat} {a ar nu : Int} {b : List Int} (h : DsOk D k) (hb : Bytes b) : ∀ j, DsOk (svGo D a ar nu b j).1 (k + j) ∧ (svGo D a ar nu b j).1.n = D.n
  | 0 => ⟨h, rfl⟩
  | j + 1 => by
    obtain ⟨h1, h2⟩ := svGo_ok h hb j
    unfold svGo
    split
    · exact ⟨h1.write _ (stampM_bytes _ _ (partB_bytes hb j)), by rw [DS.write_nV]; exact h2⟩
    · exact ⟨h1.mono (by omega), h2⟩
theorem markW_bytes (m : MkM) : Bytes (markW m) := ((numB_bytes _ _).append (numB_bytes _ _)).append (numB_bytes _ _)
theorem markW_length (m : MkM) : (markW m).length = 7 := by simp only [markW, List.length_append, numB_length]
theorem vSave_ok {D : DS} {k : Nat} (a : Int) {b : List Int} (h : DsOk D k) (hb : Bytes b) (hl : b.length ≤ 903) : DsOk (vSaveD D a b) (k + 22) ∧ (vSaveD D a b).n = D.n := by
  have h1 := svGo_ok (a := a) (ar := (vMark D a b).ar) (nu := (vMark D a b).nu) h hb ((b.length + 42) / 43)
  have hm : (b.length + 42) / 43 ≤ 21 := by omega
  unfold vSaveD
  split
  · exact ⟨h.mono (by omega), rfl⟩
  · split
    · exact ⟨((h1.1.sync).save a (markW_bytes _)).mono (by omega), by rw [saveD_n, DS.sync_nV]; exact h1.2⟩
    · exact ⟨h1.1.mono (by omega), h1.2⟩
theorem results_cellZ {fn : Func} {t : Nat} {ty : TypeId} {P : Program} {w : World} {v : Value} {a : Addr} (h : fn.results = #[.cell t ty]) (tmps : Array Value) (ha : tmps.getD t undef = .pointer (some a)) (hl : (loadVar ty a).run P w = .ok v w) :
    (results fn tmps).run P w = .ok v w := results_cellA h tmps ha hl

set_option maxHeartbeats 8000000 in
set_option maxRecDepth 100000 in
theorem vSave_st {M0 : Imm} {L : List Res} (hT : Tbl M0) (g k : Nat) (D : DS) (a : Int) (A : Option Addr) (n c : Nat) (b : List Int) (w : World) (hD : DsOk D k) (hk : k ≤ 800000) (ha : 0 ≤ a ∧ a + 44 ≤ (D.n : Int)) (hn : n ≤ 903) (hb : Bytes b) (h : St M0 w (dsR g D :: intsR .u8 (.slice A n c) b :: L)) :
    Calls Tryz.prog 39 #[.pointer (some ⟨g, 0, none⟩), .int .i64 a, .int .i64 21, .slice A n c] w fun e w' => e = .returned (.int .i64 (vSaveE D a b)) ∧ St M0 w' (dsR g (vSaveD D a b) :: L) := by
  have hnb : n = b.length := (h.get 1 rfl).sl.1
  have HNB := hide hnb
  have HD := hide hD
  have HA := hide ha
  have hn5 := hD.ok.n2
  have HB := hide hb
  have MR := hide (markM_range hD.b a)
  have E1 := hide (show vSaveE D a b = if (markM D a).nu = 4294967295 then 42 else if (vSaveG D a b).2 = 0 then saveE (vSaveG D a b).1.sync a (markW (vMark D a b)) else (vSaveG D a b).2 from rfl)
  have E2 := hide (show vSaveD D a b = if (markM D a).nu = 4294967295 then D else if (vSaveG D a b).2 = 0 then saveD (vSaveG D a b).1.sync a (markW (vMark D a b)) else (vSaveG D a b).1 from rfl)
  have E3 := hide (show vSaveG D a b = svGo D a (vMark D a b).ar (vMark D a b).nu b ((b.length + 42) / 43) from rfl)
  have E4 := hide (show vMark D a b = ⟨1 - (markM D a).ar, (markM D a).nu + 1, (b.length : Nat), true⟩ from rfl)
  have h1 := h.alloc 25 #[.pointer (some ⟨g, 0, none⟩)]
  have h2 := h1.alloc 3 #[.int .i64 a]
  have h3 := h2.alloc 3 #[.int .i64 21]
  have h4 := h3.alloc 45 #[.int .i64 0]
  simp only [World.size_alloc] at h2 h3 h4
  have c4 := (h4.blkA (g := w.heap.size) (t := 25) (cs := #[.pointer (some ⟨g, 0, none⟩)]) (by (repeat (first | with_reducible exact At.here | with_reducible apply At.there)))).cell 0
  have c5 := (h4.blkA (g := w.heap.size + 1) (t := 3) (cs := #[.int .i64 a]) (by (repeat (first | with_reducible exact At.here | with_reducible apply At.there)))).cell 0
  have c6 := (h4.blkA (g := w.heap.size + 1 + 1) (t := 3) (cs := #[.int .i64 21]) (by (repeat (first | with_reducible exact At.here | with_reducible apply At.there)))).cell 0
  have H := hide (h4.front (X := dsR g D) (by (repeat (first | with_reducible exact At.here | with_reducible apply At.there))))
  clear h h1 h2 h3 h4 hD hb hnb
  refine (callsIn_wide (n := 12)).1 ?_
  refine callsIn_of_wp_marks Tryz.func39 rfl trivial ?_ rfl
  simp only [Tryz.ntmps39, List.size_toArray, List.length_cons, List.length_nil, Nat.reduceAdd, Nat.reduceSub, Array.replicate_succ, Array.replicate_zero, List.push_toArray, List.append_toArray, List.nil_append, List.cons_append]
  gi_wp2_with fail
  refine ⟨trivial, (callsIn_wide.2 (vRight_st g D a _ HA.out hn5 H.out)).mono ?_⟩
  rintro e w1 ⟨rfl, h⟩
  obtain ⟨g8, hg8⟩ : ∃ x, x = w.heap.size + 1 + 1 + 1 := ⟨_, rfl⟩
  obtain ⟨g6, hg6⟩ : ∃ x, x = w.heap.size + 1 + 1 := ⟨_, rfl⟩
  obtain ⟨g5, hg5⟩ : ∃ x, x = w.heap.size + 1 := ⟨_, rfl⟩
  obtain ⟨g4, hg4⟩ : ∃ x, x = w.heap.size := ⟨_, rfl⟩
  rw [← hg8, ← hg6, ← hg5, ← hg4] at h ⊢
  have H1 := hide h
  have c4 := (h.blkA (g := g4) (t := 25) (cs := #[.pointer (some ⟨g, 0, none⟩)]) (by (repeat (first | with_reducible exact At.here | with_reducible apply At.there)))).cell 0
  have c5 := (h.blkA (g := g5) (t := 3) (cs := #[.int .i64 a]) (by (repeat (first | with_reducible exact At.here | with_reducible apply At.there)))).cell 0
  clear h H hg8 hg6 hg5 hg4
  gi_wp2_with fail
  refine ⟨trivial, (callsIn_wide.2 (vRead_st hT g k D a _ HD.out (by have := HA.out; omega) H1.out)).mono ?_⟩
  rintro e w2 ⟨rfl, h⟩
  generalize markM D a = m at *
  obtain ⟨ar, nu, sz, ok⟩ := m
  have MR : Hid (0 ≤ ar ∧ ar ≤ 1 ∧ 0 ≤ nu ∧ nu < 4294967296 ∧ 0 ≤ sz ∧ sz < 65536) := MR
  have E4 : Hid (vMark D a b = ⟨1 - ar, nu + 1, (b.length : Nat), true⟩) := E4
  have E1 : Hid (vSaveE D a b = if nu = 4294967295 then 42 else if (vSaveG D a b).2 = 0 then saveE (vSaveG D a b).1.sync a (markW (vMark D a b)) else (vSaveG D a b).2) := E1
  have E2 : Hid (vSaveD D a b = if nu = 4294967295 then D else if (vSaveG D a b).2 = 0 then saveD (vSaveG D a b).1.sync a (markW (vMark D a b)) else (vSaveG D a b).1) := E2
  have h1 := h.alloc 147 #[.int .i64 ar, .int .u32 nu, .int .i64 sz]
  obtain ⟨gm, hgm⟩ : ∃ x, x = w2.heap.size := ⟨_, rfl⟩
  rw [← hgm] at h1
  have c6 := (h1.blkA (g := g6) (t := 3) (cs := #[.int .i64 21]) (by (repeat (first | with_reducible exact At.here | with_reducible apply At.there)))).cell 0
  have H2 := hide h1
  have HGM := hide hgm
  clear h h1 H1 c4 c5 hgm
  gi_wp2_with fail
  rw [← HGM.out]
  refine ⟨trivial, (callsIn_wide.2 (room_q _)).mono ?_⟩
  rintro e w3 ⟨rfl, q3, rfl⟩
  have H3 := hide (H2.out.drewN q3)
  have z0 := (H3.out.blk 0 rfl).cell 0
  have z1 := (H3.out.blk 0 rfl).cell 1
  have d0 : decide ((n : Int) > 903) = false := decide_eq_false (by omega)
  have d0' : decide ((903 : Int) < (n : Int)) = false := d0
  clear H2 c6 HGM
  by_cases hnu : nu = 4294967295
  · have b1 := isT hnu
    have y8 := (H3.out.blkA (g := g8) (t := 45) (cs := #[.int .i64 0]) (by (repeat (first | with_reducible exact At.here | with_reducible apply At.there)))).cell 0
    have f8 := (H3.out.blkA (g := g8) (t := 45) (cs := #[.int .i64 0]) (by (repeat (first | with_reducible exact At.here | with_reducible apply At.there)))).frozen
    have h7 := (H3.out.front (X := blkR g8 45 #[.int .i64 0]) (by (repeat (first | with_reducible exact At.here | with_reducible apply At.there)))).put_ 0 (.int .i64 42) #[.int .i64 42]
    have k0 := (h7.blk 0 rfl).cell 0
    have H7 := hide h7
    have E1 := hide (E1.out.trans (if_pos hnu))
    have E2 := hide (E2.out.trans (if_pos hnu))
    clear h7 H3 hnu
    gi_wp2_with fail
    refine ⟨.int .i64 42, results_cellZ rfl _ rfl ?_, ?_⟩
    · go_simp
    · rw [E1.out, E2.out]
      exact ⟨rfl, H7.out.sub (by (repeat (first | with_reducible exact Sub.refl _ | (with_reducible apply Sub.take; focus (repeat (first | with_reducible exact At.here | with_reducible apply At.there))) | with_reducible apply Sub.drop)))⟩
  · have b1 := isF hnu
    have E1 := hide (E1.out.trans (if_neg hnu))
    have E2 := hide (E2.out.trans (if_neg hnu))
    have v1 : IntKind.i64.wrap (1 - ar) = 1 - ar := IntWalk.i64_in _ (by have := MR.out; omega)
    have v2 : IntKind.u32.wrap (nu + 1) = nu + 1 := u64_u32 (by have := MR.out; omega)
    have HNU := hide (show nu + 1 < 4294967296 by have := MR.out; omega)
    have z2 := (H3.out.blk 0 rfl).cell 2
    have f := (H3.out.blk 0 rfl).frozen
    have h7 := ((H3.out.put_ 0 (.int .i64 (1 - ar)) #[.int .i64 (1 - ar), .int .u32 nu, .int .i64 sz]).put_ 1 (.int .u32 (nu + 1)) #[.int .i64 (1 - ar), .int .u32 (nu + 1), .int .i64 sz]).put_ 2 (.int .i64 (n : Nat)) #[.int .i64 (1 - ar), .int .u32 (nu + 1), .int .i64 (n : Nat)]
    have h8 := h7.alloc 3 #[.int .i64 0]
    rw [show ((((((w2.alloc (Obj.cells #[Value.int IntKind.i64 ar, Value.int IntKind.u32 nu, Value.int IntKind.i64 sz] 147)).drewN q3).setCell ⟨gm, 0, none⟩ (Value.int IntKind.i64 (1 - ar))).setCell ⟨gm, 1, none⟩ (Value.int IntKind.u32 (nu + 1))).setCell ⟨gm, 2, none⟩ (Value.int IntKind.i64 (n : Nat))).heap.size) = w2.heap.size + 1 by simp [World.setCell]] at h8
    have H7 := hide h8
    clear h7 h8 H3 hnu
    gi_wp2_with fail
    refine ⟨trivial, (callsIn_wide.2 (bchunk_st A n c _ H7.out)).mono ?_⟩
    rintro e w4 ⟨bs, bn, rfl, h⟩
    obtain ⟨gi, hgi⟩ : ∃ x, x = w2.heap.size + 1 := ⟨_, rfl⟩
    rw [← hgi] at h ⊢
    have H8 := hide h
    clear h H7 hgi
    gi_wp2_with fail
    obtain ⟨ar', har⟩ : ∃ ar', ar' = 1 - ar := ⟨_, rfl⟩
    obtain ⟨nu', hnu⟩ : ∃ nu', nu' = nu + 1 := ⟨_, rfl⟩
    rw [← har, ← hnu] at H8 E4 ⊢
    have HAR := hide (show 0 ≤ ar' ∧ ar' ≤ 1 by have := MR.out; omega)
    have HNU2 := hide (show 0 ≤ nu' ∧ nu' < 4294967296 by have := MR.out; have := HNU.out; omega)
    have EG := hide (show vSaveG D a b = svGo D a ar' nu' b ((n + 42) / 43) by rw [E3.out, E4.out, HNB.out])
    clear har hnu HNU v1 v2 z0 z1 z2 f
    refine rangeFunc_st2 (n := 12) (gf := 103) (lb := #[.pointer (some ⟨bs, 0, none⟩), .pointer (some ⟨bn, 0, none⟩)]) rfl (enters_of Tryz.func103 (by kernel_rfl) rfl) H8.out ?_
    intro fn lr D1 W1 rc hrc hW1
    have HRC := hide hrc
    clear hrc
    have hs0 : St M0 W1 (blkR gi 3 #[.int .i64 ((0 : Nat) : Int)] :: _) := hW1.front (X := blkR gi 3 #[.int .i64 0]) (by (repeat (first | with_reducible exact At.here | with_reducible apply At.there)))
    have hs1 : St M0 W1 (dsR g (svGo D a ar' nu' b 0).1 :: _) := hs0.front (X := dsR g D) (by (repeat (first | with_reducible exact At.here | with_reducible apply At.there)))
    refine (bclo_st b A n c bs bn lr 11 (fun j => pureR ((svGo D a ar' nu' b j).2 = 0) :: objR lr (.loop (rc .ready none)) :: objR D1 (.deferred (some [])) :: blkR g8 45 #[.int .i64 0] :: blkR g4 25 #[.pointer (some ⟨g, 0, none⟩)] :: blkR g5 3 #[.int .i64 a] :: blkR g6 3 #[.int .i64 21] :: blkR gm 147 #[.int .i64 ar', .int .u32 nu', .int .i64 (n : Nat)] :: blkR gi 3 #[.int .i64 (j : Nat)] :: dsR g (svGo D a ar' nu' b j).1 :: L)
      (fun U => ∃ j, j < (n + 42) / 43 ∧ (svGo D a ar' nu' b (j + 1)).2 ≠ 0 ∧ U = objR lr (.loop (rc .done (some .ret))) :: objR D1 (.deferred (some [])) :: blkR g8 45 #[.int .i64 (svGo D a ar' nu' b (j + 1)).2] :: dsR g (svGo D a ar' nu' b (j + 1)).1 :: L) W1 (by omega) ?_ ((hs1.addP (show (svGo D a ar' nu' b 0).2 = 0 from rfl)).sub (by (repeat (first | with_reducible exact Sub.refl _ | (with_reducible apply Sub.take; focus (repeat (first | with_reducible exact At.here | with_reducible apply At.there))) | with_reducible apply Sub.drop))))).mono ?_
    · intro j W A' p hj hp hW
      have HP := hide hp
      have HJ := hide hj
      have hpz := (hW.front (X := pureR ((svGo D a ar' nu' b j).2 = 0)) (by (repeat (first | with_reducible exact At.here | with_reducible apply At.there)))).pure_
      have OKJ := hide (svGo_ok (a := a) (ar := ar') (nu := nu') HD.out HB.out j)
      have EGo := hide (svGo_go hpz.1)
      have HPB := hide (partB_bytes HB.out j)
      have hpb : (b.drop (43 * j)).take 43 = partB b j := rfl
      have hpl : (partB b j).length = p := by unfold partB; rw [List.length_take, List.length_drop, ← HNB.out]; omega
      rw [hpb] at hW
      have h2 := hpz.2
      rw [hpb] at h2
      have HPL := hide hpl
      have h3 := h2.front (X := objR lr (.loop (rc .ready none))) (by (repeat (first | with_reducible exact At.here | with_reducible apply At.there)))
      have hj21 : j ≤ 21 := by omega
      have hp43 : p ≤ 43 := by omega
      generalize partB b j = pt at *
      generalize (svGo D a ar' nu' b j).1 = Dj at *
      clear hp hj hW hpz h2 hpb hpl
      have key := yield_st3 (P := Tryz.prog) (n := 10) HRC.out (L' := objR D1 (.deferred (some [])) :: blkR bs 34 #[.slice A n c] :: blkR bn 3 #[.int .i64 43] :: intsR .u8 (.slice A n c) b :: pureR ((svGo D a ar' nu' b (j + 1)).2 = 0) :: blkR g8 45 #[.int .i64 0] :: blkR g4 25 #[.pointer (some ⟨g, 0, none⟩)] :: blkR g5 3 #[.int .i64 a] :: blkR g6 3 #[.int .i64 21] :: blkR gm 147 #[.int .i64 ar', .int .u32 nu', .int .i64 (n : Nat)] :: blkR gi 3 #[.int .i64 ((j + 1 : Nat) : Int)] :: dsR g (svGo D a ar' nu' b (j + 1)).1 :: L)
        (fun U => (svGo D a ar' nu' b (j + 1)).2 ≠ 0 ∧ U = objR D1 (.deferred (some [])) :: blkR g8 45 #[.int .i64 (svGo D a ar' nu' b (j + 1)).2] :: dsR g (svGo D a ar' nu' b (j + 1)).1 :: L) ?_ (args := #[.slice A' p p]) h3 rfl ?_ ?_
      · obtain ⟨fn', tm', as', bd', hy, hR⟩ := key
        refine ⟨fn', tm', as', bd', hy, hR.mono ?_⟩
        rintro e W' (⟨he, h4⟩ | ⟨he, U, ⟨hz, rfl⟩, h4⟩)
        · exact .inl ⟨he, h4.sub (by (repeat (first | with_reducible exact Sub.refl _ | (with_reducible apply Sub.take; focus (repeat (first | with_reducible exact At.here | with_reducible apply At.there))) | with_reducible apply Sub.drop)))⟩
        · exact .inr ⟨he, _, ⟨j, by have := HJ.out; omega, hz, rfl⟩, h4⟩
      rotate_left
      · intro W2 K hK
        gi_wp2
        exact hK
      · intro W2 h2
        have y0 := (h2.blkA (g := gi) (t := 3) (cs := #[.int .i64 (j : Nat)]) (by (repeat (first | with_reducible exact At.here | with_reducible apply At.there)))).cell 0
        have y1 := (h2.blkA (g := gm) (t := 147) (cs := #[.int .i64 ar', .int .u32 nu', .int .i64 (n : Nat)]) (by (repeat (first | with_reducible exact At.here | with_reducible apply At.there)))).cell 1
        have u1 : IntKind.i64.wrap ((j : Int) + 1) = (j : Int) + 1 := IntWalk.i64_in _ (by omega)
        have u2 : IntKind.u32.wrap ((j : Int) + 1) = (j : Int) + 1 := u64_u32 (by omega)
        obtain ⟨ix, hix⟩ : ∃ ix, ix = svI a ar' j := ⟨_, rfl⟩
        obtain ⟨stp, hstp⟩ : ∃ stp, stp = stampM ((j : Int) + 1) nu' pt := ⟨_, rfl⟩
        have hixe : ix = a + 2 + ar' * 21 + (j : Int) := hix
        rw [← hix, ← hstp] at EGo
        have u3 : IntKind.i64.wrap (a + 2) = a + 2 := IntWalk.i64_in _ (by have := HA.out; omega)
        have u4 : IntKind.i64.wrap (ar' * 21) = ar' * 21 := IntWalk.i64_in _ (by have := HAR.out; omega)
        have u5 : IntKind.i64.wrap (a + 2 + ar' * 21) = a + 2 + ar' * 21 := IntWalk.i64_in _ (by have := HAR.out; have := HA.out; omega)
        have u6 : IntKind.i64.wrap (a + 2 + ar' * 21 + (j : Int)) = ix := (IntWalk.i64_in _ (by have := HAR.out; have := HA.out; omega)).trans hixe.symm
        have HSTP := hide hstp
        have H2 := hide (h2.front (X := intsR .u8 (.slice A' p p) pt) (by (repeat (first | with_reducible exact At.here | with_reducible apply At.there))))
        clear h2 h3 hix hstp hixe
        gi_wp2_with fail
        refine ⟨trivial, (CallsIn.inRound lr (callsIn_wide.2 (stamp_st hT ((j : Int) + 1) nu' A' p p pt _ (by omega) HNU2.out hp43 HPB.out H2.out))).mono ?_⟩
        rintro e w5 ⟨A5, c5, rfl, h⟩
        rw [← HSTP.out] at h
        have h5 := h.front (X := dsR g Dj) (by (repeat (first | with_reducible exact At.here | with_reducible apply At.there)))
        have x4 := (h5.blkA (g := g4) (t := 25) (cs := #[.pointer (some ⟨g, 0, none⟩)]) (by (repeat (first | with_reducible exact At.here | with_reducible apply At.there)))).cell 0
        have x5 := (h5.blkA (g := g5) (t := 3) (cs := #[.int .i64 a]) (by (repeat (first | with_reducible exact At.here | with_reducible apply At.there)))).cell 0
        have x6 := (h5.blkA (g := g6) (t := 3) (cs := #[.int .i64 21]) (by (repeat (first | with_reducible exact At.here | with_reducible apply At.there)))).cell 0
        have xm := (h5.blkA (g := gm) (t := 147) (cs := #[.int .i64 ar', .int .u32 nu', .int .i64 (n : Nat)]) (by (repeat (first | with_reducible exact At.here | with_reducible apply At.there)))).cell 0
        have xi := (h5.blkA (g := gi) (t := 3) (cs := #[.int .i64 (j : Nat)]) (by (repeat (first | with_reducible exact At.here | with_reducible apply At.there)))).cell 0
        have H5 := hide h5
        clear h h5 H2 y0 y1
        gi_wp2_with fail
        refine ⟨trivial, (CallsIn.inRound lr (callsIn_wide.2 (write_ds ix (.slice A5 64 c5) stp 0 OKJ.out.1.ok (by have := OKJ.out.1.p; omega) rfl H5.out))).mono ?_⟩
        rintro e w6 ⟨rfl, h⟩
        have EGo1 := hide (show (svGo D a ar' nu' b (j + 1)).1 = Dj.write ix stp by rw [EGo.out])
        have EGo2 := hide (show (svGo D a ar' nu' b (j + 1)).2 = Dj.writeE ix stp by rw [EGo.out])
        rw [← EGo1.out] at h
        rw [← EGo2.out]
        clear H5 x4 x5 x6 xm xi u1 u2 u3 u4 u5 u6
        by_cases hz : (svGo D a ar' nu' b (j + 1)).2 = 0
        · have b2 : ((svGo D a ar' nu' b (j + 1)).2 != 0) = false := isNF hz
          have xi := (h.blkA (g := gi) (t := 3) (cs := #[.int .i64 (j : Nat)]) (by (repeat (first | with_reducible exact At.here | with_reducible apply At.there)))).cell 0
          have fi := (h.blkA (g := gi) (t := 3) (cs := #[.int .i64 (j : Nat)]) (by (repeat (first | with_reducible exact At.here | with_reducible apply At.there)))).frozen
          have u1 : IntKind.i64.wrap ((j : Int) + 1) = (j : Int) + 1 := IntWalk.i64_in _ (by omega)
          have h7 := (h.front (X := blkR gi 3 #[.int .i64 (j : Nat)]) (by (repeat (first | with_reducible exact At.here | with_reducible apply At.there)))).put_ 0 (.int .i64 ((j : Int) + 1)) #[.int .i64 ((j : Int) + 1)]
          have h8 := h7.addP hz
          have H8 := hide h8
          clear h h7 h8 hz
          gi_wp2_with fail
          exact H8.out.sub (by (repeat (first | with_reducible exact Sub.refl _ | (with_reducible apply Sub.take; focus (repeat (first | with_reducible exact At.here | with_reducible apply At.there))) | with_reducible apply Sub.drop)))
        · have b2 : ((svGo D a ar' nu' b (j + 1)).2 != 0) = true := isN hz
          have HZ := hide hz
          have x8 := (h.blkA (g := g8) (t := 45) (cs := #[.int .i64 0]) (by (repeat (first | with_reducible exact At.here | with_reducible apply At.there)))).cell 0
          have f8 := (h.blkA (g := g8) (t := 45) (cs := #[.int .i64 0]) (by (repeat (first | with_reducible exact At.here | with_reducible apply At.there)))).frozen
          have h7 := (h.front (X := blkR g8 45 #[.int .i64 0]) (by (repeat (first | with_reducible exact At.here | with_reducible apply At.there)))).put_ 0 (.int .i64 (svGo D a ar' nu' b (j + 1)).2) #[.int .i64 (svGo D a ar' nu' b (j + 1)).2]
          have H8 := hide h7
          clear h h7 hz
          gi_wp2_with fail
          exact ⟨_, ⟨HZ.out, rfl⟩, H8.out.sub (by (repeat (first | with_reducible exact Sub.refl _ | (with_reducible apply Sub.take; focus (repeat (first | with_reducible exact At.here | with_reducible apply At.there))) | with_reducible apply Sub.drop)))⟩
    · rintro e W2 ⟨he, hend⟩
      refine ⟨he, ?_⟩
      clear H8 hW1 hs0 hs1 HRC
      rcases hend with h2 | ⟨U, ⟨j, hj, hz, rfl⟩, h2⟩
      · have hpz := (h2.front (X := pureR ((svGo D a ar' nu' b ((n + 42) / 43)).2 = 0)) (by (repeat (first | with_reducible exact At.here | with_reducible apply At.there)))).pure_
        rw [← EG.out] at hpz
        have E1 := hide (E1.out.trans (if_pos hpz.1))
        have E2 := hide (E2.out.trans (if_pos hpz.1))
        have OKm := hide (svGo_ok (a := a) (ar := ar') (nu := nu') HD.out HB.out ((n + 42) / 43))
        rw [← EG.out] at OKm
        refine ⟨_, .ready, none, by simp, hpz.2.sub (L' := objR lr (.loop (rc .ready none)) :: objR D1 (.deferred (some [])) :: dsR g (vSaveG D a b).1 :: blkR g4 25 #[.pointer (some ⟨g, 0, none⟩)] :: blkR g5 3 #[.int .i64 a] :: blkR gm 147 #[.int .i64 ar', .int .u32 nu', .int .i64 (n : Nat)] :: blkR g8 45 #[.int .i64 0] :: L) (by (repeat (first | with_reducible exact Sub.refl _ | (with_reducible apply Sub.take; focus (repeat (first | with_reducible exact At.here | with_reducible apply At.there))) | with_reducible apply Sub.drop))), ?_⟩
        clear h2 hpz
        intro W3 h3
        have y4 := (h3.blkA (g := g4) (t := 25) (cs := #[.pointer (some ⟨g, 0, none⟩)]) (by (repeat (first | with_reducible exact At.here | with_reducible apply At.there)))).cell 0
        have H3 := hide (h3.front (X := dsR g (vSaveG D a b).1) (by (repeat (first | with_reducible exact At.here | with_reducible apply At.there))))
        clear h3
        gi_wp2_with fail
        refine ⟨trivial, (callsIn_wide.2 (sync_ds OKm.out.1.ok (by have := OKm.out.1.p; omega) H3.out)).mono ?_⟩
        rintro e w7 ⟨rfl, h⟩
        have h0 := h.sub (L' := blkR g4 25 #[.pointer (some ⟨g, 0, none⟩)] :: blkR g5 3 #[.int .i64 a] :: blkR gm 147 #[.int .i64 ar', .int .u32 nu', .int .i64 (n : Nat)] :: dsR g (vSaveG D a b).1.sync :: blkR g8 45 #[.int .i64 0] :: objR D1 (.deferred (some [])) :: L) (by (repeat (first | with_reducible exact Sub.refl _ | (with_reducible apply Sub.take; focus (repeat (first | with_reducible exact At.here | with_reducible apply At.there))) | with_reducible apply Sub.drop)))
        clear h H3 y4
        gi_wp2_with fail
        obtain ⟨Ds, hDs⟩ : ∃ Ds, Ds = (vSaveG D a b).1.sync := ⟨_, rfl⟩
        obtain ⟨mb, hmb⟩ : ∃ mb, mb = markW (vMark D a b) := ⟨_, rfl⟩
        obtain ⟨Dz, hDz⟩ : ∃ Dz, Dz = saveD Ds a mb := ⟨_, rfl⟩
        obtain ⟨ee, hee⟩ : ∃ ee, ee = saveE Ds a mb := ⟨_, rfl⟩
        rw [← hDs] at h0 E1 E2
        rw [← hmb, ← hee] at E1
        rw [← hmb, ← hDz] at E2
        have HDS := hide (show DsOk Ds (k + 21) ∧ Ds.n = D.n by rw [hDs]; exact ⟨OKm.out.1.sync.mono (by omega), by rw [DS.sync_nV]; exact OKm.out.2⟩)
        have HMB := hide (show markW ⟨ar', nu', (n : Nat), true⟩ = mb by rw [hmb, E4.out, ← HNB.out])
        have HMBB := hide (show Bytes mb by rw [hmb]; exact markW_bytes _)
        have HEZ := hide hDz
        have HEE := hide hee
        clear hDs hmb hDz hee OKm
        refine wpIn_wide.2 ?_
        refine region_flow (M0 := M0) (L0 := objR D1 (.deferred (some [])) :: L) [⟨none, none, fun e => blkR g4 25 #[.pointer (some ⟨g, 0, none⟩)]⟩, ⟨none, none, fun e => blkR g5 3 #[.int .i64 a]⟩, ⟨none, none, fun e => blkR gm 147 #[.int .i64 ar', .int .u32 nu', .int .i64 (n : Nat)]⟩, ⟨none, some 4, fun e => dsR g Ds⟩, ⟨none, some 5, fun e => blkR g8 45 #[.int .i64 0]⟩, ⟨some 3, some 4, fun e => intsR .u8 (.slice (e 3).A 7 (e 3).n) mb⟩, ⟨some 4, none, fun e => dsR g Dz⟩, ⟨some 5, none, fun e => blkR g8 45 #[.int .i64 ee]⟩] [[], [], [], [2], [0, 1, 2, 3], [0, 1, 2, 3, 4]] [0, 1, 2, 3, 4, 5] rfl (by kernel_rfl) (by kernel_rfl) (by kernel_rfl) (by rfl) (fun _ => rfl) (show St M0 _ (blkR g4 25 #[.pointer (some ⟨g, 0, none⟩)] :: blkR g5 3 #[.int .i64 a] :: blkR gm 147 #[.int .i64 ar', .int .u32 nu', .int .i64 (n : Nat)] :: dsR g Ds :: blkR g8 45 #[.int .i64 0] :: objR D1 (.deferred (some [])) :: L) from h0) ?_
        refine flow_run _ rfl (fun _ => rfl) (fun e wx Lx h => by (have h : St M0 wx (blkR g4 25 #[.pointer (some ⟨g, 0, none⟩)] :: blkR g5 3 #[.int .i64 a] :: blkR gm 147 #[.int .i64 ar', .int .u32 nu', .int .i64 (n : Nat)] :: dsR g Ds :: blkR g8 45 #[.int .i64 0] :: Lx) := h; have y4 := (h.blkA (g := g4) (t := 25) (cs := #[.pointer (some ⟨g, 0, none⟩)]) (by (repeat (first | with_reducible exact At.here | with_reducible apply At.there)))).cell 0; have y5 := (h.blkA (g := g5) (t := 3) (cs := #[.int .i64 a]) (by (repeat (first | with_reducible exact At.here | with_reducible apply At.there)))).cell 0; have m0 := (h.blkA (g := gm) (t := 147) (cs := #[.int .i64 ar', .int .u32 nu', .int .i64 (n : Nat)]) (by (repeat (first | with_reducible exact At.here | with_reducible apply At.there)))).cell 0; have m1 := (h.blkA (g := gm) (t := 147) (cs := #[.int .i64 ar', .int .u32 nu', .int .i64 (n : Nat)]) (by (repeat (first | with_reducible exact At.here | with_reducible apply At.there)))).cell 1; have m2 := (h.blkA (g := gm) (t := 147) (cs := #[.int .i64 ar', .int .u32 nu', .int .i64 (n : Nat)]) (by (repeat (first | with_reducible exact At.here | with_reducible apply At.there)))).cell 2; go_simp; try rfl)) (by intro e; rfl) (by intro e; rfl) (by intro e x; rfl) ?_
        (simp only [Act.put, List.setIfInBounds_toArray, List.set_cons_succ, List.set_cons_zero])
        refine flow_run _ rfl (fun _ => rfl) (fun e wx Lx h => by (have h : St M0 wx (blkR g4 25 #[.pointer (some ⟨g, 0, none⟩)] :: blkR g5 3 #[.int .i64 a] :: blkR gm 147 #[.int .i64 ar', .int .u32 nu', .int .i64 (n : Nat)] :: dsR g Ds :: blkR g8 45 #[.int .i64 0] :: Lx) := h; have y4 := (h.blkA (g := g4) (t := 25) (cs := #[.pointer (some ⟨g, 0, none⟩)]) (by (repeat (first | with_reducible exact At.here | with_reducible apply At.there)))).cell 0; have y5 := (h.blkA (g := g5) (t := 3) (cs := #[.int .i64 a]) (by (repeat (first | with_reducible exact At.here | with_reducible apply At.there)))).cell 0; have m0 := (h.blkA (g := gm) (t := 147) (cs := #[.int .i64 ar', .int .u32 nu', .int .i64 (n : Nat)]) (by (repeat (first | with_reducible exact At.here | with_reducible apply At.there)))).cell 0; have m1 := (h.blkA (g := gm) (t := 147) (cs := #[.int .i64 ar', .int .u32 nu', .int .i64 (n : Nat)]) (by (repeat (first | with_reducible exact At.here | with_reducible apply At.there)))).cell 1; have m2 := (h.blkA (g := gm) (t := 147) (cs := #[.int .i64 ar', .int .u32 nu', .int .i64 (n : Nat)]) (by (repeat (first | with_reducible exact At.here | with_reducible apply At.there)))).cell 2; go_simp; try rfl)) (by intro e; rfl) (by intro e; rfl) (by intro e x; rfl) ?_
        (simp only [Act.put, List.setIfInBounds_toArray, List.set_cons_succ, List.set_cons_zero])
        refine flow_run _ rfl (fun _ => rfl) (fun e wx Lx h => by (have h : St M0 wx (blkR g4 25 #[.pointer (some ⟨g, 0, none⟩)] :: blkR g5 3 #[.int .i64 a] :: blkR gm 147 #[.int .i64 ar', .int .u32 nu', .int .i64 (n : Nat)] :: dsR g Ds :: blkR g8 45 #[.int .i64 0] :: Lx) := h; have y4 := (h.blkA (g := g4) (t := 25) (cs := #[.pointer (some ⟨g, 0, none⟩)]) (by (repeat (first | with_reducible exact At.here | with_reducible apply At.there)))).cell 0; have y5 := (h.blkA (g := g5) (t := 3) (cs := #[.int .i64 a]) (by (repeat (first | with_reducible exact At.here | with_reducible apply At.there)))).cell 0; have m0 := (h.blkA (g := gm) (t := 147) (cs := #[.int .i64 ar', .int .u32 nu', .int .i64 (n : Nat)]) (by (repeat (first | with_reducible exact At.here | with_reducible apply At.there)))).cell 0; have m1 := (h.blkA (g := gm) (t := 147) (cs := #[.int .i64 ar', .int .u32 nu', .int .i64 (n : Nat)]) (by (repeat (first | with_reducible exact At.here | with_reducible apply At.there)))).cell 1; have m2 := (h.blkA (g := gm) (t := 147) (cs := #[.int .i64 ar', .int .u32 nu', .int .i64 (n : Nat)]) (by (repeat (first | with_reducible exact At.here | with_reducible apply At.there)))).cell 2; go_simp; try rfl)) (by intro e; rfl) (by intro e; rfl) (by intro e x; rfl) ?_
        (simp only [Act.put, List.setIfInBounds_toArray, List.set_cons_succ, List.set_cons_zero])
        refine flow_call 85 (fun e => #[.agg #[.int .i64 ar', .int .u32 nu', .int .i64 (n : Nat)]]) (fun e => .slice (e 3).A 7 (e 3).n) rfl (fun _ => rfl) (by intro e; rfl) (fun e wx => by (go_simp; try rfl)) (fun e wx Lx h => by (
          have h : St M0 wx (blkR g4 25 #[.pointer (some ⟨g, 0, none⟩)] :: blkR g5 3 #[.int .i64 a] :: blkR gm 147 #[.int .i64 ar', .int .u32 nu', .int .i64 (n : Nat)] :: dsR g Ds :: blkR g8 45 #[.int .i64 0] :: Lx) := h
          refine (mBytes_st ⟨ar', nu', (n : Nat), true⟩ _ HAR.out HNU2.out (by show (0 : Int) ≤ (n : Int) ∧ (n : Int) ≤ 100000; omega) h).mono ?_
          rintro u wy ⟨A', c', rfl, h1⟩
          rw [HMB.out] at h1
          have hk : St M0 wy (blkR g4 25 #[.pointer (some ⟨g, 0, none⟩)] :: blkR g5 3 #[.int .i64 a] :: blkR gm 147 #[.int .i64 ar', .int .u32 nu', .int .i64 (n : Nat)] :: dsR g Ds :: blkR g8 45 #[.int .i64 0] :: intsR .u8 (.slice A' 7 c') mb :: Lx) := h1.sub (by (repeat (first | with_reducible exact Sub.refl _ | (with_reducible apply Sub.take; focus (repeat (first | with_reducible exact At.here | with_reducible apply At.there))) | with_reducible apply Sub.drop)))
          exact ⟨⟨A', c', default⟩, rfl, hk⟩)) ?_
        (simp only [Act.put, List.setIfInBounds_toArray, List.set_cons_succ, List.set_cons_zero])
        refine flow_call 84 (fun e => #[.pointer (some ⟨g, 0, none⟩), .int .i64 a, .slice (e 3).A 7 (e 3).n]) (fun e => .int .i64 ee) rfl (fun _ => rfl) (by intro e; rfl) (fun e wx => by (go_simp; try rfl)) (fun e wx Lx h => by (
          have h : St M0 wx (blkR g4 25 #[.pointer (some ⟨g, 0, none⟩)] :: blkR g5 3 #[.int .i64 a] :: blkR gm 147 #[.int .i64 ar', .int .u32 nu', .int .i64 (n : Nat)] :: dsR g Ds :: blkR g8 45 #[.int .i64 0] :: intsR .u8 (.slice (e 3).A 7 (e 3).n) mb :: Lx) := h
          refine (slSave_st hT g (k + 21) Ds a (e 3).A 7 (e 3).n mb _ HDS.out.1 (by omega) (by have := HA.out; have := HDS.out.2; omega) (by omega) HMBB.out ((h.front (X := intsR .u8 (.slice (e 3).A 7 (e 3).n) mb) (by (repeat (first | with_reducible exact At.here | with_reducible apply At.there)))).front (X := dsR g Ds) (by (repeat (first | with_reducible exact At.here | with_reducible apply At.there))))).mono ?_
          rintro u wy ⟨rfl, h1⟩
          rw [← HEZ.out] at h1
          have hk : St M0 wy (blkR g4 25 #[.pointer (some ⟨g, 0, none⟩)] :: blkR g5 3 #[.int .i64 a] :: blkR gm 147 #[.int .i64 ar', .int .u32 nu', .int .i64 (n : Nat)] :: blkR g8 45 #[.int .i64 0] :: dsR g Dz :: Lx) := h1.sub (by (repeat (first | with_reducible exact Sub.refl _ | (with_reducible apply Sub.take; focus (repeat (first | with_reducible exact At.here | with_reducible apply At.there))) | with_reducible apply Sub.drop)))
          exact ⟨⟨none, 0, default⟩, (by rw [HEE.out]), hk⟩)) ?_
        (simp only [Act.put, List.setIfInBounds_toArray, List.set_cons_succ, List.set_cons_zero])
        refine flow_store _ _ _ (fun e => .pointer (some ⟨g8, 0, none⟩)) (fun e => .int .i64 ee) rfl (fun _ => rfl) rfl (fun _ => rfl) (fun _ => rfl) (fun e wx Lx h => by (
          have h : St M0 wx (blkR g4 25 #[.pointer (some ⟨g, 0, none⟩)] :: blkR g5 3 #[.int .i64 a] :: blkR gm 147 #[.int .i64 ar', .int .u32 nu', .int .i64 (n : Nat)] :: blkR g8 45 #[.int .i64 0] :: dsR g Dz :: Lx) := h
          have x8 := (h.blkA (g := g8) (t := 45) (cs := #[.int .i64 0]) (by (repeat (first | with_reducible exact At.here | with_reducible apply At.there)))).cell 0
          have f8 := (h.blkA (g := g8) (t := 45) (cs := #[.int .i64 0]) (by (repeat (first | with_reducible exact At.here | with_reducible apply At.there)))).frozen
          have h1 := (h.front (X := blkR g8 45 #[.int .i64 0]) (by (repeat (first | with_reducible exact At.here | with_reducible apply At.there)))).put_ 0 (.int .i64 ee) #[.int .i64 ee]
          have hk : St M0 _ (blkR g4 25 #[.pointer (some ⟨g, 0, none⟩)] :: blkR g5 3 #[.int .i64 a] :: blkR gm 147 #[.int .i64 ar', .int .u32 nu', .int .i64 (n : Nat)] :: dsR g Dz :: blkR g8 45 #[.int .i64 ee] :: Lx) := h1.sub (by (repeat (first | with_reducible exact Sub.refl _ | (with_reducible apply Sub.take; focus (repeat (first | with_reducible exact At.here | with_reducible apply At.there))) | with_reducible apply Sub.drop)))
          exact ⟨_, (by (go_simp; try rfl)), hk⟩)) ?_
        simp only [Act.put]
        refine flow_nil ?_
        intro e w1 h
        have h : St M0 w1 (blkR g4 25 #[.pointer (some ⟨g, 0, none⟩)] :: blkR g5 3 #[.int .i64 a] :: blkR gm 147 #[.int .i64 ar', .int .u32 nu', .int .i64 (n : Nat)] :: dsR g Dz :: blkR g8 45 #[.int .i64 ee] :: objR D1 (.deferred (some [])) :: L) := h
        have h9 := h.sub (L' := blkR g8 45 #[.int .i64 ee] :: dsR g Dz :: objR D1 (.deferred (some [])) :: L) (by (repeat (first | with_reducible exact Sub.refl _ | (with_reducible apply Sub.take; focus (repeat (first | with_reducible exact At.here | with_reducible apply At.there))) | with_reducible apply Sub.drop)))
        have H9 := hide h9
        clear h h0 h9
        gi_wp2_with fail
        have hD2 := H9.out.objA (o := .deferred (some [])) (b := D1) (by (repeat (first | with_reducible exact At.here | with_reducible apply At.there)))
        refine ⟨by simp, .inl ⟨_, _, rfl, run_takeDeferred hD2, ?_⟩⟩
        have h10 := (H9.out.front (X := objR D1 (.deferred (some []))) (by (repeat (first | with_reducible exact At.here | with_reducible apply At.there)))).putO (.deferred none)
        have k0 := (h10.blkA (g := g8) (t := 45) (cs := #[.int .i64 ee]) (by (repeat (first | with_reducible exact At.here | with_reducible apply At.there)))).cell 0
        refine ⟨.int .i64 ee, results_cellZ rfl _ rfl ?_, ?_⟩
        · go_simp
        · rw [E1.out, E2.out]
          exact ⟨rfl, h10.sub (by (repeat (first | with_reducible exact Sub.refl _ | (with_reducible apply Sub.take; focus (repeat (first | with_reducible exact At.here | with_reducible apply At.there))) | with_reducible apply Sub.drop)))⟩
      · have hst := svGo_stop hz ((n + 42) / 43 - (j + 1))
        rw [show j + 1 + ((n + 42) / 43 - (j + 1)) = (n + 42) / 43 by omega, ← EG.out] at hst
        rw [← hst] at hz h2
        have E1 := hide (E1.out.trans (if_neg hz))
        have E2 := hide (E2.out.trans (if_neg hz))
        refine ⟨_, .done, some .ret, by simp, h2, ?_⟩
        clear h2 hz hst
        intro W3 h3
        have k0 := (h3.blkA (g := g8) (t := 45) (cs := #[.int .i64 (vSaveG D a b).2]) (by (repeat (first | with_reducible exact At.here | with_reducible apply At.there)))).cell 0
        have H3 := hide h3
        clear h3
        gi_wp2_with fail
        have hD2 := H3.out.objA (o := .deferred (some [])) (b := D1) (by (repeat (first | with_reducible exact At.here | with_reducible apply At.there)))
        refine ⟨by simp, .inl ⟨_, _, rfl, run_takeDeferred hD2, ?_⟩⟩
        have h10 := (H3.out.front (X := objR D1 (.deferred (some []))) (by (repeat (first | with_reducible exact At.here | with_reducible apply At.there)))).putO (.deferred none)
        have k0 := (h10.blkA (g := g8) (t := 45) (cs := #[.int .i64 (vSaveG D a b).2]) (by (repeat (first | with_reducible exact At.here | with_reducible apply At.there)))).cell 0
        refine ⟨.int .i64 (vSaveG D a b).2, results_cellZ rfl _ rfl ?_, ?_⟩
        · go_simp
        · rw [E1.out, E2.out]
          exact ⟨rfl, h10.sub (by (repeat (first | with_reducible exact Sub.refl _ | (with_reducible apply Sub.take; focus (repeat (first | with_reducible exact At.here | with_reducible apply At.there))) | with_reducible apply Sub.drop)))⟩
end Go.Proofs.YtpaelngpmbeedaaGreatDoor
