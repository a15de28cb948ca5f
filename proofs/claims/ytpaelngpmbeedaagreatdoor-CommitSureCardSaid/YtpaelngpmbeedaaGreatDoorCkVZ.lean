/- slot.Load, slot.Put, slot.Save. -/
import Derived.Test.YtpaelngpmbeedaaGreatDoorCkLZ
import Derived.Test.YtpaelngpmbeedaaGreatDoorCkTZ
import Derived.Test.YtpaelngpmbeedaaGreatDoorImgEZ
namespace Go.Proofs.YtpaelngpmbeedaaGreatDoor
open Go.RowKit

/-! ### plain -/
def loadE (D : DS) (a : Int) : Int := if (lastM D a).q = 0 then 41 else 0
def loadB (D : DS) (a : Int) : List Int := if (lastM D a).q = 0 then [] else (lastM D a).b
def putS (D : DS) (a : Int) (b : List Int) : List Int := stampM ((lastM D a).q + 1) 0 b
def putI (D : DS) (a : Int) : Int := 2 * a + 1 - (lastM D a).at_
def putE (D : DS) (a : Int) (b : List Int) : Int := if (lastM D a).q = 4294967295 then 42 else D.sync.writeE (putI D a) (putS D a b)
def putD (D : DS) (a : Int) (b : List Int) : DS := if (lastM D a).q = 4294967295 then D else D.sync.write (putI D a) (putS D a b)
def saveD (D : DS) (a : Int) (b : List Int) : DS := if putE D a b = 0 then (putD D a b).sync else putD D a b
def saveE (D : DS) (a : Int) (b : List Int) : Int := if putE D a b = 0 then (if (putD D a b).sync.down = true then 43 else 0) else putE D a b
theorem DS.sync_nV (D : DS) : D.sync.n = D.n := by unfold DS.sync; split <;> rfl
theorem DS.write_nV (D : DS) (i : Int) (b : List Int) : (D.write i b).n = D.n := by
  unfold DS.write; split; · rfl
  split; · rfl
  split <;> rfl
theorem DS.write_pendV (D : DS) (i : Int) (b : List Int) : (D.write i b).pend.length ≤ D.pend.length + 1 := by
  unfold DS.write; split; · omega
  split; · omega
  split
  · simp [DS.put, DS.after]
  · show D.pend.length ≤ _
    omega
theorem DS.sync_pendV (D : DS) : D.sync.pend.length ≤ D.pend.length := by
  unfold DS.sync
  split
  · simp
  · exact Nat.le_refl _
theorem splice_bytes {xs vs : List Int} {o : Nat} (h : Bytes xs) (h2 : Bytes vs) : Bytes (splice xs o vs) := by
  intro x hx
  unfold splice at hx
  rcases List.mem_append.1 hx with hx | hx
  · rcases List.mem_append.1 hx with hx | hx
    · exact h x (List.mem_of_mem_take hx)
    · exact h2 x hx
  · exact h x (List.mem_of_mem_drop hx)
theorem zeros_bytes (k : Nat) : Bytes (zeros k) := by
  intro x hx
  rw [List.eq_of_mem_replicate hx]
  unfold isByte
  omega
theorem DS.write_bytes {D : DS} (h : Bytes D.seen) (i : Int) {b : List Int} (hb : Bytes b) : Bytes (D.write i b).seen := by
  unfold DS.write; split; · exact h
  split; · exact h
  split
  · exact splice_bytes h (hb.append (zeros_bytes _))
  · exact h
theorem DS.sync_seen (D : DS) : D.sync.seen = D.seen := by unfold DS.sync; split <;> rfl
theorem DS.sync_bytes {D : DS} (h : Bytes D.seen) : Bytes D.sync.seen := by rw [DS.sync_seen]; exact h
/-- a disk that may be worked on: whole, of bytes, and with room for the writes that are pending -/
structure DsOk (D : DS) (k : Nat) : Prop where
  ok : D.ok
  b : Bytes D.seen
  p : D.pend.length ≤ k
theorem DsOk.sync {D : DS} {k : Nat} (h : DsOk D k) : DsOk D.sync k := ⟨h.ok.sync, DS.sync_bytes h.b, Nat.le_trans D.sync_pendV h.p⟩
theorem DsOk.write {D : DS} {k : Nat} (h : DsOk D k) (i : Int) {b : List Int} (hb : Bytes b) : DsOk (D.write i b) (k + 1) := ⟨h.ok.write i b, DS.write_bytes h.b i hb, Nat.le_trans (D.write_pendV i b) (Nat.succ_le_succ h.p)⟩
theorem DsOk.mono {D : DS} {k m : Nat} (h : DsOk D k) (hm : k ≤ m) : DsOk D m := ⟨h.ok, h.b, Nat.le_trans h.p hm⟩
theorem DsOk.put {D : DS} {k : Nat} (h : DsOk D k) (a : Int) {b : List Int} (hb : Bytes b) : DsOk (putD D a b) (k + 1) := by
  unfold putD
  split
  · exact h.mono (by omega)
  · exact h.sync.write _ (stampM_bytes _ _ hb)
theorem DsOk.save {D : DS} {k : Nat} (h : DsOk D k) (a : Int) {b : List Int} (hb : Bytes b) : DsOk (saveD D a b) (k + 1) := by
  unfold saveD
  split
  · exact (h.put a hb).sync
  · exact h.put a hb
theorem putD_n (D : DS) (a : Int) (b : List Int) : (putD D a b).n = D.n := by
  unfold putD
  split
  · rfl
  · rw [DS.write_nV, DS.sync_nV]
theorem saveD_n (D : DS) (a : Int) (b : List Int) : (saveD D a b).n = D.n := by
  unfold saveD
  split
  · rw [DS.sync_nV, putD_n]
  · exact putD_n D a b

/-! ### the walks -/
set_option maxHeartbeats 1000000 in
theorem slRight_st {M0 : Imm} {L : List Res} (g : Nat) (D : DS) (a : Int) (w : World) (ha : 0 ≤ a ∧ a + 1 < (D.n : Int)) (h : St M0 w (dsR g D :: L)) (hn : D.n ≤ 512) :
    Calls Tryz.prog 101 #[.pointer (some ⟨g, 0, none⟩), .int .i64 a] w fun e w' => e = .returned (.bool true) ∧ St M0 w' (dsR g D :: L) := by
  have d0 : decide (a ≥ 0) = true := decide_eq_true ha.1
  have d0' : decide (0 ≤ a) = true := d0
  have w1 : IntKind.i64.wrap ((D.n : Int) - 1) = (D.n : Int) - 1 := IntWalk.i64_in _ (by omega)
  have d1 : decide (a < (D.n : Int) - 1) = true := decide_eq_true (by omega)
  have H := hide h
  clear h
  generalize hN : (D.n : Int) = N at *
  have HN := hide hN
  clear hN
  go_enter Tryz.func101, Tryz.ntmps101
  go_wp2_with fail
  refine (len_ds H.out).mono ?_
  rintro e w1 ⟨rfl, h⟩
  rw [HN.out]
  have H1 := hide h
  clear h H
  go_wp2_with fail
  go_ret
  exact ⟨rfl, H1.out⟩
set_option maxHeartbeats 2000000 in
set_option maxRecDepth 100000 in
theorem slLoad_st {M0 : Imm} {L : List Res} (hT : Tbl M0) (g k : Nat) (D : DS) (a : Int) (w : World) (hD : DsOk D k) (ha : 0 ≤ a ∧ a + 1 < (D.n : Int)) (h : St M0 w (dsR g D :: L)) :
    Calls Tryz.prog 70 #[.pointer (some ⟨g, 0, none⟩), .int .i64 a] w fun e w' => ∃ A c, e = .returned (.tuple #[.slice A (loadB D a).length c, .int .u32 (lastM D a).q, .int .i64 (loadE D a)]) ∧ St M0 w' (intsR .u8 (.slice A (loadB D a).length c) (loadB D a) :: dsR g D :: L) := by
  have HD := hide hD
  have HA := hide ha
  have hn := hD.ok.n2
  have H := hide h
  clear h hD
  go_enter Tryz.func70, Tryz.ntmps70
  go_wp2_with fail
  refine (slRight_st g D a _ HA.out H.out hn).mono ?_
  rintro e w1 ⟨rfl, h⟩
  have H1 := hide h
  clear h H
  go_wp2_with fail
  refine (last_st hT g D a _ HD.out.ok HD.out.b (by have := HA.out; omega) H1.out).mono ?_
  rintro e w2 ⟨A, c, rfl, h⟩
  obtain ⟨o, hoo⟩ : ∃ o, o = lastM D a := ⟨_, rfl⟩
  have E1 := hide (show loadB D a = if o.q = 0 then [] else o.b by rw [hoo]; rfl)
  have E2 := hide (show loadE D a = if o.q = 0 then 41 else 0 by rw [hoo]; rfl)
  rw [← hoo] at h ⊢
  have EO := hide hoo
  clear hoo
  have h1 := h.alloc 188 #[.int .i64 o.at_, .int .u32 o.q, .slice A o.b.length c]
  have c1 := (h1.blk 0 rfl).cell 1
  have c2 := (h1.blk 0 rfl).cell 2
  have H2 := hide h1.tail
  clear h h1 H1
  by_cases hq : o.q = 0
  · have b1 := isT hq
    have E1 := hide (E1.out.trans (if_pos hq))
    have E2 := hide (E2.out.trans (if_pos hq))
    have HQ := hide hq
    clear hq
    go_wp2_with fail
    ((try simp only [Exit.inBlock, Exit.then]); refine bodyPost_ret (results_three rfl _ _ _) rfl ?_)
    refine ⟨none, 0, by rw [E1.out, E2.out, ← EO.out, HQ.out]; rfl, ?_⟩
    rw [E1.out]
    exact (H2.out.tail.pers0 (R := fun w => Ints w .u8 (.slice none 0 0) []) (fun w' _ => Ints.none_ w' .u8))
  · have b1 := isF hq
    have E1 := hide (E1.out.trans (if_neg hq))
    have E2 := hide (E2.out.trans (if_neg hq))
    clear hq
    go_wp2_with fail
    go_quiet (fail)
    go_wp2_with fail
    ((try simp only [Exit.inBlock, Exit.then]); refine bodyPost_ret (results_three rfl _ _ _) rfl ?_)
    refine ⟨A, c, by rw [E1.out, E2.out, ← EO.out]; rfl, ?_⟩
    rw [E1.out]
    exact H2.out.drewN _
set_option maxHeartbeats 4000000 in
set_option maxRecDepth 100000 in
theorem slPut_st {M0 : Imm} {L : List Res} (hT : Tbl M0) (g k : Nat) (D : DS) (a : Int) (A : Option Addr) (n c : Nat) (b : List Int) (w : World) (hD : DsOk D k) (hk : k ≤ 900000) (ha : 0 ≤ a ∧ a + 1 < (D.n : Int)) (hn : n ≤ 43) (hb : Bytes b) (h : St M0 w (dsR g D :: intsR .u8 (.slice A n c) b :: L)) :
    Calls Tryz.prog 109 #[.pointer (some ⟨g, 0, none⟩), .int .i64 a, .slice A n c] w fun e w' => e = .returned (.int .i64 (putE D a b)) ∧ St M0 w' (dsR g (putD D a b) :: L) := by
  have HD := hide hD
  have HA := hide ha
  have hn5 := hD.ok.n2
  have HB := hide hb
  have E1 := hide (show putE D a b = if (lastM D a).q = 4294967295 then 42 else D.sync.writeE (putI D a) (putS D a b) from rfl)
  have E2 := hide (show putD D a b = if (lastM D a).q = 4294967295 then D else D.sync.write (putI D a) (putS D a b) from rfl)
  have E3 := hide (show putS D a b = stampM ((lastM D a).q + 1) 0 b from rfl)
  have E4 := hide (show putI D a = 2 * a + 1 - (lastM D a).at_ from rfl)
  have R := hide (lastTo_range hD.b a 2)
  have R2 := hide (lastTo_at D a 2 (Nat.le_refl 2))
  have R : Hid (0 ≤ (lastM D a).q ∧ (lastM D a).q < 4294967296 ∧ (lastM D a).b.length ≤ 43 ∧ Bytes (lastM D a).b) := R
  have R2 : Hid ((lastM D a).at_ = a ∨ (lastM D a).at_ = a + 1) := R2
  have H := hide h
  clear h hD hb
  go_enter Tryz.func109, Tryz.ntmps109
  go_wp2_with fail
  refine (slRight_st g D a _ HA.out H.out hn5).mono ?_
  rintro e w1 ⟨rfl, h⟩
  have H1 := hide h
  clear h H
  go_wp2_with fail
  refine (last_st hT g D a _ HD.out.ok HD.out.b (by have := HA.out; omega) H1.out).mono ?_
  rintro e w2 ⟨A2, c2, rfl, h⟩
  generalize putS D a b = ps at *
  generalize putI D a = pi at *
  generalize lastM D a = o at *
  obtain ⟨oa, oq, ob⟩ := o
  have E1 : Hid (putE D a b = if oq = 4294967295 then 42 else D.sync.writeE pi ps) := E1
  have E2 : Hid (putD D a b = if oq = 4294967295 then D else D.sync.write pi ps) := E2
  have E3 : Hid (ps = stampM (oq + 1) 0 b) := E3
  have E4 : Hid (pi = 2 * a + 1 - oa) := E4
  have R : Hid (0 ≤ oq ∧ oq < 4294967296 ∧ ob.length ≤ 43 ∧ Bytes ob) := R
  have R2 : Hid (oa = a ∨ oa = a + 1) := R2
  have h1 := h.alloc 188 #[.int .i64 oa, .int .u32 oq, .slice A2 ob.length c2]
  have c0 := (h1.blk 0 rfl).cell 0
  have c1 := (h1.blk 0 rfl).cell 1
  have H2 := hide (h1.sub (L' := intsR .u8 (.slice A n c) b :: dsR g D :: blkR w2.heap.size 188 #[.int .i64 oa, .int .u32 oq, .slice A2 ob.length c2] :: L) (by (repeat (first | with_reducible exact Sub.refl _ | (with_reducible apply Sub.take; focus (repeat (first | with_reducible exact At.here | with_reducible apply At.there))) | with_reducible apply Sub.drop))))
  clear h h1 H1
  obtain ⟨q1, hq1⟩ : ∃ q1, IntKind.u32.wrap (oq + 1) = q1 := ⟨_, rfl⟩
  have hr1 := wrap_u32 (oq + 1)
  rw [hq1] at hr1
  have HR1 := hide hr1
  clear hr1
  go_wp2_with fail
  obtain ⟨gx, hgx⟩ : ∃ gx, gx = w2.heap.size := ⟨_, rfl⟩
  rw [← hgx] at H2 c0 c1
  rw [← hgx]
  refine (stamp_st hT q1 0 A n c b _ HR1.out (by decide) hn HB.out H2.out).mono ?_
  rintro e w3 ⟨A3, c3, rfl, h⟩
  have y0 := (h.blkA (g := gx) (t := 188) (cs := #[.int .i64 oa, .int .u32 oq, .slice A2 ob.length c2]) (by (repeat (first | with_reducible exact At.here | with_reducible apply At.there)))).cell 0
  have y1 := (h.blkA (g := gx) (t := 188) (cs := #[.int .i64 oa, .int .u32 oq, .slice A2 ob.length c2]) (by (repeat (first | with_reducible exact At.here | with_reducible apply At.there)))).cell 1
  have H3 := hide h
  clear h H2 c0 c1 hgx
  by_cases hq : oq = 4294967295
  · have b1 := isT hq
    have E1 := hide (E1.out.trans (if_pos hq))
    have E2 := hide (E2.out.trans (if_pos hq))
    clear hq
    go_wp2_with fail
    go_ret
    rw [E1.out, E2.out]
    exact ⟨rfl, H3.out.sub (by (repeat (first | with_reducible exact Sub.refl _ | (with_reducible apply Sub.take; focus (repeat (first | with_reducible exact At.here | with_reducible apply At.there))) | with_reducible apply Sub.drop)))⟩
  · have b1 := isF hq
    have E1 := hide (E1.out.trans (if_neg hq))
    have E2 := hide (E2.out.trans (if_neg hq))
    have E3 := hide (show ps = stampM q1 0 b by
      rw [E3.out, ← hq1, show IntKind.u32.wrap (oq + 1) = (oq + 1) % 4294967296 from rfl]
      congr 1
      have := R.out
      omega)
    clear hq hq1
    go_wp2_with fail
    refine (sync_ds HD.out.ok (by have := HD.out.p; omega) (H3.out.front (X := dsR g D) (by (repeat (first | with_reducible exact At.here | with_reducible apply At.there))))).mono ?_
    rintro e w4 ⟨rfl, h⟩
    have z0 := (h.blkA (g := gx) (t := 188) (cs := #[.int .i64 oa, .int .u32 oq, .slice A2 ob.length c2]) (by (repeat (first | with_reducible exact At.here | with_reducible apply At.there)))).cell 0
    have H4 := hide h
    clear h H3 y0 y1
    have v1 : IntKind.i64.wrap (2 * a) = 2 * a := IntWalk.i64_in _ (by have := HA.out; omega)
    have v2 : IntKind.i64.wrap (2 * a + 1) = 2 * a + 1 := IntWalk.i64_in _ (by have := HA.out; omega)
    have v3 : IntKind.i64.wrap (2 * a + 1 - oa) = pi := (IntWalk.i64_in _ (by have := HA.out; have := R2.out; omega)).trans E4.out.symm
    go_wp2_with fail
    have HDS := HD.out.sync
    refine (write_ds pi (.slice A3 64 c3) (stampM q1 0 b) 0 HDS.ok (by have := HDS.p; omega) rfl H4.out).mono ?_
    rintro e w5 ⟨rfl, h⟩
    rw [← E3.out] at h ⊢
    have H5 := hide h
    clear h H4
    go_wp2_with fail
    go_ret
    rw [E1.out, E2.out]
    exact ⟨rfl, H5.out.sub (by (repeat (first | with_reducible exact Sub.refl _ | (with_reducible apply Sub.take; focus (repeat (first | with_reducible exact At.here | with_reducible apply At.there))) | with_reducible apply Sub.drop)))⟩
set_option maxHeartbeats 4000000 in
set_option maxRecDepth 100000 in
theorem slSave_st {M0 : Imm} {L : List Res} (hT : Tbl M0) (g k : Nat) (D : DS) (a : Int) (A : Option Addr) (n c : Nat) (b : List Int) (w : World) (hD : DsOk D k) (hk : k ≤ 900000) (ha : 0 ≤ a ∧ a + 1 < (D.n : Int)) (hn : n ≤ 43) (hb : Bytes b) (h : St M0 w (dsR g D :: intsR .u8 (.slice A n c) b :: L)) :
    Calls Tryz.prog 84 #[.pointer (some ⟨g, 0, none⟩), .int .i64 a, .slice A n c] w fun e w' => e = .returned (.int .i64 (saveE D a b)) ∧ St M0 w' (dsR g (saveD D a b) :: L) := by
  have HD1 := hide (hD.put a hb)
  have HC := hide (slPut_st hT g k D a A n c b w hD hk ha hn hb h)
  have E1 := hide (show saveE D a b = if putE D a b = 0 then (if (putD D a b).sync.down = true then 43 else 0) else putE D a b from rfl)
  have E2 := hide (show saveD D a b = if putE D a b = 0 then (putD D a b).sync else putD D a b from rfl)
  generalize putE D a b = pe at *
  generalize putD D a b = pd at *
  clear h hD hb
  go_enter Tryz.func84, Tryz.ntmps84
  go_wp2_with fail
  refine HC.out.mono ?_
  rintro e w1 ⟨rfl, h⟩
  have H1 := hide h
  clear h HC
  by_cases hp : pe = 0
  · subst hp
    have E1 := hide (E1.out.trans (if_pos rfl))
    have E2 := hide (E2.out.trans (if_pos rfl))
    go_wp2_with fail
    refine (sync_ds HD1.out.ok (by have := HD1.out.p; omega) H1.out).mono ?_
    rintro e w2 ⟨rfl, h⟩
    have H2 := hide h
    clear h H1
    obtain ⟨t, ht⟩ : ∃ t, pd.sync.down = t := ⟨_, rfl⟩
    go_wp2_with fail
    refine (down_ds H2.out).mono ?_
    rintro e w3 ⟨rfl, h⟩
    rw [ht]
    have H3 := hide h
    have HT := hide ht
    clear h H2 ht
    cases t
    all_goals
      go_wp2_with fail
      go_ret
      rw [E1.out, E2.out, HT.out]
      exact ⟨rfl, H3.out⟩
  · have b1 := isF hp
    have E1 := hide (E1.out.trans (if_neg hp))
    have E2 := hide (E2.out.trans (if_neg hp))
    clear hp
    go_wp2_with fail
    go_ret
    rw [E1.out, E2.out]
    exact ⟨rfl, H1.out⟩
end Go.Proofs.YtpaelngpmbeedaaGreatDoor
/- vault.right, Room, read, mark.bytes, Load (an area of 21 sectors). -/
namespace Go.Proofs.YtpaelngpmbeedaaGreatDoor
open Go.RowKit

/-! ### plain -/
structure MkM where
  ar : Int
  nu : Int
  sz : Int
  ok : Bool
def mark0 : MkM := ⟨1, 0, 0, false⟩
def mkR (b : List Int) : Rd := ((((Rd.mk b false).num 1).2.num 4).2.num 2).2
def mkOf (b : List Int) : MkM := ⟨((Rd.mk b false).num 1).1, (((Rd.mk b false).num 1).2.num 4).1, ((((Rd.mk b false).num 1).2.num 4).2.num 2).1, true⟩
def markB (b : List Int) : MkM := if (mkR b).endE ≠ 0 ∨ (mkOf b).ar > 1 then mark0 else mkOf b
def markM (D : DS) (a : Int) : MkM := if loadE D a = 0 then markB (loadB D a) else mark0
def markW (m : MkM) : List Int := numB m.ar 1 ++ numB m.nu 4 ++ numB m.sz 2
theorem markB_range {b : List Int} (h : Bytes b) (hl : b.length ≤ 100000) : 0 ≤ (markB b).ar ∧ (markB b).ar ≤ 1 ∧ 0 ≤ (markB b).nu ∧ (markB b).nu < 4294967296 ∧ 0 ≤ (markB b).sz ∧ (markB b).sz < 65536 := by
  have ok0 : Rd.Ok (Rd.mk b false) := ⟨h, by show b.length ≤ 140737488355328; omega, fun h => by cases h⟩
  unfold markB
  split
  · decide
  · rename_i hc
    have h1 := Rd.num1_lt ok0
    have h2 := Rd.num4_lt (ok0.num 1)
    have h3 := Rd.num_lt (((Rd.mk b false).num 1).2.num 4).2 ((ok0.num 1).num 4).hb 2 (by omega) (by omega)
    have h4 : ¬ (mkOf b).ar > 1 := fun h => hc (.inr h)
    exact ⟨h1.1, by omega, h2.1, h2.2, h3.1, h3.2⟩
theorem markM_range {D : DS} (h : Bytes D.seen) (a : Int) : 0 ≤ (markM D a).ar ∧ (markM D a).ar ≤ 1 ∧ 0 ≤ (markM D a).nu ∧ (markM D a).nu < 4294967296 ∧ 0 ≤ (markM D a).sz ∧ (markM D a).sz < 65536 := by
  unfold markM
  split
  · have R := lastTo_range h a 2
    refine markB_range ?_ ?_
    · unfold loadB
      split
      · exact Bytes.nil
      · exact R.2.2.2
    · unfold loadB
      split
      · simp
      · have := R.2.2.1
        show (lastTo D a 2).b.length ≤ _
        omega
  · decide
theorem loadB_len {D : DS} (h : Bytes D.seen) (a : Int) : (loadB D a).length ≤ 43 ∧ Bytes (loadB D a) := by
  have R := lastTo_range h a 2
  unfold loadB
  split
  · exact ⟨by simp, Bytes.nil⟩
  · exact ⟨R.2.2.1, R.2.2.2⟩

/-! ### the walks -/
set_option maxHeartbeats 1000000 in
theorem vRight_st {M0 : Imm} {L : List Res} (g : Nat) (D : DS) (a : Int) (w : World) (ha : 0 ≤ a ∧ a + 44 ≤ (D.n : Int)) (hn : D.n ≤ 512) (h : St M0 w (dsR g D :: L)) :
    Calls Tryz.prog 77 #[.pointer (some ⟨g, 0, none⟩), .int .i64 a, .int .i64 21] w fun e w' => e = .returned (.int .i64 0) ∧ St M0 w' (dsR g D :: L) := by
  have d0 : decide (a < 0) = false := decide_eq_false (by omega)
  have H := hide h
  clear h
  generalize hN : (D.n : Int) = N at *
  have w1 : IntKind.i64.wrap (N - 2) = N - 2 := IntWalk.i64_in _ (by omega)
  have w2 : IntKind.i64.wrap (N - 2 - 42) = N - 2 - 42 := IntWalk.i64_in _ (by omega)
  have d1 : decide (a > N - 2 - 42) = false := decide_eq_false (by omega)
  have d1' : decide (N - 2 - 42 < a) = false := d1
  have HN := hide hN
  clear hN
  go_enter Tryz.func77, Tryz.ntmps77
  go_wp2_with fail
  refine (len_ds H.out).mono ?_
  rintro e w1 ⟨rfl, h⟩
  rw [HN.out]
  have H1 := hide h
  clear h H
  go_wp2_with fail
  go_ret
  exact ⟨rfl, H1.out⟩
theorem room_q (w : World) : Calls Tryz.prog 79 #[.int .i64 21] w fun e w' => e = .returned (.int .i64 903) ∧ ∃ n, w' = w.drewN n := by
  go_enter Tryz.func79, Tryz.ntmps79
  go_wp2_with fail
  go_ret
  exact ⟨rfl, 0, rfl⟩
set_option maxHeartbeats 4000000 in
set_option maxRecDepth 100000 in
theorem vRead_st {M0 : Imm} {L : List Res} (hT : Tbl M0) (g k : Nat) (D : DS) (a : Int) (w : World) (hD : DsOk D k) (ha : 0 ≤ a ∧ a + 1 < (D.n : Int)) (h : St M0 w (dsR g D :: L)) :
    Calls Tryz.prog 78 #[.pointer (some ⟨g, 0, none⟩), .int .i64 a] w fun e w' => e = .returned (.tuple #[.agg #[.int .i64 (markM D a).ar, .int .u32 (markM D a).nu, .int .i64 (markM D a).sz], .bool (markM D a).ok]) ∧ St M0 w' (dsR g D :: L) := by
  have HD := hide hD
  have HA := hide ha
  have LB := hide (loadB_len hD.b a)
  have E0 := hide (show markM D a = if loadE D a = 0 then markB (loadB D a) else mark0 from rfl)
  have h1 := h.alloc 147 #[.int .i64 0, .int .u32 0, .int .i64 0]
  obtain ⟨gr, hgr⟩ : ∃ gr, gr = w.heap.size := ⟨_, rfl⟩
  rw [← hgr] at h1
  have H := hide h1.swap
  have HG := hide hgr
  clear h h1 hD hgr
  go_enter Tryz.func78, Tryz.ntmps78
  go_wp2_with fail
  rw [← HG.out]
  refine (slLoad_st hT g k D a _ HD.out HA.out H.out).mono ?_
  rintro e w1 ⟨A, c, rfl, h⟩
  have H1 := hide h
  clear h H
  generalize loadB D a = b at *
  generalize loadE D a = le at *
  generalize (lastM D a).q = lq at *
  by_cases hle : le = 0
  · have E1 := hide (E0.out.trans (if_pos hle))
    subst hle
    have E2 := hide (show markB b = if (mkR b).endE ≠ 0 ∨ (mkOf b).ar > 1 then mark0 else mkOf b from rfl)
    have ok0 : Rd.Ok (Rd.mk b false) := ⟨LB.out.2, by show b.length ≤ 140737488355328; have := LB.out.1; omega, fun h => by cases h⟩
    have OK0 := hide ok0
    have E3 := hide (show mkR b = ((((Rd.mk b false).num 1).2.num 4).2.num 2).2 from rfl)
    have E4 := hide (show mkOf b = ⟨((Rd.mk b false).num 1).1, (((Rd.mk b false).num 1).2.num 4).1, ((((Rd.mk b false).num 1).2.num 4).2.num 2).1, true⟩ from rfl)
    clear ok0 E0
    go_wp2_with fail
    refine (read_st _ b _ H1.out).mono ?_
    rintro e w2 ⟨gx, rfl, h⟩
    have H2 := hide h
    clear h H1
    go_wp2_with fail
    have HB0 := hide (Rd.num1_lt OK0.out)
    have OK1 := hide (OK0.out.num 1)
    refine (rdnum_st gx _ 1 _ OK0.out.hb OK0.out.hl OK0.out.hz H2.out).mono ?_
    rintro e w3 ⟨rfl, h⟩
    have H3 := hide h
    clear h H2
    generalize mkR b = rr at *
    generalize mkOf b = mo at *
    generalize ((Rd.mk b false).num 1).2 = r1 at *
    generalize ((Rd.mk b false).num 1).1 = x0 at *
    have v0 : IntKind.i64.wrap x0 = x0 := IntWalk.i64_in _ (by have := HB0.out; omega)
    go_wp2_with fail
    have HB1 := hide (Rd.num4_lt OK1.out)
    have OK2 := hide (OK1.out.num 4)
    refine (rdnum_st gx _ 4 _ OK1.out.hb OK1.out.hl OK1.out.hz H3.out).mono ?_
    rintro e w4 ⟨rfl, h⟩
    have H4 := hide h
    clear h H3
    generalize (r1.num 4).2 = r2 at *
    generalize (r1.num 4).1 = x1 at *
    have v1 : IntKind.u32.wrap x1 = x1 := u64_u32 HB1.out
    go_wp2_with fail
    have HB2 := hide (Rd.num_lt r2 OK2.out.hb 2 (by omega) (by omega))
    have OK3 := hide (OK2.out.num 2)
    refine (rdnum_st gx _ 2 _ OK2.out.hb OK2.out.hl OK2.out.hz H4.out).mono ?_
    rintro e w5 ⟨rfl, h⟩
    have HB2 : Hid (0 ≤ (r2.num 2).1 ∧ (r2.num 2).1 < 65536) := HB2
    generalize (r2.num 2).2 = r3 at *
    generalize (r2.num 2).1 = x2 at *
    have v2 : IntKind.i64.wrap x2 = x2 := IntWalk.i64_in _ (by have := HB2.out; omega)
    have h6 := h.alloc 147 #[.int .i64 x0, .int .u32 x1, .int .i64 x2]
    obtain ⟨gm, hgm⟩ : ∃ gm, gm = w5.heap.size := ⟨_, rfl⟩
    rw [← hgm] at h6
    have H5 := hide h6.swap
    have HGM := hide hgm
    clear h h6 H4 hgm
    go_wp2_with fail
    rw [← HGM.out]
    refine (rdend_st gx r3 _ H5.out).mono ?_
    rintro e w6 ⟨rfl, h⟩
    have H6 := hide (h.sub (L' := blkR gr 147 #[.int .i64 0, .int .u32 0, .int .i64 0] :: blkR gm 147 #[.int .i64 x0, .int .u32 x1, .int .i64 x2] :: dsR g D :: L) (by (repeat (first | with_reducible exact Sub.refl _ | (with_reducible apply Sub.take; focus (repeat (first | with_reducible exact At.here | with_reducible apply At.there))) | with_reducible apply Sub.drop))))
    have y0 := (H6.out.blk 0 rfl).cell 0
    have y1 := (H6.out.blk 0 rfl).cell 1
    have y2 := (H6.out.blk 0 rfl).cell 2
    have f := (H6.out.blk 0 rfl).frozen
    have z0 := (H6.out.blk 1 rfl).cell 0
    have z1 := (H6.out.blk 1 rfl).cell 1
    have z2 := (H6.out.blk 1 rfl).cell 2
    clear h H5 HGM HG
    have E3 : Hid (rr = r3) := E3
    have E4 : Hid (mo = ⟨x0, x1, x2, true⟩) := E4
    obtain ⟨t1, ht1⟩ : ∃ t1, (r3.endE != 0) = t1 := ⟨_, rfl⟩
    obtain ⟨t2, ht2⟩ : ∃ t2, decide (x0 > 1) = t2 := ⟨_, rfl⟩
    have ht2' : decide (1 < x0) = t2 := ht2
    have E5 := hide (show markB b = if (t1 || t2) = true then mark0 else mo by
      rw [E2.out, E3.out, E4.out]
      congr 1
      rw [← ht1, ← ht2]
      simp)
    by_cases ht : (t1 || t2) = true
    · have E6 := hide (E1.out.trans (E5.out.trans (if_pos ht)))
      have h7 := ((H6.out.put_ 0 (.int .i64 1) #[.int .i64 1, .int .u32 0, .int .i64 0]).put_ 1 (.int .u32 0) #[.int .i64 1, .int .u32 0, .int .i64 0]).put_ 2 (.int .i64 0) #[.int .i64 1, .int .u32 0, .int .i64 0]
      have k0 := (h7.blk 0 rfl).cell 0
      have k1 := (h7.blk 0 rfl).cell 1
      have k2 := (h7.blk 0 rfl).cell 2
      have H7 := hide h7.tail.tail
      clear h7 H6
      cases t1
      case' false => cases t2
      case' false.false => exact absurd ht (by decide)
      all_goals
        clear ht
        go_wp2_with fail
        refine bodyPost_ret (results_cell2 (v := .agg #[.int .i64 1, .int .u32 0, .int .i64 0]) rfl _ rfl ?_) rfl (by rw [E6.out]; exact ⟨rfl, H7.out⟩)
        go_simp
    · have E6 := hide (E1.out.trans (E5.out.trans (if_neg ht)))
      have h7 := ((H6.out.put_ 0 (.int .i64 x0) #[.int .i64 x0, .int .u32 0, .int .i64 0]).put_ 1 (.int .u32 x1) #[.int .i64 x0, .int .u32 x1, .int .i64 0]).put_ 2 (.int .i64 x2) #[.int .i64 x0, .int .u32 x1, .int .i64 x2]
      have k0 := (h7.blk 0 rfl).cell 0
      have k1 := (h7.blk 0 rfl).cell 1
      have k2 := (h7.blk 0 rfl).cell 2
      have H7 := hide h7.tail.tail
      clear h7 H6
      have htt : t1 = false ∧ t2 = false := by simpa using ht
      obtain ⟨rfl, rfl⟩ := htt
      clear ht
      go_wp2_with fail
      refine bodyPost_ret (results_cell2 (v := .agg #[.int .i64 x0, .int .u32 x1, .int .i64 x2]) rfl _ rfl ?_) rfl (by rw [E6.out, E4.out]; exact ⟨rfl, H7.out⟩)
      go_simp
  · have E1 := hide (E0.out.trans (if_neg hle))
    have b1 := isN hle
    have H2 := hide (H1.out.sub (L' := blkR gr 147 #[.int .i64 0, .int .u32 0, .int .i64 0] :: dsR g D :: L) (by (repeat (first | with_reducible exact Sub.refl _ | (with_reducible apply Sub.take; focus (repeat (first | with_reducible exact At.here | with_reducible apply At.there))) | with_reducible apply Sub.drop))))
    have y0 := (H2.out.blk 0 rfl).cell 0
    have y1 := (H2.out.blk 0 rfl).cell 1
    have y2 := (H2.out.blk 0 rfl).cell 2
    have f := (H2.out.blk 0 rfl).frozen
    have h7 := ((H2.out.put_ 0 (.int .i64 1) #[.int .i64 1, .int .u32 0, .int .i64 0]).put_ 1 (.int .u32 0) #[.int .i64 1, .int .u32 0, .int .i64 0]).put_ 2 (.int .i64 0) #[.int .i64 1, .int .u32 0, .int .i64 0]
    have k0 := (h7.blk 0 rfl).cell 0
    have k1 := (h7.blk 0 rfl).cell 1
    have k2 := (h7.blk 0 rfl).cell 2
    have H7 := hide h7.tail
    clear h7 H1 H2 hle HG
    go_wp2_with fail
    refine bodyPost_ret (results_cell2 (v := .agg #[.int .i64 1, .int .u32 0, .int .i64 0]) rfl _ rfl ?_) rfl (by rw [E1.out]; exact ⟨rfl, H7.out⟩)
    go_simp
set_option maxHeartbeats 1000000 in
theorem mBytes_st {M0 : Imm} {L : List Res} (m : MkM) (w : World) (h0 : 0 ≤ m.ar ∧ m.ar ≤ 1) (h1 : 0 ≤ m.nu ∧ m.nu < 4294967296) (h2 : 0 ≤ m.sz ∧ m.sz ≤ 100000) (h : St M0 w L) :
    Calls Tryz.prog 85 #[.agg #[.int .i64 m.ar, .int .u32 m.nu, .int .i64 m.sz]] w fun e w' => ∃ A c, e = .returned (.slice A 7 c) ∧ St M0 w' (intsR .u8 (.slice A 7 c) (markW m) :: L) := by
  obtain ⟨ar, nu, sz, _⟩ := m
  have v0 : IntKind.u64.wrap ar = ar := IntWalk.u64_in _ (by show 0 ≤ ar ∧ _; have : 0 ≤ ar ∧ ar ≤ 1 := h0; omega)
  have v1 : IntKind.u64.wrap nu = nu := u32_u64 h1
  have v2 : IntKind.u64.wrap sz = sz := IntWalk.u64_in _ (by show 0 ≤ sz ∧ _; have : 0 ≤ sz ∧ sz ≤ 100000 := h2; omega)
  have h3 := h.alloc 147 #[.int .i64 ar, .int .u32 nu, .int .i64 sz]
  obtain ⟨gm, hgm⟩ : ∃ gm, gm = w.heap.size := ⟨_, rfl⟩
  rw [← hgm] at h3
  have h4 := h3.newWr
  rw [World.size_alloc] at h4
  have c0 := (h4.blkA (g := gm) (t := 147) (cs := #[.int .i64 ar, .int .u32 nu, .int .i64 sz]) (by (repeat (first | with_reducible exact At.here | with_reducible apply At.there)))).cell 0
  rw [hgm] at c0
  have H := hide h4
  have HG := hide hgm
  clear h h0 h1 h2 h3 h4 hgm
  go_enter Tryz.func85, Tryz.ntmps85
  go_wp2_with fail
  refine (num_st (w.heap.size + 1) ar 1 [] _ (by simp) H.out).mono ?_
  rintro e w1 ⟨rfl, h⟩
  rw [numJ1, List.nil_append] at h
  have c1 := (h.blkA (g := gm) (t := 147) (cs := #[.int .i64 ar, .int .u32 nu, .int .i64 sz]) (by (repeat (first | with_reducible exact At.here | with_reducible apply At.there)))).cell 1
  have H1 := hide h
  clear h H c0
  rw [HG.out] at c1
  go_wp2_with fail
  refine (num_st (w.heap.size + 1) nu 4 _ _ (by simp only [numB_length]; omega) H1.out).mono ?_
  rintro e w2 ⟨rfl, h⟩
  rw [numI4] at h
  have c2 := (h.blkA (g := gm) (t := 147) (cs := #[.int .i64 ar, .int .u32 nu, .int .i64 sz]) (by (repeat (first | with_reducible exact At.here | with_reducible apply At.there)))).cell 2
  have H2 := hide h
  clear h H1 c1
  rw [HG.out] at c2
  go_wp2_with fail
  refine (num_st (w.heap.size + 1) sz 2 _ _ (by simp only [List.length_append, numB_length]; omega) H2.out).mono ?_
  rintro e w3 ⟨rfl, h⟩
  rw [show numI sz 2 = numB sz 2 from rfl] at h
  have H3 := hide h
  clear h H2 c2
  go_wp2_with fail
  refine (out_st (w.heap.size + 1) _ _ (by simp only [List.length_append, numB_length]; omega) H3.out).mono ?_
  rintro e w4 ⟨v, rfl, h⟩
  obtain ⟨A, c, rfl⟩ := h.slice
  have h5 := St.ints (k := .u8) (xs := numB ar 1 ++ numB nu 4 ++ numB sz 2) h
  have hl : (numB ar 1 ++ numB nu 4 ++ numB sz 2).length = 7 := by simp only [List.length_append, numB_length]
  rw [hl] at h5 ⊢
  have H5 := hide (h5.sub (L' := intsR .u8 (.slice A 7 c) (numB ar 1 ++ numB nu 4 ++ numB sz 2) :: L) (by (repeat (first | with_reducible exact Sub.refl _ | (with_reducible apply Sub.take; focus (repeat (first | with_reducible exact At.here | with_reducible apply At.there))) | with_reducible apply Sub.drop))))
  clear h h5 H3 hl
  go_wp2_with fail
  go_ret
  exact ⟨A, c, rfl, H5.out⟩
end Go.Proofs.YtpaelngpmbeedaaGreatDoor
