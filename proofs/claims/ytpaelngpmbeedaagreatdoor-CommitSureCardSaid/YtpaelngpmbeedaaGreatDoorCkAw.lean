/- CommitChecks: awake. Printed by gen_ckaw.py out of ckaw.in. -/
import Derived.Test.YtpaelngpmbeedaaGreatDoorCkQZ
import Derived.Test.YtpaelngpmbeedaaGreatDoorStZ
namespace Go.Proofs.YtpaelngpmbeedaaGreatDoor
open Go.RowKit

theorem encB1 : Bytes (encQ put1) := encQ_bytes (r := put1) (byB_ok rfl)
theorem encB2 : Bytes (encQ put2) := encQ_bytes (r := put2) (byB_ok rfl)
theorem encB3 : Bytes (encQ get1) := encQ_bytes (r := get1) Bytes.nil
theorem elem0 {w : World} {ad : Addr} {cs : List Value} {u : Value} (h : ∀ j u, cs[j]? = some u → w.cell? ((ad.add (0 * 1)).add j) = some u) (hc : cs[0]? = some u) : w.cell? ad = some u := by simpa [Addr.add] using h 0 u hc
theorem St.sOpen {M0 : Imm} {w : World} {L : List Res} {gs gd gj gi : Nat} {a : Int} {ring : Nat} {s : SM} (h : St M0 w (srvR gs gd gj gi a ring s L)) : St M0 w (dsR gd s.D :: L) := h.tail.tail.tail
set_option maxHeartbeats 8000000 in
set_option maxRecDepth 100000 in
theorem awake22_st {M0 : Imm} {L : List Res} (hT : Tbl M0) (w : World) (h : St M0 w L) : Calls Tryz.prog 5 #[] w fun e w' => e = .returned (.bool true) ∧ St M0 w' L := by
  have H := hide h
  clear h
  go_enter Tryz.func5, Tryz.ntmps5
  go_wp2_with fail
  refine (opened_st hT _ H.out).mono ?_
  rintro e w1 ⟨gd, gs, gj, gi, rfl, h⟩
  have h1 := ((h.litInts 5 .u8 [97] (by decide) w1.heap.size rfl).alloc 42 #[.int .i64 2, .int .i64 0, .int .i64 0, .int .u64 1, .int .u32 1, .slice (some ⟨w1.heap.size, 0, none⟩) 1 1]).alloc 42 #[.int .i64 1, .int .i64 0, .int .i64 0, .int .u64 1, .int .u32 0, .slice none 0 0]
  simp only [World.size_alloc] at h1
  obtain ⟨p, hp⟩ : ∃ p, p = w1.heap.size := ⟨_, rfl⟩
  rw [← hp] at h1
  have HP := hide hp
  obtain ⟨e0, e1, e2, e3, e4, e5⟩ := (h1.blk 1 rfl).six
  have H1 := hide h1
  clear H h h1 hp
  go_wp2_with fail
  rw [← HP.out]
  have H1 : Hid (St M0 _ (_ :: _ :: intsR .u8 (.slice (some ⟨p, 0, none⟩) 1 1) [97] :: _)) := H1
  refine (cDo_st hT gs gd gj gi 100 1 6 sa0 put1 (some ⟨p, 0, none⟩) 1 1 _ (by decide) (soB_ok so0 sa0_m) put1_ok encB1 (encQ_43 _) (H1.out.sub (L' := intsR .u8 (.slice (some ⟨p, 0, none⟩) 1 1) [97] :: srvR gs gd gj gi 1 6 sa0 (blkR (p + 1) 42 #[.int .i64 2, .int .i64 0, .int .i64 0, .int .u64 1, .int .u32 1, .slice (some ⟨p, 0, none⟩) 1 1] :: blkR (p + 1 + 1) 42 #[.int .i64 1, .int .i64 0, .int .i64 0, .int .u64 1, .int .u32 0, .slice none 0 0] :: L)) (by unfold srvR; (repeat (first | with_reducible exact Sub.refl _ | (with_reducible apply Sub.take; focus (repeat (first | with_reducible exact At.here | with_reducible apply At.there))) | with_reducible apply Sub.drop))))).mono ?_
  rintro e w2 ⟨V1, rfl, h⟩
  rw [eE1]
  have h : St M0 w2 (dsR gd sa1.D :: blkR (p + 1) 42 #[.int .i64 2, .int .i64 0, .int .i64 0, .int .u64 1, .int .u32 1, .slice (some ⟨p, 0, none⟩) 1 1] :: blkR (p + 1 + 1) 42 #[.int .i64 1, .int .i64 0, .int .i64 0, .int .u64 1, .int .u32 0, .slice none 0 0] :: L) := h.tail.tail.tail.tail
  have H2 := hide (h.pers0 (R := fun w => Ints w .i64 (.slice none 0 0) []) (fun w' _ => Ints.none_ w' .i64)).swap
  clear h H1 e0 e1 e2 e3 e4 e5
  go_wp2_with fail
  refine (crash_ds (.slice none 0 0) [] 0 (dsB_ok dz1).ok (by have := (dsB_ok dz1).p; omega) rfl H2.out).mono ?_
  rintro e w3 ⟨rfl, h⟩
  have h : St M0 w3 (dsR gd ds2 :: blkR (p + 1) 42 #[.int .i64 2, .int .i64 0, .int .i64 0, .int .u64 1, .int .u32 1, .slice (some ⟨p, 0, none⟩) 1 1] :: blkR (p + 1 + 1) 42 #[.int .i64 1, .int .i64 0, .int .i64 0, .int .u64 1, .int .u32 0, .slice none 0 0] :: L) := h.sub (L' := dsR gd (sa1.D.crash []) :: blkR (p + 1) 42 #[.int .i64 2, .int .i64 0, .int .i64 0, .int .u64 1, .int .u32 1, .slice (some ⟨p, 0, none⟩) 1 1] :: blkR (p + 1 + 1) 42 #[.int .i64 1, .int .i64 0, .int .i64 0, .int .u64 1, .int .u32 0, .slice none 0 0] :: L) (by (repeat (first | with_reducible exact Sub.refl _ | (with_reducible apply Sub.take; focus (repeat (first | with_reducible exact At.here | with_reducible apply At.there))) | with_reducible apply Sub.drop)))
  have H3 := hide h
  clear h H2
  go_wp2_with fail
  refine (cOpen_st hT gd 1000 ds2 1 6 _ (dsB_ok dz2) (by decide) (opB_ok op2) H3.out).mono ?_
  rintro e w3o ⟨gs3, gj3, gi3, rfl, h⟩
  have h : St M0 w3o (srvR gs3 gd gj3 gi3 1 6 sa2 (blkR (p + 1) 42 #[.int .i64 2, .int .i64 0, .int .i64 0, .int .u64 1, .int .u32 1, .slice (some ⟨p, 0, none⟩) 1 1] :: blkR (p + 1 + 1) 42 #[.int .i64 1, .int .i64 0, .int .i64 0, .int .u64 1, .int .u32 0, .slice none 0 0] :: L)) := h
  clear H3
  obtain ⟨e0, e1, e2, e3, e4, e5⟩ := (h.blk 5 rfl).six
  have H4 := hide (h.pers0 (R := fun w => Ints w .u8 (.slice none 0 0) []) (fun w' _ => Ints.none_ w' .u8))
  clear h
  go_wp2_with fail
  refine (cDo_st hT gs3 gd gj3 gi3 100 1 6 sa2 get1 none 0 0 _ (by decide) (soB_ok so2 sa2_m) get1_ok encB3 (encQ_43 _) H4.out).mono ?_
  rintro e w4 ⟨V2, rfl, h⟩
  rw [eO2] at h
  have h : St M0 w4 (rowsR 1 LogR V2 [[97]] :: srvR gs3 gd gj3 gi3 1 6 sa3 (blkR (p + 1) 42 #[.int .i64 2, .int .i64 0, .int .i64 0, .int .u64 1, .int .u32 1, .slice (some ⟨p, 0, none⟩) 1 1] :: blkR (p + 1 + 1) 42 #[.int .i64 1, .int .i64 0, .int .i64 0, .int .u64 1, .int .u32 0, .slice none 0 0] :: L)) := h
  clear H4 e0 e1 e2 e3 e4 e5
  have H5 := hide (h.sub (L' := srvR gs3 gd gj3 gi3 1 6 sa3 (rowsR 1 LogR V2 [[97]] :: blkR (p + 1) 42 #[.int .i64 2, .int .i64 0, .int .i64 0, .int .u64 1, .int .u32 1, .slice (some ⟨p, 0, none⟩) 1 1] :: blkR (p + 1 + 1) 42 #[.int .i64 1, .int .i64 0, .int .i64 0, .int .u64 1, .int .u32 0, .slice none 0 0] :: L)) (by unfold srvR; (repeat (first | with_reducible exact Sub.refl _ | (with_reducible apply Sub.take; focus (repeat (first | with_reducible exact At.here | with_reducible apply At.there))) | with_reducible apply Sub.drop))))
  clear h
  have HS3 := hide (soB_ok so3 sa3_m)
  generalize (sa2.doE 1 6 get1) = x4
  go_wp2_with fail
  refine (cp_st hT gs3 gd gj3 gi3 100 1 6 sa3.M sa3.D sa3.J _ HS3.out.d (by decide) HS3.out.m HS3.out.j HS3.out.f HS3.out.a0 HS3.out.j0 H5.out).mono ?_
  rintro e w5 ⟨rfl, h⟩
  rw [eC3]
  have h : St M0 w5 (dsR gd sa4.D :: rowsR 1 LogR V2 [[97]] :: blkR (p + 1) 42 #[.int .i64 2, .int .i64 0, .int .i64 0, .int .u64 1, .int .u32 1, .slice (some ⟨p, 0, none⟩) 1 1] :: blkR (p + 1 + 1) 42 #[.int .i64 1, .int .i64 0, .int .i64 0, .int .u64 1, .int .u32 0, .slice none 0 0] :: L) := h.tail.tail.tail
  have H6 := hide (h.pers0 (R := fun w => Ints w .i64 (.slice none 0 0) []) (fun w' _ => Ints.none_ w' .i64)).swap
  clear h H5 HS3
  go_wp2_with fail
  refine (crash_ds (.slice none 0 0) [] 0 (dsB_ok dz4).ok (by have := (dsB_ok dz4).p; omega) rfl H6.out).mono ?_
  rintro e w7 ⟨rfl, h⟩
  have h : St M0 w7 (dsR gd ds5 :: rowsR 1 LogR V2 [[97]] :: blkR (p + 1) 42 #[.int .i64 2, .int .i64 0, .int .i64 0, .int .u64 1, .int .u32 1, .slice (some ⟨p, 0, none⟩) 1 1] :: blkR (p + 1 + 1) 42 #[.int .i64 1, .int .i64 0, .int .i64 0, .int .u64 1, .int .u32 0, .slice none 0 0] :: L) := h.sub (L' := dsR gd (sa4.D.crash []) :: rowsR 1 LogR V2 [[97]] :: blkR (p + 1) 42 #[.int .i64 2, .int .i64 0, .int .i64 0, .int .u64 1, .int .u32 1, .slice (some ⟨p, 0, none⟩) 1 1] :: blkR (p + 1 + 1) 42 #[.int .i64 1, .int .i64 0, .int .i64 0, .int .u64 1, .int .u32 0, .slice none 0 0] :: L) (by (repeat (first | with_reducible exact Sub.refl _ | (with_reducible apply Sub.take; focus (repeat (first | with_reducible exact At.here | with_reducible apply At.there))) | with_reducible apply Sub.drop)))
  have H7 := hide h
  clear h H6
  go_wp2_with fail
  refine (cOpen_st hT gd 1000 ds5 1 6 _ (dsB_ok dz5) (by decide) (opB_ok op5) H7.out).mono ?_
  rintro e w7o ⟨gs7, gj7, gi7, rfl, h⟩
  have h : St M0 w7o (srvR gs7 gd gj7 gi7 1 6 sa5 (rowsR 1 LogR V2 [[97]] :: blkR (p + 1) 42 #[.int .i64 2, .int .i64 0, .int .i64 0, .int .u64 1, .int .u32 1, .slice (some ⟨p, 0, none⟩) 1 1] :: blkR (p + 1 + 1) 42 #[.int .i64 1, .int .i64 0, .int .i64 0, .int .u64 1, .int .u32 0, .slice none 0 0] :: L)) := h
  clear H7
  obtain ⟨e0, e1, e2, e3, e4, e5⟩ := (h.blk 6 rfl).six
  have H8 := hide (h.pers0 (R := fun w => Ints w .u8 (.slice none 0 0) []) (fun w' _ => Ints.none_ w' .u8))
  clear h
  go_wp2_with fail
  refine (cDo_st hT gs7 gd gj7 gi7 100 1 6 sa5 get1 none 0 0 _ (by decide) (soB_ok so5 sa5_m) get1_ok encB3 (encQ_43 _) H8.out).mono ?_
  rintro e w8 ⟨V5, rfl, h⟩
  rw [eO5] at h
  have h : St M0 w8 (rowsR 1 LogR V5 [[97]] :: srvR gs7 gd gj7 gi7 1 6 sa6 (rowsR 1 LogR V2 [[97]] :: blkR (p + 1) 42 #[.int .i64 2, .int .i64 0, .int .i64 0, .int .u64 1, .int .u32 1, .slice (some ⟨p, 0, none⟩) 1 1] :: blkR (p + 1 + 1) 42 #[.int .i64 1, .int .i64 0, .int .i64 0, .int .u64 1, .int .u32 0, .slice none 0 0] :: L)) := h
  clear H8 e0 e1 e2 e3 e4 e5
  have H9 := hide (h.sub (L' := srvR gs7 gd gj7 gi7 1 6 sa6 (rowsR 1 LogR V5 [[97]] :: rowsR 1 LogR V2 [[97]] :: blkR (p + 1) 42 #[.int .i64 2, .int .i64 0, .int .i64 0, .int .u64 1, .int .u32 1, .slice (some ⟨p, 0, none⟩) 1 1] :: blkR (p + 1 + 1) 42 #[.int .i64 1, .int .i64 0, .int .i64 0, .int .u64 1, .int .u32 0, .slice none 0 0] :: L)) (by unfold srvR; (repeat (first | with_reducible exact Sub.refl _ | (with_reducible apply Sub.take; focus (repeat (first | with_reducible exact At.here | with_reducible apply At.there))) | with_reducible apply Sub.drop))))
  clear h
  generalize (sa5.doE 1 6 get1) = x8
  go_wp2_with fail
  refine (cLen_st gs7 gd gj7 gi7 1 6 false sa6.J _ H9.out).mono ?_
  rintro e w9 ⟨rfl, h⟩
  rw [eN6]
  have h : St M0 w9 (dsR gd sa6.D :: blkR gs7 73 (srvC gd gj7 gi7 1 6 false) :: jR gj7 gd sa6.J :: imgR gi7 sa6.M :: rowsR 1 LogR V5 [[97]] :: rowsR 1 LogR V2 [[97]] :: blkR (p + 1) 42 #[.int .i64 2, .int .i64 0, .int .i64 0, .int .u64 1, .int .u32 1, .slice (some ⟨p, 0, none⟩) 1 1] :: blkR (p + 1 + 1) 42 #[.int .i64 1, .int .i64 0, .int .i64 0, .int .u64 1, .int .u32 0, .slice none 0 0] :: L) := h.sub (L' := dsR gd sa6.D :: blkR gs7 73 (srvC gd gj7 gi7 1 6 false) :: jR gj7 gd sa6.J :: imgR gi7 sa6.M :: rowsR 1 LogR V5 [[97]] :: rowsR 1 LogR V2 [[97]] :: blkR (p + 1) 42 #[.int .i64 2, .int .i64 0, .int .i64 0, .int .u64 1, .int .u32 1, .slice (some ⟨p, 0, none⟩) 1 1] :: blkR (p + 1 + 1) 42 #[.int .i64 1, .int .i64 0, .int .i64 0, .int .u64 1, .int .u32 0, .slice none 0 0] :: L) (by (repeat (first | with_reducible exact Sub.refl _ | (with_reducible apply Sub.take; focus (repeat (first | with_reducible exact At.here | with_reducible apply At.there))) | with_reducible apply Sub.drop)))
  have H10 := hide h
  clear h H9
  go_wp2_with fail
  refine (fuse_ds 0 H10.out).mono ?_
  rintro e wa ⟨rfl, h⟩
  clear H10
  have h : St M0 wa (blkR (p + 1) 42 #[.int .i64 2, .int .i64 0, .int .i64 0, .int .u64 1, .int .u32 1, .slice (some ⟨p, 0, none⟩) 1 1] :: dsR gd { sa6.D with fuse := 0 } :: blkR gs7 73 (srvC gd gj7 gi7 1 6 false) :: jR gj7 gd sa6.J :: imgR gi7 sa6.M :: rowsR 1 LogR V5 [[97]] :: rowsR 1 LogR V2 [[97]] :: blkR (p + 1 + 1) 42 #[.int .i64 1, .int .i64 0, .int .i64 0, .int .u64 1, .int .u32 0, .slice none 0 0] :: L) := h.sub (by (repeat (first | with_reducible exact Sub.refl _ | (with_reducible apply Sub.take; focus (repeat (first | with_reducible exact At.here | with_reducible apply At.there))) | with_reducible apply Sub.drop)))
  have x4 := (h.blk 0 rfl).cell 4
  have f4 := (h.blk 0 rfl).frozen
  have h2 := h.put_ 4 (.int .u32 2) #[.int .i64 2, .int .i64 0, .int .i64 0, .int .u64 1, .int .u32 2, .slice (some ⟨p, 0, none⟩) 1 1]
  have hq : wa.heap.size = (wa.setCell ⟨p + 1, 4, none⟩ (.int .u32 2)).heap.size := by simp
  have h3 : St M0 ((wa.setCell ⟨p + 1, 4, none⟩ (.int .u32 2)).alloc (.cells #[.int .u8 98] 5)) (_ :: intsR .u8 (.slice (some ⟨wa.heap.size, 0, none⟩) 1 1) [98] :: _) := (h2.litInts 5 .u8 [98] (by decide) wa.heap.size hq).swap
  have x5 := (h3.blk 0 rfl).cell 5
  have f5 := (h3.blk 0 rfl).frozen
  have h4 := h3.put_ 5 (.slice (some ⟨wa.heap.size, 0, none⟩) 1 1) #[.int .i64 2, .int .i64 0, .int .i64 0, .int .u64 1, .int .u32 2, .slice (some ⟨wa.heap.size, 0, none⟩) 1 1]
  obtain ⟨e0, e1, e2, e3, e4, e5⟩ := (h4.blk 0 rfl).six
  have h5 : St M0 _ (_ :: _ :: dsR gd sa7.D :: blkR gs7 73 (srvC gd gj7 gi7 1 6 sa7.dn) :: jR gj7 gd sa7.J :: imgR gi7 sa7.M :: _) := h4
  have H11 := hide h5
  clear h h2 h3 h4 h5 hq
  go_wp2_with fail
  refine (cDo_st hT gs7 gd gj7 gi7 100 1 6 sa7 put2 (some ⟨wa.heap.size, 0, none⟩) 1 1 _ (by decide) (soB_ok so7 sa6_m) put2_ok encB2 (encQ_43 _) (H11.out.sub (L' := intsR .u8 (.slice (some ⟨wa.heap.size, 0, none⟩) 1 1) [98] :: srvR gs7 gd gj7 gi7 1 6 sa7 (rowsR 1 LogR V5 [[97]] :: rowsR 1 LogR V2 [[97]] :: blkR (p + 1 + 1) 42 #[.int .i64 1, .int .i64 0, .int .i64 0, .int .u64 1, .int .u32 0, .slice none 0 0] :: L)) (by unfold srvR; (repeat (first | with_reducible exact Sub.refl _ | (with_reducible apply Sub.take; focus (repeat (first | with_reducible exact At.here | with_reducible apply At.there))) | with_reducible apply Sub.drop))))).mono ?_
  rintro e wb ⟨V8, rfl, h⟩
  rw [eE7]
  have h : St M0 wb (dsR gd sa8.D :: rowsR 1 LogR V5 [[97]] :: rowsR 1 LogR V2 [[97]] :: blkR (p + 1 + 1) 42 #[.int .i64 1, .int .i64 0, .int .i64 0, .int .u64 1, .int .u32 0, .slice none 0 0] :: L) := h.tail.tail.tail.tail
  have H12 := hide (h.litInts 3 .i64 [64] (by decide) wb.heap.size rfl).swap
  clear h H11 e0 e1 e2 e3 e4 e5 x4 x5 f4 f5
  go_wp2_with fail
  refine (crash_ds (.slice (some ⟨wb.heap.size, 0, none⟩) 1 1) [64] 0 (dsB_ok dz8).ok (by have := (dsB_ok dz8).p; omega) rfl H12.out).mono ?_
  rintro e wc ⟨rfl, h⟩
  have h : St M0 wc (dsR gd ds9 :: rowsR 1 LogR V5 [[97]] :: rowsR 1 LogR V2 [[97]] :: blkR (p + 1 + 1) 42 #[.int .i64 1, .int .i64 0, .int .i64 0, .int .u64 1, .int .u32 0, .slice none 0 0] :: L) := h.sub (L' := dsR gd (sa8.D.crash [64]) :: rowsR 1 LogR V5 [[97]] :: rowsR 1 LogR V2 [[97]] :: blkR (p + 1 + 1) 42 #[.int .i64 1, .int .i64 0, .int .i64 0, .int .u64 1, .int .u32 0, .slice none 0 0] :: L) (by (repeat (first | with_reducible exact Sub.refl _ | (with_reducible apply Sub.take; focus (repeat (first | with_reducible exact At.here | with_reducible apply At.there))) | with_reducible apply Sub.drop)))
  obtain ⟨A2, k2, hV2, _, _⟩ := (h.getRows 2 rfl).slice
  obtain ⟨A5, k5, hV5, _, _⟩ := (h.getRows 1 rfl).slice
  have hV2 : V2 = .slice A2 1 k2 := hV2
  have hV5 : V5 = .slice A5 1 k5 := hV5
  subst hV2
  subst hV5
  have Hd := hide h
  clear h H12
  go_wp2_with fail
  refine (cOpen_st hT gd 1000 ds9 1 6 _ (dsB_ok dz9) (by decide) (opB_ok op9) Hd.out).mono ?_
  rintro e wdo ⟨gsd, gjd, gid, rfl, h⟩
  have h : St M0 wdo (srvR gsd gd gjd gid 1 6 sa9 (rowsR 1 LogR (.slice A5 1 k5) [[97]] :: rowsR 1 LogR (.slice A2 1 k2) [[97]] :: blkR (p + 1 + 1) 42 #[.int .i64 1, .int .i64 0, .int .i64 0, .int .u64 1, .int .u32 0, .slice none 0 0] :: L)) := h
  clear Hd
  obtain ⟨e0, e1, e2, e3, e4, e5⟩ := (h.blk 6 rfl).six
  have He := hide (h.pers0 (R := fun w => Ints w .u8 (.slice none 0 0) []) (fun w' _ => Ints.none_ w' .u8))
  clear h
  go_wp2_with fail
  refine (cDo_st hT gsd gd gjd gid 100 1 6 sa9 get1 none 0 0 _ (by decide) (soB_ok so9 sa9_m) get1_ok encB3 (encQ_43 _) He.out).mono ?_
  rintro e we ⟨V9, rfl, h⟩
  rw [eP9] at h
  have h : St M0 we (rowsR 1 LogR V9 [[97]] :: srvR gsd gd gjd gid 1 6 (sa9.doS 1 6 get1) (rowsR 1 LogR (.slice A5 1 k5) [[97]] :: rowsR 1 LogR (.slice A2 1 k2) [[97]] :: blkR (p + 1 + 1) 42 #[.int .i64 1, .int .i64 0, .int .i64 0, .int .u64 1, .int .u32 0, .slice none 0 0] :: L)) := h
  clear He e0 e1 e2 e3 e4 e5
  generalize (sa9.doE 1 6 get1) = xd
  obtain ⟨A9, k9, hV9, _, _⟩ := (h.getRows 0 rfl).slice
  have hV9 : V9 = .slice A9 1 k9 := hV9
  subst hV9
  have h : St M0 we (rowsR 1 LogR (.slice A9 1 k9) [[97]] :: rowsR 1 LogR (.slice A5 1 k5) [[97]] :: rowsR 1 LogR (.slice A2 1 k2) [[97]] :: L) := h.sub (L' := rowsR 1 LogR (.slice A9 1 k9) [[97]] :: rowsR 1 LogR (.slice A5 1 k5) [[97]] :: rowsR 1 LogR (.slice A2 1 k2) [[97]] :: L) (by unfold srvR; (repeat (first | with_reducible exact Sub.refl _ | (with_reducible apply Sub.take; focus (repeat (first | with_reducible exact At.here | with_reducible apply At.there))) | with_reducible apply Sub.drop)))
  obtain ⟨a9, cs9, rfl, _, hc9, ⟨vb9, rfl, hv9⟩, h⟩ := h.elem 0 rfl (k := 0) (x := [97]) rfl
  obtain ⟨a5, cs5, rfl, _, hc5, ⟨vb5, rfl, hv5⟩, h⟩ := h.elem 2 rfl (k := 0) (x := [97]) rfl
  obtain ⟨a2, cs2, rfl, _, hc2, ⟨vb2, rfl, hv2⟩, h⟩ := h.elem 4 rfl (k := 0) (x := [97]) rfl
  obtain ⟨B9, d9, rfl, _, _, _⟩ := hv9
  obtain ⟨B5, d5, rfl, _, _, _⟩ := hv5
  obtain ⟨B2, d2, rfl, _, _, _⟩ := hv2
  have h1 := h.litInts 5 .u8 [97] (by decide) we.heap.size rfl
  have h1 : St M0 (we.alloc (.cells #[.int .u8 97] 5)) (intsR .u8 (.slice (some ⟨we.heap.size, 0, none⟩) 1 1) [97] :: _) := h1
  have HH := hide h1
  have m2 : (we.alloc (.cells #[.int .u8 97] 5)).cell? a2 = some (.slice B2 1 d2) := elem0 (HH.out.get 1 rfl).1 rfl
  clear h h1 hc9 hc5 hc2
  go_wp2_with fail
  refine (same_true _ _ [97] _ (HH.out.get 1 rfl).2.ints1 (HH.out.get 0 rfl) HH.out).mono ?_
  rintro e wf ⟨rfl, h⟩
  have m5 : wf.cell? a5 = some (.slice B5 1 d5) := elem0 (h.get 2 rfl).1 rfl
  have HI := hide h
  clear h HH m2
  go_wp2_with fail
  refine (same_true _ _ [97] _ (HI.out.get 2 rfl).2.ints1 (HI.out.get 0 rfl) HI.out).mono ?_
  rintro e wg ⟨rfl, h⟩
  have m9 : wg.cell? a9 = some (.slice B9 1 d9) := elem0 (h.get 3 rfl).1 rfl
  have HJ := hide h
  clear h HI m5
  go_wp2_with fail
  refine (same_true _ _ [97] _ (HJ.out.get 3 rfl).2.ints1 (HJ.out.get 0 rfl) HJ.out).mono ?_
  rintro e wh ⟨rfl, h⟩
  have HK := hide h
  clear h HJ m9
  go_wp2_with fail
  go_ret
  exact ⟨rfl, HK.out.tail.tail.tail.tail.tail.tail.tail⟩
end Go.Proofs.YtpaelngpmbeedaaGreatDoor
