/- Locks: where a client holds or waits; do all bear a mode. Printed by gen_lkb.py. -/
import Derived.Test.YtbgknfdaaffeaaaLkE
import Derived.Test.YtbgknfdaaffeaaaFlow
namespace Go.Proofs.Ytbgknfdaaffeaaa
open Go.RowKit Go.Shelf

theorem Fr.cellSome2 {w w' : World} (h : Fr Non w w') {p : Addr} {u : Value} (hc : w.cell? p = some u) : w'.cell? p = some u :=
  (h.cell (p := p) (World.block_lt_of_cell? _ _ hc) (fun x => x)).trans hc
set_option maxHeartbeats 400000 in
theorem holdWho_st {M0 : Imm} {L : List Res} (x : HoldM) (w : World) (h : St M0 w L) :
    Calls Try.prog 140 #[.agg #[.int .i64 x.c, .int .i64 x.m, .int .u64 x.t, .int .u64 x.u]] w fun e w' => e = .returned (.int .i64 x.c) ∧ St M0 w' L := by
  have h1 := h.alloc 91 #[.int .i64 x.c, .int .i64 x.m, .int .u64 x.t, .int .u64 x.u]
  have x0 := (h1.blk 0 rfl).cell 0
  have H := hide h1
  clear h h1
  go_enter Try.func140, Try.ntmps140
  go_wp2_with fail
  go_ret
  exact ⟨rfl, H.out.tail⟩
set_option maxHeartbeats 2000000 in
set_option maxRecDepth 100000 in
theorem holdClo_st {M0 : Imm} {L : List Res} (gl gc : Nat) (A : Option Addr) (n c : Nat) (cl : Int) (x : HoldM) (w : World) (h : St M0 w (blkR gl 211 #[.slice A n c, .func (.func 140) #[] #[]] :: blkR gc 3 #[.int .i64 cl] :: L)) :
    Calls Try.prog 158 (#[.agg (holdC x).toArray] ++ #[.pointer (some ⟨gl, 0, none⟩), .pointer (some ⟨gc, 0, none⟩)]) w fun e w' => e = .returned (.bool (x.c == cl)) ∧ St M0 w' (blkR gl 211 #[.slice A n c, .func (.func 140) #[] #[]] :: blkR gc 3 #[.int .i64 cl] :: L) := by
  have h0 := h.alloc 91 #[.int .i64 x.c, .int .i64 x.m, .int .u64 x.t, .int .u64 x.u]
  generalize hge : w.heap.size = ge at h0
  have H0 := hide h0
  clear h h0
  go_enter Try.func158, Try.ntmps158
  go_wp2_with fail
  have h0 := H0.out
  clear hge H0
  generalize w.alloc _ = w0 at h0 ⊢
  refine region_flow (M0 := M0) (L0 := L) [⟨none, none, fun e => blkR ge 91 #[.int .i64 x.c, .int .i64 x.m, .int .u64 x.t, .int .u64 x.u]⟩, ⟨none, none, fun e => blkR gl 211 #[.slice A n c, .func (.func 140) #[] #[]]⟩, ⟨none, none, fun e => blkR gc 3 #[.int .i64 cl]⟩] [[], [0], [], [0, 1, 2], [], [0, 1, 2, 3, 4], [0, 1, 2, 3, 4, 5]] [0, 1, 2, 3, 4, 5, 6] rfl (by kernel_rfl) (by kernel_rfl) (by kernel_rfl) (by rfl) (fun _ => rfl) (show St M0 _ (blkR ge 91 #[.int .i64 x.c, .int .i64 x.m, .int .u64 x.t, .int .u64 x.u] :: blkR gl 211 #[.slice A n c, .func (.func 140) #[] #[]] :: blkR gc 3 #[.int .i64 cl] :: L) from h0) ?_
  refine flow_run _ rfl (fun _ => rfl) (fun e wx Lx h => by (go_simp; try rfl)) (by intro e; rfl) (by intro e; rfl) (by intro e x; rfl) ?_
  (simp only [Act.put, List.setIfInBounds_toArray, List.set_cons_succ, List.set_cons_zero])
  refine flow_run _ rfl (fun _ => rfl) (fun e wx Lx h => by (have h : St M0 wx (blkR ge 91 #[.int .i64 x.c, .int .i64 x.m, .int .u64 x.t, .int .u64 x.u] :: blkR gl 211 #[.slice A n c, .func (.func 140) #[] #[]] :: blkR gc 3 #[.int .i64 cl] :: Lx) := h; have x0 := (h.blkA (g := ge) (t := 91) (cs := #[.int .i64 x.c, .int .i64 x.m, .int .u64 x.t, .int .u64 x.u]) (by (repeat (first | with_reducible exact At.here | with_reducible apply At.there)))).cell 0; have x1 := (h.blkA (g := ge) (t := 91) (cs := #[.int .i64 x.c, .int .i64 x.m, .int .u64 x.t, .int .u64 x.u]) (by (repeat (first | with_reducible exact At.here | with_reducible apply At.there)))).cell 1; have x2 := (h.blkA (g := ge) (t := 91) (cs := #[.int .i64 x.c, .int .i64 x.m, .int .u64 x.t, .int .u64 x.u]) (by (repeat (first | with_reducible exact At.here | with_reducible apply At.there)))).cell 2; have x3 := (h.blkA (g := ge) (t := 91) (cs := #[.int .i64 x.c, .int .i64 x.m, .int .u64 x.t, .int .u64 x.u]) (by (repeat (first | with_reducible exact At.here | with_reducible apply At.there)))).cell 3; have l1 := (h.blkA (g := gl) (t := 211) (cs := #[.slice A n c, .func (.func 140) #[] #[]]) (by (repeat (first | with_reducible exact At.here | with_reducible apply At.there)))).cell 1; have c0 := (h.blkA (g := gc) (t := 3) (cs := #[.int .i64 cl]) (by (repeat (first | with_reducible exact At.here | with_reducible apply At.there)))).cell 0; go_simp; try rfl)) (by intro e; rfl) (by intro e; rfl) (by intro e x; rfl) ?_
  (simp only [Act.put, List.setIfInBounds_toArray, List.set_cons_succ, List.set_cons_zero])
  refine flow_run _ rfl (fun _ => rfl) (fun e wx Lx h => by (have h : St M0 wx (blkR ge 91 #[.int .i64 x.c, .int .i64 x.m, .int .u64 x.t, .int .u64 x.u] :: blkR gl 211 #[.slice A n c, .func (.func 140) #[] #[]] :: blkR gc 3 #[.int .i64 cl] :: Lx) := h; have x0 := (h.blkA (g := ge) (t := 91) (cs := #[.int .i64 x.c, .int .i64 x.m, .int .u64 x.t, .int .u64 x.u]) (by (repeat (first | with_reducible exact At.here | with_reducible apply At.there)))).cell 0; have x1 := (h.blkA (g := ge) (t := 91) (cs := #[.int .i64 x.c, .int .i64 x.m, .int .u64 x.t, .int .u64 x.u]) (by (repeat (first | with_reducible exact At.here | with_reducible apply At.there)))).cell 1; have x2 := (h.blkA (g := ge) (t := 91) (cs := #[.int .i64 x.c, .int .i64 x.m, .int .u64 x.t, .int .u64 x.u]) (by (repeat (first | with_reducible exact At.here | with_reducible apply At.there)))).cell 2; have x3 := (h.blkA (g := ge) (t := 91) (cs := #[.int .i64 x.c, .int .i64 x.m, .int .u64 x.t, .int .u64 x.u]) (by (repeat (first | with_reducible exact At.here | with_reducible apply At.there)))).cell 3; have l1 := (h.blkA (g := gl) (t := 211) (cs := #[.slice A n c, .func (.func 140) #[] #[]]) (by (repeat (first | with_reducible exact At.here | with_reducible apply At.there)))).cell 1; have c0 := (h.blkA (g := gc) (t := 3) (cs := #[.int .i64 cl]) (by (repeat (first | with_reducible exact At.here | with_reducible apply At.there)))).cell 0; go_simp; try rfl)) (by intro e; rfl) (by intro e; rfl) (by intro e x; rfl) ?_
  (simp only [Act.put, List.setIfInBounds_toArray, List.set_cons_succ, List.set_cons_zero])
  refine flow_call 140 (fun e => #[.agg #[.int .i64 x.c, .int .i64 x.m, .int .u64 x.t, .int .u64 x.u]]) (fun e => .int .i64 x.c) rfl (fun _ => rfl) (by intro e; rfl) (fun e wx => by (go_simp; try rfl)) (fun e wx Lx h => by (
    have h : St M0 wx (blkR ge 91 #[.int .i64 x.c, .int .i64 x.m, .int .u64 x.t, .int .u64 x.u] :: blkR gl 211 #[.slice A n c, .func (.func 140) #[] #[]] :: blkR gc 3 #[.int .i64 cl] :: Lx) := h
    refine (holdWho_st x _ h).mono ?_
    rintro u wy ⟨rfl, h1⟩
    have hk : St M0 wy (blkR ge 91 #[.int .i64 x.c, .int .i64 x.m, .int .u64 x.t, .int .u64 x.u] :: blkR gl 211 #[.slice A n c, .func (.func 140) #[] #[]] :: blkR gc 3 #[.int .i64 cl] :: Lx) := h1.sub (by (repeat (first | with_reducible exact Sub.refl _ | (with_reducible apply Sub.take; focus (repeat (first | with_reducible exact At.here | with_reducible apply At.there))) | with_reducible apply Sub.drop)))
    exact ⟨⟨none, 0, default⟩, rfl, hk⟩)) ?_
  (simp only [Act.put, List.setIfInBounds_toArray, List.set_cons_succ, List.set_cons_zero])
  refine flow_run _ rfl (fun _ => rfl) (fun e wx Lx h => by (have h : St M0 wx (blkR ge 91 #[.int .i64 x.c, .int .i64 x.m, .int .u64 x.t, .int .u64 x.u] :: blkR gl 211 #[.slice A n c, .func (.func 140) #[] #[]] :: blkR gc 3 #[.int .i64 cl] :: Lx) := h; have x0 := (h.blkA (g := ge) (t := 91) (cs := #[.int .i64 x.c, .int .i64 x.m, .int .u64 x.t, .int .u64 x.u]) (by (repeat (first | with_reducible exact At.here | with_reducible apply At.there)))).cell 0; have x1 := (h.blkA (g := ge) (t := 91) (cs := #[.int .i64 x.c, .int .i64 x.m, .int .u64 x.t, .int .u64 x.u]) (by (repeat (first | with_reducible exact At.here | with_reducible apply At.there)))).cell 1; have x2 := (h.blkA (g := ge) (t := 91) (cs := #[.int .i64 x.c, .int .i64 x.m, .int .u64 x.t, .int .u64 x.u]) (by (repeat (first | with_reducible exact At.here | with_reducible apply At.there)))).cell 2; have x3 := (h.blkA (g := ge) (t := 91) (cs := #[.int .i64 x.c, .int .i64 x.m, .int .u64 x.t, .int .u64 x.u]) (by (repeat (first | with_reducible exact At.here | with_reducible apply At.there)))).cell 3; have l1 := (h.blkA (g := gl) (t := 211) (cs := #[.slice A n c, .func (.func 140) #[] #[]]) (by (repeat (first | with_reducible exact At.here | with_reducible apply At.there)))).cell 1; have c0 := (h.blkA (g := gc) (t := 3) (cs := #[.int .i64 cl]) (by (repeat (first | with_reducible exact At.here | with_reducible apply At.there)))).cell 0; go_simp; try rfl)) (by intro e; rfl) (by intro e; rfl) (by intro e x; rfl) ?_
  (simp only [Act.put, List.setIfInBounds_toArray, List.set_cons_succ, List.set_cons_zero])
  refine flow_run _ rfl (fun _ => rfl) (fun e wx Lx h => by (go_simp; try rfl)) (by intro e; rfl) (by intro e; rfl) (by intro e x; rfl) ?_
  (simp only [Act.put, List.setIfInBounds_toArray, List.set_cons_succ, List.set_cons_zero])
  refine flow_run _ rfl (fun _ => rfl) (fun e wx Lx h => by (go_simp; try rfl)) (by intro e; rfl) (by intro e; rfl) (by intro e x; rfl) ?_
  (simp only [Act.put, List.setIfInBounds_toArray, List.set_cons_succ, List.set_cons_zero])
  refine flow_nil ?_
  intro e w1 h
  have h : St M0 w1 (blkR ge 91 #[.int .i64 x.c, .int .i64 x.m, .int .u64 x.t, .int .u64 x.u] :: blkR gl 211 #[.slice A n c, .func (.func 140) #[] #[]] :: blkR gc 3 #[.int .i64 cl] :: L) := h
  have H2 := hide (h.sub (L' := blkR gl 211 #[.slice A n c, .func (.func 140) #[] #[]] :: blkR gc 3 #[.int .i64 cl] :: L) (by (repeat (first | with_reducible exact Sub.refl _ | (with_reducible apply Sub.take; focus (repeat (first | with_reducible exact At.here | with_reducible apply At.there))) | with_reducible apply Sub.drop))))
  clear h h0
  go_wp2_with fail
  go_ret
  exact ⟨rfl, H2.out⟩
set_option maxHeartbeats 1000000 in
set_option maxRecDepth 100000 in
theorem holdFind_st {M0 : Imm} {L : List Res} (A : Option Addr) (n c : Nat) (l : List HoldM) (cl : Int) (w : World) (hV : ∀ W, St M0 W L → FlatP holdC 4 W (.slice A n c) l) (h : St M0 w L) :
    Calls Try.prog 141 #[.agg #[.slice A n c, .func (.func 140) #[] #[]], .int .i64 cl] w fun e w' => e = .returned (.int .i64 (idxL (fun x => x.c == cl) 0 l)) ∧ St M0 w' L := by
  have h1 := h.alloc 211 #[.slice A n c, .func (.func 140) #[] #[]]
  generalize hgl : w.heap.size = gl at h1
  have h2 := h1.alloc 3 #[.int .i64 cl]
  rw [World.size_alloc, hgl] at h2
  generalize hgc : gl + 1 = gc at h2
  have l0 := (h2.blk 1 rfl).cell 0
  have H := hide h2.swap
  have HV := hide hV
  clear h h1 h2 hV
  go_enter Try.func141, Try.ntmps141
  go_wp2_with fail
  refine (holdIdx_st 158 #[.pointer (some ⟨gl, 0, none⟩), .pointer (some ⟨gc, 0, none⟩)] (fun x => x.c == cl) l A n c _ (enters_of Try.func158 (by kernel_rfl) rfl) (fun W hW => HV.out W hW.tail.tail) (fun x W _ hW => holdClo_st gl gc A n c cl x W hW) H.out).mono ?_
  rintro e w2 ⟨rfl, h⟩
  have H2 := hide h.tail.tail
  clear h H l0
  go_wp2_with fail
  go_ret
  exact ⟨rfl, H2.out⟩
set_option maxHeartbeats 1000000 in
set_option maxRecDepth 100000 in
theorem holdAt_st {M0 : Imm} {L : List Res} (g o : Nat) (A : Option Addr) (n c : Nat) (l : List HoldM) (cl : Int) (w : World) (hc : w.cell? ⟨g, o, none⟩ = some (.slice A n c)) (hV : ∀ W, St M0 W L → FlatP holdC 4 W (.slice A n c) l) (h : St M0 w L) :
    Calls Try.prog 95 #[.pointer (some ⟨g, o, none⟩), .int .i64 cl] w fun e w' => e = .returned (.int .i64 (idxL (fun x => x.c == cl) 0 l)) ∧ St M0 w' L := by
  have HV := hide hV
  have H := hide h
  clear h hV
  go_enter Try.func95, Try.ntmps95
  go_wp2_with fail
  refine (holdFind_st A n c l cl _ HV.out H.out).mono ?_
  rintro e w2 ⟨rfl, h⟩
  have H2 := hide h
  clear h H hc
  go_wp2_with fail
  go_ret
  exact ⟨rfl, H2.out⟩
set_option maxHeartbeats 400000 in
theorem wantWho_st {M0 : Imm} {L : List Res} (x : WantM) (w : World) (h : St M0 w L) :
    Calls Try.prog 142 #[.agg #[.int .i64 x.c, .int .i64 x.m]] w fun e w' => e = .returned (.int .i64 x.c) ∧ St M0 w' L := by
  have h1 := h.alloc 87 #[.int .i64 x.c, .int .i64 x.m]
  have x0 := (h1.blk 0 rfl).cell 0
  have H := hide h1
  clear h h1
  go_enter Try.func142, Try.ntmps142
  go_wp2_with fail
  go_ret
  exact ⟨rfl, H.out.tail⟩
set_option maxHeartbeats 2000000 in
set_option maxRecDepth 100000 in
theorem wantClo_st {M0 : Imm} {L : List Res} (gl gc : Nat) (A : Option Addr) (n c : Nat) (cl : Int) (x : WantM) (w : World) (h : St M0 w (blkR gl 214 #[.slice A n c, .func (.func 142) #[] #[]] :: blkR gc 3 #[.int .i64 cl] :: L)) :
    Calls Try.prog 160 (#[.agg (wantC x).toArray] ++ #[.pointer (some ⟨gl, 0, none⟩), .pointer (some ⟨gc, 0, none⟩)]) w fun e w' => e = .returned (.bool (x.c == cl)) ∧ St M0 w' (blkR gl 214 #[.slice A n c, .func (.func 142) #[] #[]] :: blkR gc 3 #[.int .i64 cl] :: L) := by
  have h0 := h.alloc 87 #[.int .i64 x.c, .int .i64 x.m]
  generalize hge : w.heap.size = ge at h0
  have H0 := hide h0
  clear h h0
  go_enter Try.func160, Try.ntmps160
  go_wp2_with fail
  have h0 := H0.out
  clear hge H0
  generalize w.alloc _ = w0 at h0 ⊢
  refine region_flow (M0 := M0) (L0 := L) [⟨none, none, fun e => blkR ge 87 #[.int .i64 x.c, .int .i64 x.m]⟩, ⟨none, none, fun e => blkR gl 214 #[.slice A n c, .func (.func 142) #[] #[]]⟩, ⟨none, none, fun e => blkR gc 3 #[.int .i64 cl]⟩] [[], [0], [], [0, 1, 2], [], [0, 1, 2, 3, 4], [0, 1, 2, 3, 4, 5]] [0, 1, 2, 3, 4, 5, 6] rfl (by kernel_rfl) (by kernel_rfl) (by kernel_rfl) (by rfl) (fun _ => rfl) (show St M0 _ (blkR ge 87 #[.int .i64 x.c, .int .i64 x.m] :: blkR gl 214 #[.slice A n c, .func (.func 142) #[] #[]] :: blkR gc 3 #[.int .i64 cl] :: L) from h0) ?_
  refine flow_run _ rfl (fun _ => rfl) (fun e wx Lx h => by (go_simp; try rfl)) (by intro e; rfl) (by intro e; rfl) (by intro e x; rfl) ?_
  (simp only [Act.put, List.setIfInBounds_toArray, List.set_cons_succ, List.set_cons_zero])
  refine flow_run _ rfl (fun _ => rfl) (fun e wx Lx h => by (have h : St M0 wx (blkR ge 87 #[.int .i64 x.c, .int .i64 x.m] :: blkR gl 214 #[.slice A n c, .func (.func 142) #[] #[]] :: blkR gc 3 #[.int .i64 cl] :: Lx) := h; have x0 := (h.blkA (g := ge) (t := 87) (cs := #[.int .i64 x.c, .int .i64 x.m]) (by (repeat (first | with_reducible exact At.here | with_reducible apply At.there)))).cell 0; have x1 := (h.blkA (g := ge) (t := 87) (cs := #[.int .i64 x.c, .int .i64 x.m]) (by (repeat (first | with_reducible exact At.here | with_reducible apply At.there)))).cell 1; have l1 := (h.blkA (g := gl) (t := 214) (cs := #[.slice A n c, .func (.func 142) #[] #[]]) (by (repeat (first | with_reducible exact At.here | with_reducible apply At.there)))).cell 1; have c0 := (h.blkA (g := gc) (t := 3) (cs := #[.int .i64 cl]) (by (repeat (first | with_reducible exact At.here | with_reducible apply At.there)))).cell 0; go_simp; try rfl)) (by intro e; rfl) (by intro e; rfl) (by intro e x; rfl) ?_
  (simp only [Act.put, List.setIfInBounds_toArray, List.set_cons_succ, List.set_cons_zero])
  refine flow_run _ rfl (fun _ => rfl) (fun e wx Lx h => by (have h : St M0 wx (blkR ge 87 #[.int .i64 x.c, .int .i64 x.m] :: blkR gl 214 #[.slice A n c, .func (.func 142) #[] #[]] :: blkR gc 3 #[.int .i64 cl] :: Lx) := h; have x0 := (h.blkA (g := ge) (t := 87) (cs := #[.int .i64 x.c, .int .i64 x.m]) (by (repeat (first | with_reducible exact At.here | with_reducible apply At.there)))).cell 0; have x1 := (h.blkA (g := ge) (t := 87) (cs := #[.int .i64 x.c, .int .i64 x.m]) (by (repeat (first | with_reducible exact At.here | with_reducible apply At.there)))).cell 1; have l1 := (h.blkA (g := gl) (t := 214) (cs := #[.slice A n c, .func (.func 142) #[] #[]]) (by (repeat (first | with_reducible exact At.here | with_reducible apply At.there)))).cell 1; have c0 := (h.blkA (g := gc) (t := 3) (cs := #[.int .i64 cl]) (by (repeat (first | with_reducible exact At.here | with_reducible apply At.there)))).cell 0; go_simp; try rfl)) (by intro e; rfl) (by intro e; rfl) (by intro e x; rfl) ?_
  (simp only [Act.put, List.setIfInBounds_toArray, List.set_cons_succ, List.set_cons_zero])
  refine flow_call 142 (fun e => #[.agg #[.int .i64 x.c, .int .i64 x.m]]) (fun e => .int .i64 x.c) rfl (fun _ => rfl) (by intro e; rfl) (fun e wx => by (go_simp; try rfl)) (fun e wx Lx h => by (
    have h : St M0 wx (blkR ge 87 #[.int .i64 x.c, .int .i64 x.m] :: blkR gl 214 #[.slice A n c, .func (.func 142) #[] #[]] :: blkR gc 3 #[.int .i64 cl] :: Lx) := h
    refine (wantWho_st x _ h).mono ?_
    rintro u wy ⟨rfl, h1⟩
    have hk : St M0 wy (blkR ge 87 #[.int .i64 x.c, .int .i64 x.m] :: blkR gl 214 #[.slice A n c, .func (.func 142) #[] #[]] :: blkR gc 3 #[.int .i64 cl] :: Lx) := h1.sub (by (repeat (first | with_reducible exact Sub.refl _ | (with_reducible apply Sub.take; focus (repeat (first | with_reducible exact At.here | with_reducible apply At.there))) | with_reducible apply Sub.drop)))
    exact ⟨⟨none, 0, default⟩, rfl, hk⟩)) ?_
  (simp only [Act.put, List.setIfInBounds_toArray, List.set_cons_succ, List.set_cons_zero])
  refine flow_run _ rfl (fun _ => rfl) (fun e wx Lx h => by (have h : St M0 wx (blkR ge 87 #[.int .i64 x.c, .int .i64 x.m] :: blkR gl 214 #[.slice A n c, .func (.func 142) #[] #[]] :: blkR gc 3 #[.int .i64 cl] :: Lx) := h; have x0 := (h.blkA (g := ge) (t := 87) (cs := #[.int .i64 x.c, .int .i64 x.m]) (by (repeat (first | with_reducible exact At.here | with_reducible apply At.there)))).cell 0; have x1 := (h.blkA (g := ge) (t := 87) (cs := #[.int .i64 x.c, .int .i64 x.m]) (by (repeat (first | with_reducible exact At.here | with_reducible apply At.there)))).cell 1; have l1 := (h.blkA (g := gl) (t := 214) (cs := #[.slice A n c, .func (.func 142) #[] #[]]) (by (repeat (first | with_reducible exact At.here | with_reducible apply At.there)))).cell 1; have c0 := (h.blkA (g := gc) (t := 3) (cs := #[.int .i64 cl]) (by (repeat (first | with_reducible exact At.here | with_reducible apply At.there)))).cell 0; go_simp; try rfl)) (by intro e; rfl) (by intro e; rfl) (by intro e x; rfl) ?_
  (simp only [Act.put, List.setIfInBounds_toArray, List.set_cons_succ, List.set_cons_zero])
  refine flow_run _ rfl (fun _ => rfl) (fun e wx Lx h => by (go_simp; try rfl)) (by intro e; rfl) (by intro e; rfl) (by intro e x; rfl) ?_
  (simp only [Act.put, List.setIfInBounds_toArray, List.set_cons_succ, List.set_cons_zero])
  refine flow_run _ rfl (fun _ => rfl) (fun e wx Lx h => by (go_simp; try rfl)) (by intro e; rfl) (by intro e; rfl) (by intro e x; rfl) ?_
  (simp only [Act.put, List.setIfInBounds_toArray, List.set_cons_succ, List.set_cons_zero])
  refine flow_nil ?_
  intro e w1 h
  have h : St M0 w1 (blkR ge 87 #[.int .i64 x.c, .int .i64 x.m] :: blkR gl 214 #[.slice A n c, .func (.func 142) #[] #[]] :: blkR gc 3 #[.int .i64 cl] :: L) := h
  have H2 := hide (h.sub (L' := blkR gl 214 #[.slice A n c, .func (.func 142) #[] #[]] :: blkR gc 3 #[.int .i64 cl] :: L) (by (repeat (first | with_reducible exact Sub.refl _ | (with_reducible apply Sub.take; focus (repeat (first | with_reducible exact At.here | with_reducible apply At.there))) | with_reducible apply Sub.drop))))
  clear h h0
  go_wp2_with fail
  go_ret
  exact ⟨rfl, H2.out⟩
set_option maxHeartbeats 1000000 in
set_option maxRecDepth 100000 in
theorem wantFind_st {M0 : Imm} {L : List Res} (A : Option Addr) (n c : Nat) (l : List WantM) (cl : Int) (w : World) (hV : ∀ W, St M0 W L → FlatP wantC 2 W (.slice A n c) l) (h : St M0 w L) :
    Calls Try.prog 143 #[.agg #[.slice A n c, .func (.func 142) #[] #[]], .int .i64 cl] w fun e w' => e = .returned (.int .i64 (idxL (fun x => x.c == cl) 0 l)) ∧ St M0 w' L := by
  have h1 := h.alloc 214 #[.slice A n c, .func (.func 142) #[] #[]]
  generalize hgl : w.heap.size = gl at h1
  have h2 := h1.alloc 3 #[.int .i64 cl]
  rw [World.size_alloc, hgl] at h2
  generalize hgc : gl + 1 = gc at h2
  have l0 := (h2.blk 1 rfl).cell 0
  have H := hide h2.swap
  have HV := hide hV
  clear h h1 h2 hV
  go_enter Try.func143, Try.ntmps143
  go_wp2_with fail
  refine (wantIdx_st 160 #[.pointer (some ⟨gl, 0, none⟩), .pointer (some ⟨gc, 0, none⟩)] (fun x => x.c == cl) l A n c _ (enters_of Try.func160 (by kernel_rfl) rfl) (fun W hW => HV.out W hW.tail.tail) (fun x W _ hW => wantClo_st gl gc A n c cl x W hW) H.out).mono ?_
  rintro e w2 ⟨rfl, h⟩
  have H2 := hide h.tail.tail
  clear h H l0
  go_wp2_with fail
  go_ret
  exact ⟨rfl, H2.out⟩
set_option maxHeartbeats 1000000 in
set_option maxRecDepth 100000 in
theorem wantAt_st {M0 : Imm} {L : List Res} (g o : Nat) (A : Option Addr) (n c : Nat) (l : List WantM) (cl : Int) (w : World) (hc : w.cell? ⟨g, o + 1, none⟩ = some (.slice A n c)) (hV : ∀ W, St M0 W L → FlatP wantC 2 W (.slice A n c) l) (h : St M0 w L) :
    Calls Try.prog 96 #[.pointer (some ⟨g, o, none⟩), .int .i64 cl] w fun e w' => e = .returned (.int .i64 (idxL (fun x => x.c == cl) 0 l)) ∧ St M0 w' L := by
  have HV := hide hV
  have H := hide h
  clear h hV
  go_enter Try.func96, Try.ntmps96
  go_wp2_with fail
  refine (wantFind_st A n c l cl _ HV.out H.out).mono ?_
  rintro e w2 ⟨rfl, h⟩
  have H2 := hide h
  clear h H hc
  go_wp2_with fail
  go_ret
  exact ⟨rfl, H2.out⟩
set_option maxHeartbeats 1000000 in
set_option maxRecDepth 100000 in
theorem bearsClo_st {M0 : Imm} {L : List Res} (gc : Nat) (m : Int) (x : HoldM) (w : World) (h : St M0 w (blkR gc 3 #[.int .i64 m] :: L)) :
    Calls Try.prog 161 (#[.agg (holdC x).toArray] ++ #[.pointer (some ⟨gc, 0, none⟩)]) w fun e w' => e = .returned (.bool (hardB m x)) ∧ St M0 w' (blkR gc 3 #[.int .i64 m] :: L) := by
  have h1 := h.alloc 91 #[.int .i64 x.c, .int .i64 x.m, .int .u64 x.t, .int .u64 x.u]
  have x1 := (h1.blk 0 rfl).cell 1
  have c0 := (h1.blk 1 rfl).cell 0
  have H := hide h1
  clear h h1
  obtain ⟨d1, hd1⟩ : ∃ d1, (x.m == 2) = d1 := ⟨_, rfl⟩
  obtain ⟨d2, hd2⟩ : ∃ d2, (m == 2) = d2 := ⟨_, rfl⟩
  have HB := hide (show hardB m x = (d1 || d2) by unfold hardB; rw [hd1, hd2])
  go_enter Try.func161, Try.ntmps161
  cases d1 <;> cases d2
  all_goals (go_wp2_with fail; go_ret; exact ⟨by rw [HB.out]; try rfl, H.out.tail⟩)
set_option maxHeartbeats 1000000 in
set_option maxRecDepth 100000 in
theorem bears_st {M0 : Imm} {L : List Res} (g o : Nat) (A : Option Addr) (n c : Nat) (l : List HoldM) (m : Int) (w : World) (hc : w.cell? ⟨g, o, none⟩ = some (.slice A n c)) (hV : ∀ W, St M0 W L → FlatP holdC 4 W (.slice A n c) l) (h : St M0 w L) :
    Calls Try.prog 144 #[.pointer (some ⟨g, o, none⟩), .int .i64 m] w fun e w' => e = .returned (.bool (!l.any (hardB m))) ∧ St M0 w' L := by
  have HV := hide hV
  have h1 := h.alloc 3 #[.int .i64 m]
  generalize hgc : w.heap.size = gc at h1
  have hc1 : (w.alloc (.cells #[.int .i64 m] 3)).cell? ⟨g, o, none⟩ = some (.slice A n c) := ((Fr.refl Non w).alloc _).cellSome2 hc
  have H := hide h1
  clear h hV h1
  go_enter Try.func144, Try.ntmps144
  go_wp2_with fail
  refine (holdCon_st 161 #[.pointer (some ⟨gc, 0, none⟩)] (hardB m) l A n c _ (enters_of Try.func161 (by kernel_rfl) rfl) (fun W hW => HV.out W hW.tail) (fun x W _ hW => bearsClo_st gc m x W hW) H.out).mono ?_
  rintro e w2 ⟨rfl, h⟩
  have H2 := hide h.tail
  obtain ⟨q, hq⟩ : ∃ q, q = l.any (hardB m) := ⟨_, rfl⟩
  rw [← hq]
  have HQ := hide hq
  clear h H hc hc1 hq
  go_wp2_with fail
  go_ret
  exact ⟨by rw [← HQ.out]; try rfl, H2.out⟩
end Go.Proofs.Ytbgknfdaaffeaaa
