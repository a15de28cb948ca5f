/- Image: of, and do. -/
import Derived.Test.YtpaelngpmbeedaaGreatDoorImgRZ
import Derived.Test.YtpaelngpmbeedaaGreatDoorStZ
import Derived.Handy
import Derived.Deep.LoopGhost
import Derived.Test.YtpaelngpmbeedaaGreatDoorImgK
namespace Go.Proofs.YtpaelngpmbeedaaGreatDoor
open Go.RowKit

theorem of_put (p : Addr) (r : RQ) (A : Option Addr) (n c : Nat) (w : World) (ho : r.op = 2) : Calls Tryz.prog 64 #[.pointer (some p), reqV r (.slice A n c)] w fun e w' => e = .returned (.iface 175 (.agg #[.pointer (some p), .int .i64 r.index, .slice A n c])) ∧ Fr Non w w' := by
  obtain ⟨op, region, index, token, rs, data⟩ := r
  obtain rfl : op = 2 := ho
  go_enter Tryz.func64, Tryz.ntmps64
  go_wp2
  go_ret
  exact ⟨rfl, (Fr.refl _ _).alloc _⟩
theorem of_more (p : Addr) (r : RQ) (A : Option Addr) (n c : Nat) (w : World) (ho : r.op = 4) : Calls Tryz.prog 64 #[.pointer (some p), reqV r (.slice A n c)] w fun e w' => e = .returned (.iface 177 (.agg #[.pointer (some p), .slice A n c])) ∧ Fr Non w w' := by
  obtain ⟨op, region, index, token, rs, data⟩ := r
  obtain rfl : op = 4 := ho
  go_enter Tryz.func64, Tryz.ntmps64
  go_wp2
  go_ret
  exact ⟨rfl, (Fr.refl _ _).alloc _⟩
theorem of_less (p : Addr) (r : RQ) (A : Option Addr) (n c : Nat) (w : World) (ho : r.op = 5) : Calls Tryz.prog 64 #[.pointer (some p), reqV r (.slice A n c)] w fun e w' => e = .returned (.iface 180 (.agg #[.pointer (some p), .int .i64 r.index])) ∧ Fr Non w w' := by
  obtain ⟨op, region, index, token, rs, data⟩ := r
  obtain rfl : op = 5 := ho
  go_enter Tryz.func64, Tryz.ntmps64
  go_wp2
  go_ret
  exact ⟨rfl, (Fr.refl _ _).alloc _⟩

theorem put_rg (p : Value) (j : Int) (v : Value) (w : World) : Calls Tryz.prog 133 #[.agg #[p, .int .i64 j, v]] w fun e w' => e = .returned p ∧ Fr Non w w' := by
  go_enter Tryz.func133, Tryz.ntmps133
  go_wp2
  go_ret
  exact ⟨rfl, (Fr.refl _ _).alloc _⟩
theorem more_rg (p v : Value) (w : World) : Calls Tryz.prog 134 #[.agg #[p, v]] w fun e w' => e = .returned p ∧ Fr Non w w' := by
  go_enter Tryz.func134, Tryz.ntmps134
  go_wp2
  go_ret
  exact ⟨rfl, (Fr.refl _ _).alloc _⟩
theorem less_rg (p v : Value) (w : World) : Calls Tryz.prog 135 #[.agg #[p, v]] w fun e w' => e = .returned p ∧ Fr Non w w' := by
  go_enter Tryz.func135, Tryz.ntmps135
  go_wp2
  go_ret
  exact ⟨rfl, (Fr.refl _ _).alloc _⟩

theorem is_put (x : Value) (w : World) : (Instr.typeAssert (.iface 175 x) 129 175 true).run Tryz.prog w = .ok (.tuple #[x, .bool true]) w := by kernel_rfl
theorem is_more (x : Value) (w : World) : (Instr.typeAssert (.iface 177 x) 129 177 true).run Tryz.prog w = .ok (.tuple #[x, .bool true]) w := by kernel_rfl
theorem is_less (x : Value) (w : World) : (Instr.typeAssert (.iface 180 x) 129 180 true).run Tryz.prog w = .ok (.tuple #[x, .bool true]) w := by kernel_rfl
theorem no_put1 (x : Value) (w : World) : (Instr.typeAssert (.iface 177 x) 129 175 true).run Tryz.prog w = .ok (.tuple #[.agg #[.pointer none, .int .i64 0, .slice none 0 0], .bool false]) w := by kernel_rfl
theorem no_put2 (x : Value) (w : World) : (Instr.typeAssert (.iface 180 x) 129 175 true).run Tryz.prog w = .ok (.tuple #[.agg #[.pointer none, .int .i64 0, .slice none 0 0], .bool false]) w := by kernel_rfl
theorem no_more2 (x : Value) (w : World) : (Instr.typeAssert (.iface 180 x) 129 177 true).run Tryz.prog w = .ok (.tuple #[.agg #[.pointer none, .slice none 0 0], .bool false]) w := by kernel_rfl

set_option maxHeartbeats 1000000 in
set_option maxRecDepth 100000 in
theorem do_put {M0 : Imm} {L : List Res} (g : Nat) (m : Nat → Rg) (k j : Nat) (A : Option Addr) (n c : Nat) (b : List Int) (w : World) (hk : k < 4) (hj : j < 4) (hb : b.length ≤ 1000) (h : St M0 w (intsR .u8 (.slice A n c) b :: imgR g m :: L)) :
    Calls Tryz.prog 63 #[.iface 175 (.agg #[.pointer (some ⟨g, k * 7, none⟩), .int .i64 j, .slice A n c])] w fun e w' => e = .returned (.tuple #[]) ∧ St M0 w' (imgR g (upd m k { m k with b := upd (m k).b j b }) :: L) := by
  have H := hide h
  have hp := is_put
  clear h
  go_enter Tryz.func63, Tryz.ntmps63
  go_wp2_with fail
  refine (put_rg _ _ _ _).mono ?_
  rintro e w1 ⟨rfl, hf⟩
  have H1 := hide (H.out.grow hf)
  clear H hf
  go_wp2_with fail
  have hv := H1.out.alloc 175 #[.pointer (some ⟨g, k * 7, none⟩), .int .i64 j, .slice A n c]
  refine region_mix (fun W => ∃ m', St M0 W (blkR w1.heap.size 175 #[.pointer (some ⟨g, k * 7, none⟩), .int .i64 j, .slice A n c] :: intsR .u8 (.slice A n c) b :: imgR g m' :: L)) 10 [0, 1, 2, 3, 4, 6, 7] [5, 8, 9] (by kernel_rfl) (by kernel_rfl)
    (fun d => by cases d <;> exact fun _ _ _ _ h => h) (fun W hW => ?_)
  have hS := hide (show St M0 W (blkR w1.heap.size 175 #[.pointer (some ⟨g, k * 7, none⟩), .int .i64 j, .slice A n c] :: intsR .u8 (.slice A n c) b :: imgR g m :: L) by
    rw [hW]
    exact hv.drew)
  clear hv hW H1
  refine ⟨⟨_, hS.out⟩, ?_⟩
  iterate 7 (refine take_run rfl rfl (fun W hW => by (obtain ⟨m', hW⟩ := hW; have e1 := (hW.blk 0 rfl).cell 1; have e2 := (hW.blk 0 rfl).cell 2; clear hW; go_simp; try rfl)) ?_; (simp only [Act.put, List.setIfInBounds_toArray, List.set_cons_succ, List.set_cons_zero]))
  refine take_nil ?_
  obtain ⟨hn, _, _, hsl⟩ := (hS.out.get 1 rfl).sl
  refine seq_call (f := 76) (args := #[.slice A n c]) rfl rfl (by go_simp) ((clone_st A n c b _ hsl (by omega) hS.out).mono ?_)
  rintro e w2 ⟨v2, rfl, h⟩
  obtain ⟨A2, c2, rfl⟩ := h.slice
  refine ⟨_, rfl, fun _ => ⟨m, h.tail⟩, ?_⟩
  (simp only [Act.put, List.setIfInBounds_toArray, List.set_cons_succ, List.set_cons_zero])
  have h1 : St M0 w2 (imgR g m :: persR (fun w' => Ints w' .u8 (.slice A2 n c2) b) :: blkR w1.heap.size 175 #[.pointer (some ⟨g, k * 7, none⟩), .int .i64 j, .slice A n c] :: intsR .u8 (.slice A n c) b :: L) := h.ints.pick 4 [3, 0, 1, 2]
  obtain ⟨vs, h2⟩ := h1.img
  obtain ⟨⟨u, hc⟩, hf⟩ := img_there (h2.blk 0 rfl) hk (j := 2 + j) (by omega)
  have j0 : (0 : Int) ≤ (j : Int) := by omega
  have j4 : (j : Int) < 4 := by omega
  have h3 := h2.pick (L' := imgB g vs m :: regsR vs m :: persR (fun w' => Ints w' .u8 (.slice A2 n c2) b) :: blkR w1.heap.size 175 #[.pointer (some ⟨g, k * 7, none⟩), .int .i64 j, .slice A n c] :: intsR .u8 (.slice A n c) b :: L) 3 [0, 1, 2]
  have h4 := h3.setImg hk (j := 2 + j) (by omega) (x := { m k with b := upd (m k).b j b }) (p := { vs k with b := upd (vs k).b j (.slice A2 n c2) }) (u := .slice A2 n c2) (by rcases below4 hj with rfl | rfl | rfl | rfl <;> rfl)
    (fun w' ho hi => ⟨fun i hi4 => by
      by_cases he : i = j
      · subst he
        show Ints w' .u8 (upd (vs k).b i _ i) (upd (m k).b i b i)
        rw [upd_at, upd_at]
        exact hi
      · show Ints w' .u8 (upd (vs k).b j _ i) (upd (m k).b j b i)
        rw [upd_ne _ _ _ _ he, upd_ne _ _ _ _ he]
        exact ho.b i hi4, ho.log⟩)
  rw [← Nat.add_assoc] at hc hf h4
  have H2 := hide h.tail
  have H4 := hide h4
  clear h h1 h2 h3 h4 hS hsl hn
  refine seq_read rfl rfl (by go_simp; try rfl) (fun _ => ⟨m, H2.out⟩) ?_
  (simp only [Act.put, List.setIfInBounds_toArray, List.set_cons_succ, List.set_cons_zero])
  refine seq_store rfl rfl 34 _ _ (.pointer (some ⟨g, k * 7 + 2 + j, none⟩)) (.slice A2 n c2) rfl rfl rfl (by go_simp) (fun _ => ⟨_, H4.out.dn2⟩) ?_
  simp only [Act.put]
  refine seq_nil ?_
  go_wp2
  go_end0
  exact ⟨rfl, H4.out.pick 3 [0]⟩

theorem clip_any (A : Option Addr) (n c : Nat) (w : World) (hn : n ≤ c) (_hc : c ≤ 9223372036854775807) : Calls Tryz.prog 95 #[.slice A n c] w fun e w' => e = .returned (.slice A n n) ∧ w = w' := by
  go_enter Tryz.func95, Tryz.ntmps95
  go_wp2
  go_ret
  exact ⟨rfl, rfl⟩

theorem logs_elem : ElemOf Tryz.prog 37 34 (.slice none 0 0) 1 24 := ⟨Tryz.underlying37, by kernel_rfl, by kernel_rfl, by omega⟩
theorem build_log (w : World) (A : Option Addr) (n c : Nat) : (Instr.buildSlice 37 1 #[(0, .slice A n c)]).run Tryz.prog w = .ok (.slice (some ⟨w.heap.size, 0, none⟩) 1 1) (w.alloc (.cells #[.slice A n c] 34)) := by kernel_rfl

set_option maxHeartbeats 1000000 in
set_option maxRecDepth 100000 in
theorem do_more {M0 : Imm} {L : List Res} (g : Nat) (m : Nat → Rg) (k : Nat) (A : Option Addr) (n c : Nat) (b : List Int) (w : World) (hk : k < 4) (hm : (m k).log.length ≤ 1000) (hb : b.length ≤ 1000) (h : St M0 w (intsR .u8 (.slice A n c) b :: imgR g m :: L)) :
    Calls Tryz.prog 63 #[.iface 177 (.agg #[.pointer (some ⟨g, k * 7, none⟩), .slice A n c])] w fun e w' => e = .returned (.tuple #[]) ∧ St M0 w' (imgR g (upd m k { m k with log := (m k).log ++ [b] }) :: L) := by
  obtain ⟨vs, h⟩ := h.swap.img
  obtain ⟨hlog, hlq, hlc, hlm, hls⟩ : (∃ A6 n6 c6, (vs k).log = .slice A6 n6 c6 ∧ n6 = (m k).log.length ∧ n6 ≤ c6 ∧ c6 ≤ 9223372036854775807) ∧ True ∧ True ∧ True ∧ True := by
    obtain ⟨A6, c6, e6, h1, h2, _⟩ := ((h.get 1 rfl) k hk).log
    exact ⟨⟨A6, _, c6, e6, rfl, h1, h2⟩, trivial, trivial, trivial, trivial⟩
  obtain ⟨A6, n6, c6, e6, hn6, hc6, hm6⟩ := hlog
  have H := hide h
  have HN6 := hide hn6
  have hp := is_more
  have hp1 := no_put1
  have E6 := hide e6
  clear h hlq hlc hlm hls hn6 e6
  go_enter Tryz.func63, Tryz.ntmps63
  go_wp2_with fail
  refine (more_rg _ _ _).mono ?_
  rintro e w1 ⟨rfl, hf⟩
  have H1 := hide (H.out.grow hf)
  clear H hf
  go_wp2_with fail
  have hv := H1.out.alloc 177 #[.pointer (some ⟨g, k * 7, none⟩), .slice A n c]
  refine region_mix (fun W => St M0 W (blkR w1.heap.size 177 #[.pointer (some ⟨g, k * 7, none⟩), .slice A n c] :: imgB g vs m :: regsR vs m :: intsR .u8 (.slice A n c) b :: L)) 11 [0, 1, 2, 3, 4, 6, 7] [5, 8, 9, 10, 11, 12, 13] (by kernel_rfl) (by kernel_rfl)
    (fun d => by cases d <;> exact fun _ _ _ _ h => h) (fun W hW => ?_)
  have hS := hide (show St M0 W (blkR w1.heap.size 177 #[.pointer (some ⟨g, k * 7, none⟩), .slice A n c] :: imgB g vs m :: regsR vs m :: intsR .u8 (.slice A n c) b :: L) by
    rw [hW]
    exact hv.drew)
  clear hv hW H1
  refine ⟨hS.out, ?_⟩
  iterate 7 (refine take_run rfl rfl (fun W hW => by (have e1 := (hW.blk 0 rfl).cell 1; have x6 := img_cell (hW.blk 1 rfl) (k := k) (j := 6) hk (by omega) rfl; rw [E6.out] at x6; clear hW; go_simp; try rfl)) ?_; (simp only [Act.put, List.setIfInBounds_toArray, List.set_cons_succ, List.set_cons_zero]))
  refine take_nil ?_
  refine seq_call (f := 95) (args := #[.slice A6 n6 c6]) rfl rfl (by go_simp) ((clip_any A6 n6 c6 _ hc6 hm6).mono ?_)
  rintro e w2 ⟨rfl, rfl⟩
  refine ⟨_, rfl, fun _ => hS.out, ?_⟩
  (simp only [Act.put, List.setIfInBounds_toArray, List.set_cons_succ, List.set_cons_zero])
  obtain ⟨hn, _, _, hsl⟩ := (hS.out.get 3 rfl).sl
  refine seq_call (f := 76) (args := #[.slice A n c]) rfl rfl (by go_simp) ((clone_st A n c b _ hsl (by omega) hS.out).mono ?_)
  rintro e w2 ⟨v2, rfl, h⟩
  obtain ⟨A2, c2, rfl⟩ := h.slice
  refine ⟨_, rfl, fun _ => h.tail, ?_⟩
  (simp only [Act.put, List.setIfInBounds_toArray, List.set_cons_succ, List.set_cons_zero])
  have h1 := h.ints
  clear h hsl hS
  refine seq_buildSlice1 rfl rfl 37 1 0 _ (.slice A2 n c2) rfl rfl (build_log _ _ _ _) (fun _ => (h1.tail.junk _)) ?_
  (simp only [Act.put, List.setIfInBounds_toArray, List.set_cons_succ, List.set_cons_zero])
  have h3 := h1.junk (.cells #[.slice A2 n c2] 34)
  have hr6 := ((h3.get 3 rfl) k hk).log
  rw [E6.out] at hr6
  obtain ⟨hs6, hn6, _, _, hl6⟩ := hr6.sl (by omega)
  refine seq_full logs_elem h3 rfl rfl _ _ rfl rfl hs6 (some ⟨w2.heap.size, 0, none⟩) 1 1 rfl [.slice A2 n c2] (sl_new1 _ _ _) (by simp [Value.oneCell']) (by omega) (by omega) (by omega) (fun A4 c4 w4 h4 => ⟨fun _ => h4.tail.tail, ?_⟩)
  (simp only [Act.put, List.setIfInBounds_toArray, List.set_cons_succ, List.set_cons_zero])
  have h5 := (h4.pick (L' := persR (fun w' => Ints w' .u8 (.slice A2 n c2) b) :: rowR 34 1 (.slice A4 (n6 + 1) c4) (n6 + 1) (flat (vs k).cs n6 ++ [.slice A2 n c2]) :: imgB g vs m :: regsR vs m :: L) 6 [1, 0, 3, 4]).pers1 (R' := fun w' => LogR w' [.slice A2 n c2] b) (fun w' hi => ⟨_, rfl, hi⟩)
  have h6 := (h5.copy 3 rfl).pers1 (R' := fun w' => RowsC w' 1 LogR (vs k).log (vs k).cs (m k).log) (fun w' hi => (hi k hk).log)
  have h7 := (h6.up2.snocC hn6 rfl hl6).dn2
  obtain ⟨⟨u, hc⟩, hf⟩ := img_there (h7.blk 0 rfl) hk (j := 6) (by omega)
  have h8 := h7.setImg hk (j := 6) (by omega) (x := { m k with log := (m k).log ++ [b] }) (p := { vs k with log := .slice A4 (n6 + 1) c4, cs := fun i => ((flat (vs k).cs n6 ++ [Value.slice A2 n c2]).drop (i * 1)).take 1 }) (u := .slice A4 (n6 + 1) c4) rfl (fun w' ho hi => ⟨ho.b, hi⟩)
  have H8 := hide h8
  clear h1 h3 hr6 hs6 hn6 hl6 h4 h5 h6 h7 h8
  (refine seq_read rfl rfl (by (go_simp; try rfl)) (fun h => absurd h (by decide)) ?_; simp only [Act.put, List.setIfInBounds_toArray, List.set_cons_succ, List.set_cons_zero])
  (refine seq_read rfl rfl (by (go_simp; try rfl)) (fun h => absurd h (by decide)) ?_; simp only [Act.put, List.setIfInBounds_toArray, List.set_cons_succ, List.set_cons_zero])
  refine seq_store rfl rfl 37 _ _ (.pointer (some ⟨g, k * 7 + 6, none⟩)) (.slice A4 (n6 + 1) c4) rfl rfl rfl (by go_simp; rfl) (fun h => absurd h (by decide)) ?_
  simp only [Act.put]
  refine seq_nil ?_
  go_wp2
  go_end0
  exact ⟨rfl, H8.out⟩


theorem RowsC.dropC {α : Type} {w : World} {size : Nat} {R : World → List Value → α → Prop} {A A' : Option Addr} {n c m : Nat} {css : Nat → List Value} {xs : List α} (h : RowsC w size R (.slice A n c) css xs) (hm : m ≤ n) (hA : m < n → A' = A.map (·.add (m * size))) :
    RowsC w size R (.slice A' (n - m) (c - m)) (fun i => css (i + m)) (xs.drop m) := by
  obtain ⟨A0, c0, e, h1, h2, h3⟩ := h
  injection e with e1 e2 e3
  subst e1; subst e2; subst e3
  refine ⟨A', c - m, by rw [List.length_drop], by rw [List.length_drop]; omega, by omega, fun i x hi => ?_⟩
  rw [List.getElem?_drop] at hi
  have hlt := (List.getElem?_eq_some_iff.1 hi).1
  obtain ⟨ad, hA0, hl, hc, hr⟩ := h3 (m + i) x hi
  rw [Nat.add_comm m i] at hl hc hr
  refine ⟨ad.add (m * size), by rw [hA (by omega), hA0]; rfl, hl, fun j u hu => ?_, hr⟩
  have e : m * size + (i * size + j) = (i + m) * size + j := by rw [Nat.add_mul]; omega
  rw [addr_add, addr_add, e, ← addr_add]
  exact hc j u hu

set_option maxHeartbeats 1000000 in
set_option maxRecDepth 100000 in
theorem do_less {M0 : Imm} {L : List Res} (g : Nat) (m : Nat → Rg) (k j : Nat) (w : World) (hk : k < 4) (hj : j ≤ (m k).log.length) (h : St M0 w (imgR g m :: L)) :
    Calls Tryz.prog 63 #[.iface 180 (.agg #[.pointer (some ⟨g, k * 7, none⟩), .int .i64 j])] w fun e w' => e = .returned (.tuple #[]) ∧ St M0 w' (imgR g (upd m k { m k with log := (m k).log.drop j }) :: L) := by
  obtain ⟨vs, h⟩ := h.img
  obtain ⟨A6, n6, c6, e6, hn6, hc6, hm6⟩ : ∃ A6 n6 c6, (vs k).log = .slice A6 n6 c6 ∧ n6 = (m k).log.length ∧ n6 ≤ c6 ∧ c6 ≤ 9223372036854775807 := by
    obtain ⟨A6, c6, e6, h1, h2, _⟩ := ((h.get 1 rfl) k hk).log
    exact ⟨A6, _, c6, e6, rfl, h1, h2⟩
  have j0 : (0 : Int) ≤ (j : Int) := by omega
  have j1 : (j : Int) ≤ (n6 : Int) := by omega
  have j2 : (n6 : Int) ≤ (c6 : Int) := by omega
  have H := hide h
  have HN6 := hide hn6
  have hp := is_less
  have hp1 := no_put2
  have hp2 := no_more2
  have E6 := hide e6
  clear h hn6 e6
  go_enter Tryz.func63, Tryz.ntmps63
  go_wp2_with fail
  refine (less_rg _ _ _).mono ?_
  rintro e w1 ⟨rfl, hf⟩
  have H1 := hide (H.out.grow hf)
  clear H hf
  go_wp2_with fail
  have hv := H1.out.alloc 180 #[.pointer (some ⟨g, k * 7, none⟩), .int .i64 j]
  refine region_mix (fun W => St M0 W (blkR w1.heap.size 180 #[.pointer (some ⟨g, k * 7, none⟩), .int .i64 j] :: imgB g vs m :: regsR vs m :: L)) 8 [0, 1, 2, 3, 4, 5, 6, 7] [8, 9, 10] (by kernel_rfl) (by kernel_rfl)
    (fun d => by cases d <;> exact fun _ _ _ _ h => h) (fun W hW => ?_)
  have hS := hide (show St M0 W (blkR w1.heap.size 180 #[.pointer (some ⟨g, k * 7, none⟩), .int .i64 j] :: imgB g vs m :: regsR vs m :: L) by
    rw [hW]
    exact hv.drew)
  clear hv hW H1
  refine ⟨hS.out, ?_⟩
  iterate 8 (refine take_run rfl rfl (fun W hW => by (have e1 := (hW.blk 0 rfl).cell 1; have x6 := img_cell (hW.blk 1 rfl) (k := k) (j := 6) hk (by omega) rfl; rw [E6.out] at x6; clear hW; go_simp; try rfl)) ?_; (simp only [Act.put, List.setIfInBounds_toArray, List.set_cons_succ, List.set_cons_zero]))
  refine take_nil ?_
  have hA : j < n6 → (if c6 = j then A6 else A6.map (fun x => x.add j)) = A6.map (·.add (j * 1)) := fun hlt => by rw [if_neg (by omega), Nat.mul_one]
  generalize (if c6 = j then A6 else A6.map (fun x => x.add j)) = A7 at hA ⊢
  have h7 := (hS.out.tail.copy 1 rfl).pers1 (R' := fun w' => RowsC w' 1 LogR (.slice A7 (n6 - j) (c6 - j)) (fun i => (vs k).cs (i + j)) ((m k).log.drop j)) (fun w' hi => by
    have hr := (hi k hk).log
    rw [E6.out] at hr
    exact hr.dropC (by have := HN6.out; omega) hA)
  obtain ⟨⟨u, hc⟩, hf⟩ := img_there (h7.blk 1 rfl) hk (j := 6) (by omega)
  have h8 := h7.dn2.setImg hk (j := 6) (by omega) (x := { m k with log := (m k).log.drop j }) (p := { vs k with log := .slice A7 (n6 - j) (c6 - j), cs := fun i => (vs k).cs (i + j) }) (u := .slice A7 (n6 - j) (c6 - j)) rfl (fun w' ho hi => ⟨ho.b, hi⟩)
  have H8 := hide h8
  clear hS h7 h8 hA
  (refine seq_read rfl rfl (by (go_simp; try rfl)) (fun h => absurd h (by decide)) ?_; simp only [Act.put, List.setIfInBounds_toArray, List.set_cons_succ, List.set_cons_zero])
  (refine seq_read rfl rfl (by (go_simp; try rfl)) (fun h => absurd h (by decide)) ?_; simp only [Act.put, List.setIfInBounds_toArray, List.set_cons_succ, List.set_cons_zero])
  refine seq_store rfl rfl 37 _ _ (.pointer (some ⟨g, k * 7 + 6, none⟩)) (.slice A7 (n6 - j) (c6 - j)) rfl rfl rfl (by go_simp; rfl) (fun h => absurd h (by decide)) ?_
  simp only [Act.put]
  refine seq_nil ?_
  go_wp2
  go_end0
  exact ⟨rfl, H8.out⟩

end Go.Proofs.YtpaelngpmbeedaaGreatDoor
/- Image: copies. -/
namespace Go.Proofs.YtpaelngpmbeedaaGreatDoor
open Go.RowKit

theorem take_snoc {α : Type} {xs : List α} {k : Nat} {x : α} (h : xs[k]? = some x) : xs.take (k + 1) = xs.take k ++ [x] := by
  obtain ⟨hlt, rfl⟩ := List.getElem?_eq_some_iff.1 h
  exact List.take_succ_eq_append_getElem hlt

set_option maxHeartbeats 1000000 in
theorem copies_st {M0 : Imm} {L : List Res} (v : Value) (xs : List (List Int)) (w : World) (hl : xs.length ≤ 1000) (hb : ∀ x ∈ xs, x.length ≤ 1000) (h : St M0 w (rowsR 1 LogR v xs :: L)) :
    Calls Tryz.prog 65 #[v] w fun e w' => ∃ V, e = .returned V ∧ St M0 w' (rowsR 1 LogR V xs :: L) := by
  obtain ⟨A, c, rfl, hc, hm⟩ := (h.getRows 0 rfl).slice
  generalize hn : xs.length = n at *
  have HN := hide hn
  have HB := hide hb
  have H := hide h
  clear hn h hb
  go_enter Tryz.func65, Tryz.ntmps65
  go_wp2_with fail
  go_loopg [3, 8] n (fun gh out i wr => ∃ k q A' c', gh = n - k ∧ k ≤ n ∧ i = .int .i64 (k : Nat) ∧ out = .slice A' q c' ∧ q = k ∧ St M0 wr (growR 34 1 LogR (.slice A' q c') (xs.take k) :: rowsR 1 LogR (.slice A n c) xs :: L))
  case atStart => exact ⟨0, 0, none, 0, rfl, by omega, rfl, rfl, rfl, H.out.nilGrow 34 1 LogR⟩
  case round =>
    obtain ⟨k, q, A', c', hg, hk, rfl, rfl, hq, h⟩ := hrel
    have HG := hide hg
    clear hg H
    by_cases hlt : k < n
    · have hx := List.getElem?_eq_getElem (l := xs) (i := k) (by rw [HN.out]; exact hlt)
      generalize xs[k]'(by rw [HN.out]; exact hlt) = x at hx
      obtain ⟨ad, cs, rfl, _, hcs, ⟨vb, rfl, hvb⟩, _⟩ := h.elem 1 rfl hx
      obtain ⟨A2, c2, rfl, hc2, hm2, hs2⟩ := hvb
      have k0 : wr.cell? (ad.add k) = some (.slice A2 x.length c2) := by simpa [Addr.add] using hcs 0 _ rfl
      have hx1 : x.length ≤ 1000 := HB.out x (List.mem_of_getElem? hx)
      have HX := hide hx
      have HS2 := hide hs2
      have HQ := hide hq
      have H := hide h
      generalize hnx : x.length = nx at *
      have HNX := hide hnx
      clear hx hcs h hs2 hq hnx
      go_wp2_with fail
      refine (clone_st A2 nx c2 x _ HS2.out (by omega) H.out).mono ?_
      rintro e w2 ⟨v2, rfl, h⟩
      obtain ⟨A3, c3, rfl⟩ := h.slice
      obtain ⟨vs, hq, hvs, h3⟩ := (h.ints.swap).openGrowS
      have H3 := hide (h3.junk (.cells #[.slice A3 nx c3] 34))
      have HVS := hide hvs
      have hq1 : q ≤ 1000 := by have := HQ.out; omega
      clear h h3 hq hvs k0 H
      go_wp2_with (at_builtin; refine St.app_step logs_elem H3.out rfl _ _ rfl rfl (some ⟨w2.heap.size, 0, none⟩) 1 1 rfl [.slice A3 nx c3] (sl_new1 _ _ _) (by simp [Value.oneCell']) (by omega) (by omega) ?_; intro A4 c4 w4 h4)
      go_roundg (n - (k + 1))
      case measure => have := HG.out; omega
      case rel =>
        refine ⟨k + 1, q + 1, A4, c4, rfl, by omega, by go_num, rfl, by rw [HQ.out], ?_⟩
        rw [take_snoc HX.out]
        have h5 := (h4.up2.pers1 (R' := fun w' => LogR w' [.slice A3 nx c3] x) (fun w' hi => ⟨_, rfl, hi⟩))
        exact h5.dn2.snocGrow (by rw [List.length_take, HQ.out, HN.out]; omega) rfl HVS.out
    · obtain rfl : k = n := by omega
      rw [List.take_of_length_le (by rw [HN.out]; exact Nat.le_refl _)] at h
      have H := hide h
      have HQ := hide hq
      clear h hq
      go_wp2_with fail
      go_ret
      refine ⟨_, rfl, ?_⟩
      obtain ⟨_, _, _, h5⟩ := H.out.openGrowS
      exact (h5.rows (by rw [HN.out]; exact HQ.out)).pick 2 [0]

end Go.Proofs.YtpaelngpmbeedaaGreatDoor
/- Image.Do. Printed by gen_imgdo.py. -/
namespace Go.Proofs.YtpaelngpmbeedaaGreatDoor
open Go.RowKit

section
variable {M0 : Imm} {w : World} {L : List Res} {g k : Nat} {m : Nat → Rg} {vs : Nat → RV}
theorem St.setHigh (h : St M0 w (imgB g vs m :: regsR vs m :: L)) (hk : k < 4) (x : Int) : St M0 (w.setCell ⟨g, k * 7, none⟩ (.int .u64 x)) (imgR g (upd m k { m k with high := x }) :: L) :=
  (h.pers0 (R := fun _ => True) (fun _ _ => trivial)).dn2.setImg hk (j := 0) (by omega) (x := { m k with high := x }) (p := vs k) (u := .int .u64 x) rfl (fun _ ho _ => ⟨ho.b, ho.log⟩)
theorem St.setSeq (h : St M0 w (imgB g vs m :: regsR vs m :: L)) (hk : k < 4) (x : Int) : St M0 (w.setCell ⟨g, k * 7 + 1, none⟩ (.int .u32 x)) (imgR g (upd m k { m k with seq := x }) :: L) :=
  (h.pers0 (R := fun _ => True) (fun _ _ => trivial)).dn2.setImg hk (j := 1) (by omega) (x := { m k with seq := x }) (p := vs k) (u := .int .u32 x) rfl (fun _ ho _ => ⟨ho.b, ho.log⟩)
theorem upd_two (m : Nat → Rg) (k : Nat) (h q : Int) : upd (upd m k { m k with high := h }) k { upd m k { m k with high := h } k with seq := q } = upd m k ⟨h, q, (m k).b, (m k).log⟩ := by
  rw [upd_upd, upd_at]
theorem act_put (x : Rg) (a k : Int) (j : Nat) (t q : Int) (d : List Int) (ha : a = 2) : x.act ⟨a, k, j, t, q, d⟩ = ⟨t, q, upd x.b j d, x.log⟩ := by
  subst ha
  simp [Rg.act]
theorem act_more (x : Rg) (a k : Int) (j : Nat) (t q : Int) (d : List Int) (ha : a = 4) : x.act ⟨a, k, j, t, q, d⟩ = ⟨t, q, x.b, x.log ++ [d]⟩ := by
  subst ha
  simp [Rg.act]
theorem act_less (x : Rg) (a k : Int) (j : Nat) (t q : Int) (d : List Int) (ha : a = 5) : x.act ⟨a, k, j, t, q, d⟩ = ⟨t, q, x.b, x.log.drop j⟩ := by
  subst ha
  simp [Rg.act]
theorem out_none (x : Rg) (a k : Int) (j : Nat) (t q : Int) (d : List Int) (h1 : a ≠ 1) (h3 : a ≠ 3) : x.out ⟨a, k, j, t, q, d⟩ = [] := (if_neg h1).trans (if_neg h3)
theorem St.noRows {α : Type} (h : St M0 w L) (size : Nat) (R : World → List Value → α → Prop) : St M0 w (rowsR size R (.slice none 0 0) [] :: L) :=
  St.addEx (f := fun css => persR (fun w => RowsC w size R (.slice none 0 0) css [])) (fun _ => []) (h.pers0 (fun _ _ => RowsC.none_ _ _ _ _))
theorem rgC_b (x : Rg) (p : RV) {j : Nat} (hj : j < 4) : (rgC x p)[2 + j]? = some (p.b j) := by
  rcases below4 hj with rfl | rfl | rfl | rfl <;> rfl
theorem one_log {w : World} {v : Value} {b : List Int} (h : Ints w .u8 v b) : ∀ (i : Nat) x, [b][i]? = some x → LogR w (([v].drop (i * 1)).take 1) x := by
  intro i x hx
  match i, hx with
  | 0, hx =>
    obtain rfl : b = x := by simpa using hx
    exact ⟨v, rfl, h⟩
  | i + 1, hx => simp at hx
end

set_option maxRecDepth 100000 in
set_option maxHeartbeats 2000000 in
theorem do_st {M0 : Imm} {L : List Res} (g : Nat) (m : Nat → Rg) (r : RQ) (A : Option Addr) (n c : Nat) (w : World) (hr : r.ok) (hm : ∀ k, (m k).ok) (h : St M0 w (intsR .u8 (.slice A n c) r.data :: imgR g m :: L)) :
    Calls Tryz.prog 26 #[.pointer (some ⟨g, 0, none⟩), reqV r (.slice A n c)] w fun e w' => ∃ V, e = .returned (.tuple #[V, .int .i64 (checkI m r).2]) ∧ St M0 w' (rowsR 1 LogR V (doO m r) :: imgR g (doM m r) :: L) := by
  have hn : n = r.data.length := (h.get 0 rfl).sl.1
  have HC := hide (fun w' L' => check_st (M0 := M0) (L := L') g m r A n c w' hr hm hn)
  have HR := hide hr
  have HN := hide hn
  have H := hide h
  clear h hr hn
  by_cases he : (checkI m r).2 = 0
  · have hg := check_ok he
    obtain ⟨z0, z1, z2, z3, z4, z5, z6⟩ := RQ.wrong_zero hg.w
    have hfr := fun hf => check_fresh (m := m) (r := r) hf
    cases hf : (checkI m r).1 with
    | false =>
      have E0 := hide (show doM m r = m from if_neg (fun h => by rw [hf] at h; cases h.2))
      have E1 := hide (show doO m r = (m r.region.toNat).out r by unfold doO; rw [if_pos he, E0.out])
      rw [hf, he] at HC
      have HE := hide he
      clear hf hfr he
      obtain ⟨op, region, index, token, seq, data⟩ := r
      obtain ⟨hgw, hgk, hgi, hgt⟩ := hg
      simp only at z0 z1 z2 z3 z4 z5 z6 hgk hgi
      obtain ⟨k, rfl⟩ := Int.eq_ofNat_of_zero_le z2
      obtain ⟨j, rfl⟩ := Int.eq_ofNat_of_zero_le z4
      have hk : k < 4 := by omega
      have kn : (0 : Int) ≤ (k : Int) := by omega
      have k4 : (k : Int) < 4 := by omega
      have hj : op ≤ 2 → j < 4 := fun h => by have := hgi h; omega
      simp only [Int.toNat_natCast] at E0 E1
      clear hgw hgi hgt z2 z3 z4 z5 hgk
      go_enter Tryz.func26, Tryz.ntmps26
      go_wp2_with fail
      refine (HC.out _ _ (H.out.alloc 42 #[.int .i64 op, .int .i64 k, .int .i64 j, .int .u64 token, .int .u32 seq, .slice A n c]).up2).mono ?_
      rintro e w1 ⟨rfl, h⟩
      obtain ⟨vs, hi⟩ := h.img
      obtain ⟨e0, e1, e2, e3, e4, e5⟩ := (hi.blk 2 rfl).six
      have HI := hide hi
      clear H h hi
      by_cases o1 : op = 1
      · subst o1
        have hj4 := hj (by omega)
        obtain ⟨Aj, cj, ej, _⟩ := ((HI.out.get 1 rfl) k hk).b j hj4
        have EJ := hide ej
        have j0 : (0 : Int) ≤ (j : Int) := by omega
        have j4 : (j : Int) < 4 := by omega
        clear ej
        go_wp2_with go_quiet (fail)
        refine region_mix (fun W => St M0 W (imgB g vs m :: regsR vs m :: blkR w.heap.size 42 #[.int .i64 1, .int .i64 k, .int .i64 j, .int .u64 token, .int .u32 seq, .slice A n c] :: intsR .u8 (.slice A n c) data :: L)) 9 [0, 1, 2, 3, 4, 5, 6] [7, 8, 9, 10] (by kernel_rfl) (by kernel_rfl)
          (fun d => by cases d <;> exact fun _ _ _ _ h => h) (fun W hW => ?_)
        have hS := hide (show St M0 W (imgB g vs m :: regsR vs m :: blkR w.heap.size 42 #[.int .i64 1, .int .i64 k, .int .i64 j, .int .u64 token, .int .u32 seq, .slice A n c] :: intsR .u8 (.slice A n c) data :: L) by
          rw [hW]
          exact (HI.out.drewN _).drew)
        clear hW e0 e1 e2 e3 e4 e5
        refine ⟨hS.out, ?_⟩
        iterate 7 (refine take_run rfl rfl (fun W hW => by (obtain ⟨e0, e1, e2, e3, e4, e5⟩ := (hW.blk 2 rfl).six; have xj := img_cell (hW.blk 0 rfl) (k := k) (j := 2 + j) hk (by omega) (rgC_b _ _ hj4); rw [EJ.out, ← Nat.add_assoc] at xj; clear hW; go_simp; try rfl)) ?_; (simp only [Act.put, List.setIfInBounds_toArray, List.set_cons_succ, List.set_cons_zero]))
        refine take_nil ?_
        refine seq_buildSlice1 rfl rfl 37 1 0 _ (.slice Aj ((m k).b j).length cj) rfl rfl (build_log _ _ _ _) (fun _ => hS.out.junk _) ?_
        (simp only [Act.put, List.setIfInBounds_toArray, List.set_cons_succ, List.set_cons_zero])
        have h2 := (hS.out.copy 1 rfl).pers1 (R' := fun w' => ∀ (i : Nat) x, [(m k).b j][i]? = some x → LogR w' (([Value.slice Aj ((m k).b j).length cj].drop (i * 1)).take 1) x) (fun w' hi => one_log (by have := (hi k hk).b j hj4; rw [EJ.out] at this; exact this))
        have h3 := (h2.litRow 34 1 1 [.slice Aj ((m k).b j).length cj] rfl (by omega) W.heap.size rfl).rows rfl
        have H3 := hide h3
        clear h2 h3 hS
        refine seq_call (f := 65) (args := #[.slice (some ⟨W.heap.size, 0, none⟩) 1 1]) rfl rfl (by go_simp) ((copies_st _ [(m k).b j] _ (by simp) (fun x hx => by obtain rfl := List.mem_singleton.1 hx; have := (hm k).bb j; omega) H3.out).mono ?_)
        rintro e w2 ⟨V, rfl, h⟩
        have H4 := hide h
        clear H3 h
        refine ⟨_, rfl, fun _ => H4.out.tail, ?_⟩
        (simp only [Act.put, List.setIfInBounds_toArray, List.set_cons_succ, List.set_cons_zero])
        (refine seq_read rfl rfl (by (go_simp; try rfl)) (fun h => absurd h (by decide)) ?_; simp only [Act.put, List.setIfInBounds_toArray, List.set_cons_succ, List.set_cons_zero])
        (refine seq_read rfl rfl (by (go_simp; try rfl)) (fun h => absurd h (by decide)) ?_; simp only [Act.put, List.setIfInBounds_toArray, List.set_cons_succ, List.set_cons_zero])
        refine seq_nil ?_
        go_wp2_with fail
        go_ret2
        refine ⟨V, by rw [HE.out]; try rfl, ?_⟩
        rw [E1.out, E0.out]
        have h5 := H4.out.pick (L' := rowsR 1 LogR V [(m k).b j] :: imgB g vs m :: regsR vs m :: L) 5 [0, 1, 2]
        exact (St.addImg h5.dn2).swap
      by_cases o3 : op = 3
      · subst o3
        obtain ⟨A6, c6, e6, hc6, hm6, _⟩ := ((HI.out.get 1 rfl) k hk).log
        have E6 := hide e6
        have x6 := img_cell (HI.out.blk 0 rfl) (k := k) (j := 6) hk (by omega) rfl
        rw [e6] at x6
        clear e6
        have h2 := (HI.out.copy 1 rfl).pers1 (R' := fun w' => RowsC w' 1 LogR (.slice A6 (m k).log.length c6) (vs k).cs (m k).log) (fun w' hi => by have := (hi k hk).log; rw [E6.out] at this; exact this)
        have H2 := hide (St.addEx (f := fun css => persR (fun w' => RowsC w' 1 LogR (.slice A6 (m k).log.length c6) css (m k).log)) _ h2)
        clear h2
        go_wp2_with go_quiet (fail)
        refine (copies_st _ (m k).log _ (by have := (hm k).ll; omega) (fun x hx => by have := (hm k).lb x hx; omega) (H2.out.drewN _)).mono ?_
        rintro e w2 ⟨V, rfl, h⟩
        have H3 := hide h
        clear H2 h
        go_wp2_with fail
        go_ret2
        refine ⟨V, by rw [HE.out]; try rfl, ?_⟩
        rw [E1.out, E0.out]
        have h5 := H3.out.pick (L' := rowsR 1 LogR V (m k).log :: imgB g vs m :: regsR vs m :: L) 5 [0, 1, 2]
        exact (St.addImg h5.dn2).swap
      have b1 := isF o1
      have b3 := isF o3
      go_wp2_with go_quiet (fail)
      go_ret2
      refine ⟨.slice none 0 0, by rw [HE.out]; try rfl, ?_⟩
      rw [E1.out, E0.out, show (m k).out ⟨op, k, j, token, seq, data⟩ = [] from (if_neg o1).trans (if_neg o3)]
      refine St.noRows ?_ _ _
      refine St.drewN ?_ _
      have h5 := HI.out.pick (L' := imgB g vs m :: regsR vs m :: L) 4 [0, 1]
      exact St.addImg h5
    | true =>
      have E0 := hide (show doM m r = upd m r.region.toNat ((m r.region.toNat).act r) from if_pos ⟨he, hf⟩)
      have E1 := hide (show doO m r = ((m r.region.toNat).act r).out r by unfold doO; rw [if_pos he, E0.out, upd_at])
      obtain ⟨hch, ht0, hl4, hl5⟩ := hfr hf
      rw [hf, he] at HC
      have HE := hide he
      clear hf hfr he
      obtain ⟨op, region, index, token, seq, data⟩ := r
      obtain ⟨hgw, hgk, hgi, hgt⟩ := hg
      simp only at z0 z1 z2 z3 z4 z5 z6 hgk hgi
      obtain ⟨k, rfl⟩ := Int.eq_ofNat_of_zero_le z2
      obtain ⟨j, rfl⟩ := Int.eq_ofNat_of_zero_le z4
      have hk : k < 4 := by omega
      have kn : (0 : Int) ≤ (k : Int) := by omega
      have k4 : (k : Int) < 4 := by omega
      have hop := RQ.changes_op hch
      simp only at hop ht0 hl4 hl5
      simp only [Int.toNat_natCast] at hl4 hl5
      have hj : op ≤ 2 → j < 4 := fun h => by have := hgi h; omega
      simp only [Int.toNat_natCast] at E0 E1
      clear hgw hgi hgt z2 z3 z4 z5 hgk
      go_enter Tryz.func26, Tryz.ntmps26
      go_wp2_with fail
      refine (HC.out _ _ (H.out.alloc 42 #[.int .i64 op, .int .i64 k, .int .i64 j, .int .u64 token, .int .u32 seq, .slice A n c]).up2).mono ?_
      rintro e w1 ⟨rfl, h⟩
      obtain ⟨vs, hi⟩ := h.img
      obtain ⟨e0, e1, e2, e3, e4, e5⟩ := (hi.blk 2 rfl).six
      have HI := hide hi
      clear H h hi
      go_wp2_with go_quiet (fail)
      refine region_mix (fun W => Blk W w.heap.size 42 #[.int .i64 op, .int .i64 k, .int .i64 j, .int .u64 token, .int .u32 seq, .slice A n c]) 9 [0, 1, 2, 3, 4, 5, 6, 7] [8, 9, 10, 11] (by kernel_rfl) (by kernel_rfl)
        (fun d => by cases d <;> exact fun _ _ _ _ h => h) (fun W hW => ?_)
      have hS := hide (show St M0 W (imgB g vs m :: regsR vs m :: blkR w.heap.size 42 #[.int .i64 op, .int .i64 k, .int .i64 j, .int .u64 token, .int .u32 seq, .slice A n c] :: intsR .u8 (.slice A n c) data :: L) by
        rw [hW]
        exact (HI.out.drewN _).drew)
      clear hW e0 e1 e2 e3 e4 e5 HI
      refine ⟨hS.out.blk 2 rfl, ?_⟩
      iterate 8 (refine take_run rfl rfl (fun W hW => by (obtain ⟨e0, e1, e2, e3, e4, e5⟩ := hW.six; clear hW; go_simp; try rfl)) ?_; (simp only [Act.put, List.setIfInBounds_toArray, List.set_cons_succ, List.set_cons_zero]))
      refine take_nil ?_
      obtain ⟨⟨u, hc⟩, hf⟩ := img_there (hS.out.blk 0 rfl) hk (j := 0) (by omega)
      simp only [Nat.add_zero] at hc hf
      have h2 := hS.out.setHigh hk token
      refine seq_store rfl rfl 30 _ _ (.pointer (some ⟨g, k * 7, none⟩)) (.int .u64 token) rfl rfl rfl (by go_simp) (fun _ => h2.blk 1 rfl) ?_
      clear hc hf hS
      generalize W.setCell ⟨g, k * 7, none⟩ (.int .u64 token) = W2 at h2 ⊢
      simp only [Act.put]
      obtain ⟨vs2, h3⟩ := h2.img
      obtain ⟨⟨u2, hc⟩, hf⟩ := img_there (h3.blk 0 rfl) hk (j := 1) (by omega)
      have h4 := h3.setSeq hk seq
      rw [upd_two] at h4
      have H3 := hide h3
      have H4 := hide h4
      clear h2 h3 h4
      (refine seq_read rfl rfl (by (go_simp; try rfl)) (fun h => absurd h (by decide)) ?_; simp only [Act.put, List.setIfInBounds_toArray, List.set_cons_succ, List.set_cons_zero])
      (refine seq_read rfl rfl (by (go_simp; try rfl)) (fun h => absurd h (by decide)) ?_; simp only [Act.put, List.setIfInBounds_toArray, List.set_cons_succ, List.set_cons_zero])
      refine seq_store rfl rfl 32 _ _ (.pointer (some ⟨g, k * 7 + 1, none⟩)) (.int .u32 seq) rfl rfl rfl (by go_simp; rfl) (fun h => absurd h (by decide)) ?_
      have h4 := H4.out
      clear hc hf H3 H4
      generalize W2.setCell ⟨g, k * 7 + 1, none⟩ (.int .u32 seq) = W3 at h4 ⊢
      simp only [Act.put]
      refine seq_nil ?_
      obtain ⟨e0, e1, e2, e3, e4, e5⟩ := (h4.blk 1 rfl).six
      have H4 := hide h4
      have hz6 : n ≤ 24 := by have := HN.out; omega
      clear h4
      go_wp2_with fail
      rcases hop with rfl | rfl | rfl
      · refine (of_put ⟨g, k * 7, none⟩ ⟨2, k, j, token, seq, data⟩ A n c _ rfl).mono ?_
        rintro e w4 ⟨rfl, hf⟩
        have h5 := (H4.out.grow hf).pick (L' := intsR .u8 (.slice A n c) data :: imgR g (upd m k ⟨token, seq, (m k).b, (m k).log⟩) :: blkR w.heap.size 42 #[.int .i64 2, .int .i64 k, .int .i64 j, .int .u64 token, .int .u32 seq, .slice A n c] :: L) 3 [2, 0, 1]
        have H5 := hide h5
        clear H4 hf h5 e0 e1 e2 e3 e4 e5
        go_wp2_with fail
        refine (do_put g _ k j A n c data _ hk (hj (by omega)) (by omega) H5.out).mono ?_
        rintro e w5 ⟨rfl, h⟩
        rw [upd_upd, upd_at] at h
        obtain ⟨e0, e1, e2, e3, e4, e5⟩ := (h.blk 1 rfl).six
        have H6 := hide h
        clear h H5
        go_wp2_with fail
        go_ret2
        refine ⟨.slice none 0 0, by rw [HE.out]; try rfl, ?_⟩
        rw [E1.out, E0.out, out_none _ _ _ _ _ _ _ (by decide) (by decide), act_put _ _ _ _ _ _ _ rfl]
        exact (H6.out.del1).noRows _ _
      · refine (of_more ⟨g, k * 7, none⟩ ⟨4, k, j, token, seq, data⟩ A n c _ rfl).mono ?_
        rintro e w4 ⟨rfl, hf⟩
        have h5 := (H4.out.grow hf).pick (L' := intsR .u8 (.slice A n c) data :: imgR g (upd m k ⟨token, seq, (m k).b, (m k).log⟩) :: blkR w.heap.size 42 #[.int .i64 4, .int .i64 k, .int .i64 j, .int .u64 token, .int .u32 seq, .slice A n c] :: L) 3 [2, 0, 1]
        have H5 := hide h5
        clear H4 hf h5 e0 e1 e2 e3 e4 e5
        go_wp2_with fail
        refine (do_more g _ k A n c data _ hk (by rw [upd_at]; have := (hm k).ll; show (m k).log.length ≤ 1000; omega) (by omega) H5.out).mono ?_
        rintro e w5 ⟨rfl, h⟩
        rw [upd_upd, upd_at] at h
        obtain ⟨e0, e1, e2, e3, e4, e5⟩ := (h.blk 1 rfl).six
        have H6 := hide h
        clear h H5
        go_wp2_with fail
        go_ret2
        refine ⟨.slice none 0 0, by rw [HE.out]; try rfl, ?_⟩
        rw [E1.out, E0.out, out_none _ _ _ _ _ _ _ (by decide) (by decide), act_more _ _ _ _ _ _ _ rfl]
        exact (H6.out.del1).noRows _ _
      · refine (of_less ⟨g, k * 7, none⟩ ⟨5, k, j, token, seq, data⟩ A n c _ rfl).mono ?_
        rintro e w4 ⟨rfl, hf⟩
        have h5 := (H4.out.grow hf).pick (L' := imgR g (upd m k ⟨token, seq, (m k).b, (m k).log⟩) :: blkR w.heap.size 42 #[.int .i64 5, .int .i64 k, .int .i64 j, .int .u64 token, .int .u32 seq, .slice A n c] :: L) 3 [0, 1]
        have H5 := hide h5
        have hj5 : j ≤ (m k).log.length := by have := hl5 rfl; omega
        clear H4 hf h5 e0 e1 e2 e3 e4 e5 hl5 hl4
        go_wp2_with fail
        refine (do_less g _ k j _ hk (by rw [upd_at]; exact hj5) H5.out).mono ?_
        rintro e w5 ⟨rfl, h⟩
        rw [upd_upd, upd_at] at h
        obtain ⟨e0, e1, e2, e3, e4, e5⟩ := (h.blk 1 rfl).six
        have H6 := hide h
        clear h H5
        go_wp2_with fail
        go_ret2
        refine ⟨.slice none 0 0, by rw [HE.out]; try rfl, ?_⟩
        rw [E1.out, E0.out, out_none _ _ _ _ _ _ _ (by decide) (by decide), act_less _ _ _ _ _ _ _ rfl]
        exact (H6.out.del1).noRows _ _
  · have E0 : doM m r = m := if_neg (fun h => he h.1)
    have E1 : doO m r = [] := if_neg he
    rw [E0, E1]
    clear E0 E1
    have hb : ((checkI m r).2 != 0) = true := by simp [he]
    generalize (checkI m r).2 = x at *
    generalize (checkI m r).1 = y at *
    have HB := hide hb
    clear he hb
    obtain ⟨op, region, index, token, seq, data⟩ := r
    go_enter Tryz.func26, Tryz.ntmps26
    go_wp2_with fail
    refine (HC.out _ _ (H.out.alloc 42 #[.int .i64 op, .int .i64 region, .int .i64 index, .int .u64 token, .int .u32 seq, .slice A n c]).up2).mono ?_
    rintro e w1 ⟨rfl, h⟩
    have H1 := hide h
    have hb := HB.out
    clear H h
    go_wp2_with fail
    go_ret2
    exact ⟨_, rfl, (H1.out.noRows 1 LogR).pick 4 [0, 1]⟩

end Go.Proofs.YtpaelngpmbeedaaGreatDoor
