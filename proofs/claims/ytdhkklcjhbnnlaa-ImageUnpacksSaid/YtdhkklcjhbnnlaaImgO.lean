/- Image: of, and do. -/
import Derived.Test.YtdhkklcjhbnnlaaImgR
import Derived.Test.YtdhkklcjhbnnlaaMixG
import Derived.Test.YtdhkklcjhbnnlaaCloneSt
import Derived.Test.YtdhkklcjhbnnlaaStFull
import Derived.Handy
namespace Go.Proofs.Ytdhkklcjhbnnlaa
open Go.RowKit

theorem of_put (p : Addr) (r : RQ) (A : Option Addr) (n c : Nat) (w : World) (ho : r.op = 2) : Calls Try.prog 69 #[.pointer (some p), reqV r (.slice A n c)] w fun e w' => e = .returned (.iface 126 (.agg #[.pointer (some p), .int .i64 r.index, .slice A n c])) ∧ Fr Non w w' := by
  obtain ⟨op, region, index, token, rs, data⟩ := r
  obtain rfl : op = 2 := ho
  go_enter Try.func69, Try.ntmps69
  go_wp2
  go_ret
  exact ⟨rfl, (Fr.refl _ _).alloc _⟩
theorem of_more (p : Addr) (r : RQ) (A : Option Addr) (n c : Nat) (w : World) (ho : r.op = 4) : Calls Try.prog 69 #[.pointer (some p), reqV r (.slice A n c)] w fun e w' => e = .returned (.iface 128 (.agg #[.pointer (some p), .slice A n c])) ∧ Fr Non w w' := by
  obtain ⟨op, region, index, token, rs, data⟩ := r
  obtain rfl : op = 4 := ho
  go_enter Try.func69, Try.ntmps69
  go_wp2
  go_ret
  exact ⟨rfl, (Fr.refl _ _).alloc _⟩
theorem of_less (p : Addr) (r : RQ) (A : Option Addr) (n c : Nat) (w : World) (ho : r.op = 5) : Calls Try.prog 69 #[.pointer (some p), reqV r (.slice A n c)] w fun e w' => e = .returned (.iface 131 (.agg #[.pointer (some p), .int .i64 r.index])) ∧ Fr Non w w' := by
  obtain ⟨op, region, index, token, rs, data⟩ := r
  obtain rfl : op = 5 := ho
  go_enter Try.func69, Try.ntmps69
  go_wp2
  go_ret
  exact ⟨rfl, (Fr.refl _ _).alloc _⟩

theorem put_rg (p : Value) (j : Int) (v : Value) (w : World) : Calls Try.prog 94 #[.agg #[p, .int .i64 j, v]] w fun e w' => e = .returned p ∧ Fr Non w w' := by
  go_enter Try.func94, Try.ntmps94
  go_wp2
  go_ret
  exact ⟨rfl, (Fr.refl _ _).alloc _⟩
theorem more_rg (p v : Value) (w : World) : Calls Try.prog 95 #[.agg #[p, v]] w fun e w' => e = .returned p ∧ Fr Non w w' := by
  go_enter Try.func95, Try.ntmps95
  go_wp2
  go_ret
  exact ⟨rfl, (Fr.refl _ _).alloc _⟩
theorem less_rg (p v : Value) (w : World) : Calls Try.prog 96 #[.agg #[p, v]] w fun e w' => e = .returned p ∧ Fr Non w w' := by
  go_enter Try.func96, Try.ntmps96
  go_wp2
  go_ret
  exact ⟨rfl, (Fr.refl _ _).alloc _⟩

theorem is_put (x : Value) (w : World) : (Instr.typeAssert (.iface 126 x) 117 126 true).run Try.prog w = .ok (.tuple #[x, .bool true]) w := by kernel_rfl
theorem is_more (x : Value) (w : World) : (Instr.typeAssert (.iface 128 x) 117 128 true).run Try.prog w = .ok (.tuple #[x, .bool true]) w := by kernel_rfl
theorem is_less (x : Value) (w : World) : (Instr.typeAssert (.iface 131 x) 117 131 true).run Try.prog w = .ok (.tuple #[x, .bool true]) w := by kernel_rfl
theorem no_put1 (x : Value) (w : World) : (Instr.typeAssert (.iface 128 x) 117 126 true).run Try.prog w = .ok (.tuple #[.agg #[.pointer none, .int .i64 0, .slice none 0 0], .bool false]) w := by kernel_rfl
theorem no_put2 (x : Value) (w : World) : (Instr.typeAssert (.iface 131 x) 117 126 true).run Try.prog w = .ok (.tuple #[.agg #[.pointer none, .int .i64 0, .slice none 0 0], .bool false]) w := by kernel_rfl
theorem no_more2 (x : Value) (w : World) : (Instr.typeAssert (.iface 131 x) 117 128 true).run Try.prog w = .ok (.tuple #[.agg #[.pointer none, .slice none 0 0], .bool false]) w := by kernel_rfl

set_option maxHeartbeats 1000000 in
set_option maxRecDepth 100000 in
theorem do_put {M0 : Imm} {L : List Res} (g : Nat) (m : Nat → Rg) (k j : Nat) (A : Option Addr) (n c : Nat) (b : List Int) (w : World) (hk : k < 4) (hj : j < 4) (hb : b.length ≤ 1000) (h : St M0 w (intsR .u8 (.slice A n c) b :: imgR g m :: L)) :
    Calls Try.prog 68 #[.iface 126 (.agg #[.pointer (some ⟨g, k * 7, none⟩), .int .i64 j, .slice A n c])] w fun e w' => e = .returned (.tuple #[]) ∧ St M0 w' (imgR g (upd m k { m k with b := upd (m k).b j b }) :: L) := by
  have H := hide h
  have hp := is_put
  clear h
  go_enter Try.func68, Try.ntmps68
  go_wp2_with fail
  refine (put_rg _ _ _ _).mono ?_
  rintro e w1 ⟨rfl, hf⟩
  have H1 := hide (H.out.grow hf)
  clear H hf
  go_wp2_with fail
  have hv := H1.out.alloc 126 #[.pointer (some ⟨g, k * 7, none⟩), .int .i64 j, .slice A n c]
  refine region_mix (fun W => ∃ m', St M0 W (blkR w1.heap.size 126 #[.pointer (some ⟨g, k * 7, none⟩), .int .i64 j, .slice A n c] :: intsR .u8 (.slice A n c) b :: imgR g m' :: L)) 10 [0, 1, 2, 3, 4, 6, 7] [5, 8, 9] (by kernel_rfl) (by kernel_rfl)
    (fun d => by cases d <;> exact fun _ _ _ _ h => h) (fun W hW => ?_)
  have hS := hide (show St M0 W (blkR w1.heap.size 126 #[.pointer (some ⟨g, k * 7, none⟩), .int .i64 j, .slice A n c] :: intsR .u8 (.slice A n c) b :: imgR g m :: L) by
    rw [hW]
    exact hv.drew)
  clear hv hW H1
  refine ⟨⟨_, hS.out⟩, ?_⟩
  iterate 7 (refine take_run rfl rfl (fun W hW => by (obtain ⟨m', hW⟩ := hW; have e1 := (hW.blk 0 rfl).cell 1; have e2 := (hW.blk 0 rfl).cell 2; clear hW; go_simp; try rfl)) ?_; (simp only [Act.put, List.setIfInBounds_toArray, List.set_cons_succ, List.set_cons_zero]))
  refine take_nil ?_
  obtain ⟨hn, _, _, hsl⟩ := (hS.out.get 1 rfl).sl
  refine seq_call (f := 63) (args := #[.slice A n c]) rfl rfl (by go_simp) ((clone_st A n c b _ hsl (by omega) hS.out).mono ?_)
  rintro e w2 ⟨v2, rfl, h⟩
  obtain ⟨A2, c2, rfl⟩ := h.slice
  refine ⟨_, rfl, fun _ => ⟨m, h.tail⟩, ?_⟩
  (simp only [Act.put, List.setIfInBounds_toArray, List.set_cons_succ, List.set_cons_zero])
  have h1 : St M0 w2 (imgR g m :: persR (fun w' => Ints w' .u8 (.slice A2 n c2) b) :: blkR w1.heap.size 126 #[.pointer (some ⟨g, k * 7, none⟩), .int .i64 j, .slice A n c] :: intsR .u8 (.slice A n c) b :: L) := h.ints.pick 4 [3, 0, 1, 2]
  obtain ⟨vs, h2⟩ := h1.img
  obtain ⟨⟨u, hc⟩, hf⟩ := img_there (h2.blk 0 rfl) hk (j := 2 + j) (by omega)
  have j0 : (0 : Int) ≤ (j : Int) := by omega
  have j4 : (j : Int) < 4 := by omega
  have h3 := h2.pick (L' := imgB g vs m :: regsR vs m :: persR (fun w' => Ints w' .u8 (.slice A2 n c2) b) :: blkR w1.heap.size 126 #[.pointer (some ⟨g, k * 7, none⟩), .int .i64 j, .slice A n c] :: intsR .u8 (.slice A n c) b :: L) 3 [0, 1, 2]
  have h4 := h3.setImg hk (j := 2 + j) (by omega) (x := { m k with b := upd (m k).b j b }) (p := { vs k with b := upd (vs k).b j (.slice A2 n c2) }) (u := .slice A2 n c2) (by rcases below4 hj with rfl | rfl | rfl | rfl <;> rfl)
    (fun w' ho hi => ⟨fun i hi4 => by
      by_cases he : i = j
      · subst he
        show Ints w' .u8 (upd (vs k).b i _ i) (upd (m k).b i b i)
        rw [upd_at, upd_at]
        exact hi
      · show Ints w' .u8 (upd (vs k).b j _ i) (upd (m k).b j b i)
        rw [upd_ne _ _ _ _ he, upd_ne _ _ _ _ he]
        exact ho.b i hi4, ho.log⟩)
  rw [← Nat.add_assoc] at hc hf h4
  have H2 := hide h.tail
  have H4 := hide h4
  clear h h1 h2 h3 h4 hS hsl hn
  refine seq_read rfl rfl (by go_simp; try rfl) (fun _ => ⟨m, H2.out⟩) ?_
  (simp only [Act.put, List.setIfInBounds_toArray, List.set_cons_succ, List.set_cons_zero])
  refine seq_store rfl rfl 24 _ _ (.pointer (some ⟨g, k * 7 + 2 + j, none⟩)) (.slice A2 n c2) rfl rfl rfl (by go_simp) (fun _ => ⟨_, H4.out.dn2⟩) ?_
  simp only [Act.put]
  refine seq_nil ?_
  go_wp2
  go_end0
  exact ⟨rfl, H4.out.pick 3 [0]⟩

theorem clip_any (A : Option Addr) (n c : Nat) (w : World) (hn : n ≤ c) (_hc : c ≤ 9223372036854775807) : Calls Try.prog 77 #[.slice A n c] w fun e w' => e = .returned (.slice A n n) ∧ w = w' := by
  go_enter Try.func77, Try.ntmps77
  go_wp2
  go_ret
  exact ⟨rfl, rfl⟩

theorem logs_elem : ElemOf Try.prog 60 24 (.slice none 0 0) 1 24 := ⟨Try.underlying60, by kernel_rfl, by kernel_rfl, by omega⟩
theorem build_log (w : World) (A : Option Addr) (n c : Nat) : (Instr.buildSlice 60 1 #[(0, .slice A n c)]).run Try.prog w = .ok (.slice (some ⟨w.heap.size, 0, none⟩) 1 1) (w.alloc (.cells #[.slice A n c] 24)) := by kernel_rfl

set_option maxHeartbeats 1000000 in
set_option maxRecDepth 100000 in
theorem do_more {M0 : Imm} {L : List Res} (g : Nat) (m : Nat → Rg) (k : Nat) (A : Option Addr) (n c : Nat) (b : List Int) (w : World) (hk : k < 4) (hm : (m k).log.length ≤ 1000) (hb : b.length ≤ 1000) (h : St M0 w (intsR .u8 (.slice A n c) b :: imgR g m :: L)) :
    Calls Try.prog 68 #[.iface 128 (.agg #[.pointer (some ⟨g, k * 7, none⟩), .slice A n c])] w fun e w' => e = .returned (.tuple #[]) ∧ St M0 w' (imgR g (upd m k { m k with log := (m k).log ++ [b] }) :: L) := by
  obtain ⟨vs, h⟩ := h.swap.img
  obtain ⟨hlog, hlq, hlc, hlm, hls⟩ : (∃ A6 n6 c6, (vs k).log = .slice A6 n6 c6 ∧ n6 = (m k).log.length ∧ n6 ≤ c6 ∧ c6 ≤ 9223372036854775807) ∧ True ∧ True ∧ True ∧ True := by
    obtain ⟨A6, c6, e6, h1, h2, _⟩ := ((h.get 1 rfl) k hk).log
    exact ⟨⟨A6, _, c6, e6, rfl, h1, h2⟩, trivial, trivial, trivial, trivial⟩
  obtain ⟨A6, n6, c6, e6, hn6, hc6, hm6⟩ := hlog
  have H := hide h
  have HN6 := hide hn6
  have hp := is_more
  have hp1 := no_put1
  have E6 := hide e6
  clear h hlq hlc hlm hls hn6 e6
  go_enter Try.func68, Try.ntmps68
  go_wp2_with fail
  refine (more_rg _ _ _).mono ?_
  rintro e w1 ⟨rfl, hf⟩
  have H1 := hide (H.out.grow hf)
  clear H hf
  go_wp2_with fail
  have hv := H1.out.alloc 128 #[.pointer (some ⟨g, k * 7, none⟩), .slice A n c]
  refine region_mix (fun W => St M0 W (blkR w1.heap.size 128 #[.pointer (some ⟨g, k * 7, none⟩), .slice A n c] :: imgB g vs m :: regsR vs m :: intsR .u8 (.slice A n c) b :: L)) 11 [0, 1, 2, 3, 4, 6, 7] [5, 8, 9, 10, 11, 12, 13] (by kernel_rfl) (by kernel_rfl)
    (fun d => by cases d <;> exact fun _ _ _ _ h => h) (fun W hW => ?_)
  have hS := hide (show St M0 W (blkR w1.heap.size 128 #[.pointer (some ⟨g, k * 7, none⟩), .slice A n c] :: imgB g vs m :: regsR vs m :: intsR .u8 (.slice A n c) b :: L) by
    rw [hW]
    exact hv.drew)
  clear hv hW H1
  refine ⟨hS.out, ?_⟩
  iterate 7 (refine take_run rfl rfl (fun W hW => by (have e1 := (hW.blk 0 rfl).cell 1; have x6 := img_cell (hW.blk 1 rfl) (k := k) (j := 6) hk (by omega) rfl; rw [E6.out] at x6; clear hW; go_simp; try rfl)) ?_; (simp only [Act.put, List.setIfInBounds_toArray, List.set_cons_succ, List.set_cons_zero]))
  refine take_nil ?_
  refine seq_call (f := 77) (args := #[.slice A6 n6 c6]) rfl rfl (by go_simp) ((clip_any A6 n6 c6 _ hc6 hm6).mono ?_)
  rintro e w2 ⟨rfl, rfl⟩
  refine ⟨_, rfl, fun _ => hS.out, ?_⟩
  (simp only [Act.put, List.setIfInBounds_toArray, List.set_cons_succ, List.set_cons_zero])
  obtain ⟨hn, _, _, hsl⟩ := (hS.out.get 3 rfl).sl
  refine seq_call (f := 63) (args := #[.slice A n c]) rfl rfl (by go_simp) ((clone_st A n c b _ hsl (by omega) hS.out).mono ?_)
  rintro e w2 ⟨v2, rfl, h⟩
  obtain ⟨A2, c2, rfl⟩ := h.slice
  refine ⟨_, rfl, fun _ => h.tail, ?_⟩
  (simp only [Act.put, List.setIfInBounds_toArray, List.set_cons_succ, List.set_cons_zero])
  have h1 := h.ints
  clear h hsl hS
  refine seq_buildSlice1 rfl rfl 60 1 0 _ (.slice A2 n c2) rfl rfl (build_log _ _ _ _) (fun _ => (h1.tail.junk _)) ?_
  (simp only [Act.put, List.setIfInBounds_toArray, List.set_cons_succ, List.set_cons_zero])
  have h3 := h1.junk (.cells #[.slice A2 n c2] 24)
  have hr6 := ((h3.get 3 rfl) k hk).log
  rw [E6.out] at hr6
  obtain ⟨hs6, hn6, _, _, hl6⟩ := hr6.sl (by omega)
  refine seq_full logs_elem h3 rfl rfl _ _ rfl rfl hs6 (some ⟨w2.heap.size, 0, none⟩) 1 1 rfl [.slice A2 n c2] (sl_new1 _ _ _) (by simp [Value.oneCell']) (by omega) (by omega) (by omega) (fun A4 c4 w4 h4 => ⟨fun _ => h4.tail.tail, ?_⟩)
  (simp only [Act.put, List.setIfInBounds_toArray, List.set_cons_succ, List.set_cons_zero])
  have h5 := (h4.pick (L' := persR (fun w' => Ints w' .u8 (.slice A2 n c2) b) :: rowR 24 1 (.slice A4 (n6 + 1) c4) (n6 + 1) (flat (vs k).cs n6 ++ [.slice A2 n c2]) :: imgB g vs m :: regsR vs m :: L) 6 [1, 0, 3, 4]).pers1 (R' := fun w' => LogR w' [.slice A2 n c2] b) (fun w' hi => ⟨_, rfl, hi⟩)
  have h6 := (h5.copy 3 rfl).pers1 (R' := fun w' => RowsC w' 1 LogR (vs k).log (vs k).cs (m k).log) (fun w' hi => (hi k hk).log)
  have h7 := (h6.up2.snocC hn6 rfl hl6).dn2
  obtain ⟨⟨u, hc⟩, hf⟩ := img_there (h7.blk 0 rfl) hk (j := 6) (by omega)
  have h8 := h7.setImg hk (j := 6) (by omega) (x := { m k with log := (m k).log ++ [b] }) (p := { vs k with log := .slice A4 (n6 + 1) c4, cs := fun i => ((flat (vs k).cs n6 ++ [Value.slice A2 n c2]).drop (i * 1)).take 1 }) (u := .slice A4 (n6 + 1) c4) rfl (fun w' ho hi => ⟨ho.b, hi⟩)
  have H8 := hide h8
  clear h1 h3 hr6 hs6 hn6 hl6 h4 h5 h6 h7 h8
  (refine seq_read rfl rfl (by (go_simp; try rfl)) (fun h => absurd h (by decide)) ?_; simp only [Act.put, List.setIfInBounds_toArray, List.set_cons_succ, List.set_cons_zero])
  (refine seq_read rfl rfl (by (go_simp; try rfl)) (fun h => absurd h (by decide)) ?_; simp only [Act.put, List.setIfInBounds_toArray, List.set_cons_succ, List.set_cons_zero])
  refine seq_store rfl rfl 60 _ _ (.pointer (some ⟨g, k * 7 + 6, none⟩)) (.slice A4 (n6 + 1) c4) rfl rfl rfl (by go_simp; rfl) (fun h => absurd h (by decide)) ?_
  simp only [Act.put]
  refine seq_nil ?_
  go_wp2
  go_end0
  exact ⟨rfl, H8.out⟩


theorem RowsC.dropC {α : Type} {w : World} {size : Nat} {R : World → List Value → α → Prop} {A A' : Option Addr} {n c m : Nat} {css : Nat → List Value} {xs : List α} (h : RowsC w size R (.slice A n c) css xs) (hm : m ≤ n) (hA : m < n → A' = A.map (·.add (m * size))) :
    RowsC w size R (.slice A' (n - m) (c - m)) (fun i => css (i + m)) (xs.drop m) := by
  obtain ⟨A0, c0, e, h1, h2, h3⟩ := h
  injection e with e1 e2 e3
  subst e1; subst e2; subst e3
  refine ⟨A', c - m, by rw [List.length_drop], by rw [List.length_drop]; omega, by omega, fun i x hi => ?_⟩
  rw [List.getElem?_drop] at hi
  have hlt := (List.getElem?_eq_some_iff.1 hi).1
  obtain ⟨ad, hA0, hl, hc, hr⟩ := h3 (m + i) x hi
  rw [Nat.add_comm m i] at hl hc hr
  refine ⟨ad.add (m * size), by rw [hA (by omega), hA0]; rfl, hl, fun j u hu => ?_, hr⟩
  have e : m * size + (i * size + j) = (i + m) * size + j := by rw [Nat.add_mul]; omega
  rw [addr_add, addr_add, e, ← addr_add]
  exact hc j u hu

set_option maxHeartbeats 1000000 in
set_option maxRecDepth 100000 in
theorem do_less {M0 : Imm} {L : List Res} (g : Nat) (m : Nat → Rg) (k j : Nat) (w : World) (hk : k < 4) (hj : j ≤ (m k).log.length) (h : St M0 w (imgR g m :: L)) :
    Calls Try.prog 68 #[.iface 131 (.agg #[.pointer (some ⟨g, k * 7, none⟩), .int .i64 j])] w fun e w' => e = .returned (.tuple #[]) ∧ St M0 w' (imgR g (upd m k { m k with log := (m k).log.drop j }) :: L) := by
  obtain ⟨vs, h⟩ := h.img
  obtain ⟨A6, n6, c6, e6, hn6, hc6, hm6⟩ : ∃ A6 n6 c6, (vs k).log = .slice A6 n6 c6 ∧ n6 = (m k).log.length ∧ n6 ≤ c6 ∧ c6 ≤ 9223372036854775807 := by
    obtain ⟨A6, c6, e6, h1, h2, _⟩ := ((h.get 1 rfl) k hk).log
    exact ⟨A6, _, c6, e6, rfl, h1, h2⟩
  have j0 : (0 : Int) ≤ (j : Int) := by omega
  have j1 : (j : Int) ≤ (n6 : Int) := by omega
  have j2 : (n6 : Int) ≤ (c6 : Int) := by omega
  have H := hide h
  have HN6 := hide hn6
  have hp := is_less
  have hp1 := no_put2
  have hp2 := no_more2
  have E6 := hide e6
  clear h hn6 e6
  go_enter Try.func68, Try.ntmps68
  go_wp2_with fail
  refine (less_rg _ _ _).mono ?_
  rintro e w1 ⟨rfl, hf⟩
  have H1 := hide (H.out.grow hf)
  clear H hf
  go_wp2_with fail
  have hv := H1.out.alloc 131 #[.pointer (some ⟨g, k * 7, none⟩), .int .i64 j]
  refine region_mix (fun W => St M0 W (blkR w1.heap.size 131 #[.pointer (some ⟨g, k * 7, none⟩), .int .i64 j] :: imgB g vs m :: regsR vs m :: L)) 8 [0, 1, 2, 3, 4, 5, 6, 7] [8, 9, 10] (by kernel_rfl) (by kernel_rfl)
    (fun d => by cases d <;> exact fun _ _ _ _ h => h) (fun W hW => ?_)
  have hS := hide (show St M0 W (blkR w1.heap.size 131 #[.pointer (some ⟨g, k * 7, none⟩), .int .i64 j] :: imgB g vs m :: regsR vs m :: L) by
    rw [hW]
    exact hv.drew)
  clear hv hW H1
  refine ⟨hS.out, ?_⟩
  iterate 8 (refine take_run rfl rfl (fun W hW => by (have e1 := (hW.blk 0 rfl).cell 1; have x6 := img_cell (hW.blk 1 rfl) (k := k) (j := 6) hk (by omega) rfl; rw [E6.out] at x6; clear hW; go_simp; try rfl)) ?_; (simp only [Act.put, List.setIfInBounds_toArray, List.set_cons_succ, List.set_cons_zero]))
  refine take_nil ?_
  have hA : j < n6 → (if c6 = j then A6 else A6.map (fun x => x.add j)) = A6.map (·.add (j * 1)) := fun hlt => by rw [if_neg (by omega), Nat.mul_one]
  generalize (if c6 = j then A6 else A6.map (fun x => x.add j)) = A7 at hA ⊢
  have h7 := (hS.out.tail.copy 1 rfl).pers1 (R' := fun w' => RowsC w' 1 LogR (.slice A7 (n6 - j) (c6 - j)) (fun i => (vs k).cs (i + j)) ((m k).log.drop j)) (fun w' hi => by
    have hr := (hi k hk).log
    rw [E6.out] at hr
    exact hr.dropC (by have := HN6.out; omega) hA)
  obtain ⟨⟨u, hc⟩, hf⟩ := img_there (h7.blk 1 rfl) hk (j := 6) (by omega)
  have h8 := h7.dn2.setImg hk (j := 6) (by omega) (x := { m k with log := (m k).log.drop j }) (p := { vs k with log := .slice A7 (n6 - j) (c6 - j), cs := fun i => (vs k).cs (i + j) }) (u := .slice A7 (n6 - j) (c6 - j)) rfl (fun w' ho hi => ⟨ho.b, hi⟩)
  have H8 := hide h8
  clear hS h7 h8 hA
  (refine seq_read rfl rfl (by (go_simp; try rfl)) (fun h => absurd h (by decide)) ?_; simp only [Act.put, List.setIfInBounds_toArray, List.set_cons_succ, List.set_cons_zero])
  (refine seq_read rfl rfl (by (go_simp; try rfl)) (fun h => absurd h (by decide)) ?_; simp only [Act.put, List.setIfInBounds_toArray, List.set_cons_succ, List.set_cons_zero])
  refine seq_store rfl rfl 60 _ _ (.pointer (some ⟨g, k * 7 + 6, none⟩)) (.slice A7 (n6 - j) (c6 - j)) rfl rfl rfl (by go_simp; rfl) (fun h => absurd h (by decide)) ?_
  simp only [Act.put]
  refine seq_nil ?_
  go_wp2
  go_end0
  exact ⟨rfl, H8.out⟩

end Go.Proofs.Ytdhkklcjhbnnlaa
