/- The law's own helpers: read, awake, made, all. -/
import Derived.Test.YthddgnnbgldfmaaDiskH
import Derived.Test.YthddgnnbgldfmaaEqByte
namespace Go.Proofs.Ythddgnnbgldfmaa
open Go.RowKit

theorem Sl.take {w : World} {Q : Nat → Prop} {A : Option Addr} {n k : Nat} {xs : List Value} (h : Sl w Q 1 A n xs) (hk : k ≤ n) : Sl w Q 1 A k (xs.take k) := by
  have h1 := h.1
  refine ⟨by rw [List.length_take]; omega, fun hp => ?_⟩
  obtain ⟨ad, e, hq, hb, hc⟩ := h.2 (by omega)
  refine ⟨ad, e, hq, hb, fun j u hu => hc j u ?_⟩
  rw [List.getElem?_take] at hu
  split at hu
  · exact hu
  · cases hu

set_option maxHeartbeats 400000 in
theorem read3_any (g : Nat) (i : Int) (D : DS) (F : Nat → Prop) (w : World) (ho : D.ok) (hb : DiskAt w g D F) :
    Calls Try.prog 45 #[.pointer (some ⟨g, 0, none⟩), .int .i64 i] w fun e w' => ∃ v, e = .returned v ∧ Nums w' (fun b => w.heap.size ≤ b) .u8 v ((D.read i).take 3) ∧ Fr Non w w' := by
  have H := hide (read_any g i D F w ho hb)
  clear hb ho
  obtain ⟨xs, hx⟩ : ∃ xs, xs = D.read i := ⟨_, rfl⟩
  rw [← hx] at H ⊢
  clear hx
  go_enter Try.func45, Try.ntmps45
  go_wp2_with fail
  refine H.out.mono ?_
  rintro e w1 ⟨A, c, rfl, hlc, hl, hs, hF⟩
  clear H
  by_cases h3 : xs.length ≤ 3
  · have HS := hide hs
    have HF := hide hF
    have hlc' : (xs.length : Int) ≤ (c : Int) := by omega
    clear hs hF
    go_wp2_with fail
    go_ret
    refine ⟨.slice A xs.length c, rfl, ⟨A, c, by rw [List.take_of_length_le h3], by rw [List.take_of_length_le h3]; omega, ?_⟩, HF.out⟩
    rw [List.take_of_length_le h3]
    exact HS.out
  · have HS := hide hs
    have HF := hide hF
    have hlc' : (3 : Int) ≤ (c : Int) := by omega
    clear hs hF
    go_wp2_with fail
    go_ret
    have hl3 : (xs.take 3).length = 3 := by rw [List.length_take]; omega
    refine ⟨.slice A 3 c, rfl, ⟨A, c, by rw [hl3], by rw [hl3]; omega, ?_⟩, HF.out⟩
    rw [hl3, List.map_take]
    exact HS.out.take (by omega)

theorem lit_sl (w : World) (b : Nat) (xs : List Int) (t : TypeId) (h : Blk w b t (bv xs).toArray) : Sl w (· = b) 1 (some ⟨b, 0, none⟩) xs.length (bv xs) := by
  refine ⟨by simp, fun _ => ⟨_, rfl, rfl, h.lt, fun j u hu => ?_⟩⟩
  rw [show (⟨b, 0, none⟩ : Addr).add j = ⟨b, j, none⟩ by simp [Addr.add]; exact Eq.symm, h.cell]
  simpa using hu

def aw0 : DS := DS.new 2
def aw1 : DS := aw0.write 0 [1, 2, 3]
def aw2 : DS := aw1.crash []
def aw3 : DS := aw2.write 0 [1, 2, 3]
def aw4 : DS := aw3.sync
def aw5 : DS := aw4.write 0 [4, 5, 6]
def aw6 : DS := aw5.crash [2]
theorem aw0_ok : aw0.ok := DS.new_ok (by decide) (by decide)
theorem aw1_ok : aw1.ok := aw0_ok.write _ _
theorem aw2_ok : aw2.ok := aw1_ok.crash _
theorem aw3_ok : aw3.ok := aw2_ok.write _ _
theorem aw4_ok : aw4.ok := aw3_ok.sync
theorem aw5_ok : aw5.ok := aw4_ok.write _ _
theorem aw6_ok : aw6.ok := aw5_ok.crash _
theorem awE : aw0.writeE 0 [1, 2, 3] = 0 := by decide
theorem awG : aw6.writeE 2 [1] = 40 := by decide
theorem awP0 : aw0.pend.length = 0 := by decide
theorem awP1 : aw1.pend.length = 1 := by decide
theorem awP2 : aw2.pend.length = 0 := by decide
theorem awP3 : aw3.pend.length = 1 := by decide
theorem awP4 : aw4.pend.length = 0 := by decide
theorem awP5 : aw5.pend.length = 1 := by decide
theorem awP6 : aw6.pend.length = 0 := by decide
theorem awA : (aw1.read 0).take 3 = [1, 2, 3] := by decide
theorem awB : (aw2.read 0).take 3 = [0, 0, 0] := by decide
theorem awC : (aw6.read 0).take 3 = [4, 5, 3] := by decide

theorem read3_has {O : Nat → Prop} {g : Nat} {D : DS} {w : World} (i : Int) (ho : D.ok) (hb : Has O w g D) :
    Calls Try.prog 45 #[.pointer (some ⟨g, 0, none⟩), .int .i64 i] w fun e w' => ∃ v, e = .returned v ∧ Nums w' (fun b => w.heap.size ≤ b) .u8 v ((D.read i).take 3) ∧ Fr Non w w' := by
  obtain ⟨F, h1, h2, h3⟩ := hb
  exact read3_any g i D F w ho h1

/-- a call with a slice that was laid just before -/
theorem write_lit {O : Nat → Prop} {g : Nat} {D : DS} {w : World} (i : Int) (bs : List Int) (n c : Nat) (cs : Array Value) (hcs : cs = (bv bs).toArray) (hn : n = bs.length) (ho : D.ok) (hp : D.pend.length < 1000000) (hb : Has O w g D) :
    Calls Try.prog 27 #[.pointer (some ⟨g, 0, none⟩), .int .i64 i, .slice (some ⟨w.heap.size, 0, none⟩) n c] (w.alloc (.cells cs 5)) fun e w' => e = .returned (.int .i64 (D.writeE i bs)) ∧ Fr (Out O) w w' ∧ Has O w' g (D.write i bs) := by
  subst hcs
  have h1 := hb.more ((Fr.refl Non w).alloc (.cells (bv bs).toArray 5))
  refine (write_has i (some ⟨w.heap.size, 0, none⟩) n c bs ho hn hp ?_ h1).mono ?_
  · rw [hn]
    refine (lit_sl _ w.heap.size bs 5 (Blk.new _ _ _)).mono ?_
    rintro b rfl _
    exact .inr ⟨Nat.le_refl _, by simp⟩
  · rintro e w' ⟨he, hf, hd⟩
    exact ⟨he, ((Fr.refl _ _).alloc _).step hf (fun b hb _ ho => hb (.inl ho)), hd.less (fun b hb => .inl hb)⟩
theorem crash_lit {O : Nat → Prop} {g : Nat} {D : DS} {w : World} (picks : List Int) (n c : Nat) (cs : Array Value) (hcs : cs = (picks.map (Value.int .i64)).toArray) (hn : n = picks.length) (ho : D.ok) (hp : D.pend.length < 1000000) (hb : Has O w g D) :
    Calls Try.prog 28 #[.pointer (some ⟨g, 0, none⟩), .slice (some ⟨w.heap.size, 0, none⟩) n c] (w.alloc (.cells cs 3)) fun e w' => e = .returned (.tuple #[]) ∧ Fr (Out O) w w' ∧ Has O w' g (D.crash picks) := by
  subst hcs
  have h1 := hb.more ((Fr.refl Non w).alloc (.cells (picks.map (Value.int .i64)).toArray 3))
  refine (crash_has (some ⟨w.heap.size, 0, none⟩) n c picks ho hn hp ?_ h1).mono ?_
  · refine ⟨by simp [hn], fun _ => ⟨_, rfl, .inr ⟨Nat.le_refl _, by simp⟩, by simp, fun j u hu => ?_⟩⟩
    rw [show (⟨w.heap.size, 0, none⟩ : Addr).add j = ⟨w.heap.size, j, none⟩ by simp [Addr.add]; exact Eq.symm, (Blk.new _ _ _).cell]
    simpa using hu
  · rintro e w' ⟨he, hf, hd⟩
    exact ⟨he, ((Fr.refl _ _).alloc _).step hf (fun b hb _ ho => hb (.inl ho)), hd.less (fun b hb => .inl hb)⟩

theorem same_lit {w : World} {Q : Nat → Prop} {v : Value} (xs : List Int) (n c : Nat) (cs : Array Value) (hcs : cs = (bv xs).toArray) (hn : n = xs.length) (hl : xs.length ≤ 1000) (h : Nums w Q .u8 v xs) :
    Calls Try.prog 30 #[v, .slice (some ⟨w.heap.size, 0, none⟩) n c] (w.alloc (.cells cs 5)) fun e w' => e = .returned (.bool true) ∧ Fr Non w w' := by
  subst hcs
  have hf : Fr Non w (w.alloc (.cells (bv xs).toArray 5)) := (Fr.refl _ _).alloc _
  refine (same_any v _ xs xs _ Q (· = w.heap.size) (h.non hf) ⟨some ⟨w.heap.size, 0, none⟩, c, by rw [hn], by omega, lit_sl _ _ _ 5 (Blk.new _ _ _)⟩).mono ?_
  rintro e w' ⟨he, hf'⟩
  exact ⟨by rw [he]; simp, hf.trans hf'⟩

set_option maxRecDepth 100000 in
set_option maxHeartbeats 2000000 in
theorem awake_any (w : World) : Calls Try.prog 23 #[] w fun e w' => e = .returned (.bool true) ∧ Fr Non w w' := by
  have N := hide (new_has 2 w (by omega) (by omega))
  rw [show DS.new (Int.toNat 2) = aw0 from rfl] at N
  go_enter Try.func23, Try.ntmps23
  go_wp2_with fail
  refine N.out.mono ?_
  rintro e w1 ⟨g, rfl, hg, hd, hF⟩
  clear N
  go_wp2_with fail
  refine (write_lit 0 [1, 2, 3] 3 3 _ rfl rfl aw0_ok (by rw [awP0]; omega) hd).mono ?_
  rintro e w2 ⟨rfl, hf2, hd2⟩
  rw [awE]
  have hF2 := hf2.out_old (w0 := w) (fun b h => h) hF
  clear hf2 hd hF
  go_wp2_with fail
  refine (read3_has 0 aw1_ok hd2).mono ?_
  rintro e w3 ⟨va, rfl, ha, hf3⟩
  rw [awA] at ha
  have hd3 := hd2.more hf3
  have hF3 := hF2.trans hf3
  have ha3 : Nums w3 (Plus (Old w) w2 w3) .u8 va [1, 2, 3] := by
    obtain ⟨A, c, e, hl, hs⟩ := ha
    exact ⟨A, c, e, hl, hs.mono (fun b h1 h2 => .inr ⟨h1, h2⟩)⟩
  have ho3 : ∀ b, b < w.heap.size → Plus (Old w) w2 w3 b := fun b h => .inl h
  generalize Plus (Old w) w2 w3 = O3 at *
  clear hd2 hF2 ha hf3
  go_wp2_with fail
  refine (crash_has none 0 0 [] aw1_ok rfl (by rw [awP1]; omega) (Sl.nil_ _ _ _ _) hd3).mono ?_
  rintro e w4 ⟨rfl, hf4, hd4⟩
  have hF4 := hf4.out_old ho3 hF3
  have ha4 := ha3.out hf4 (fun b h _ => h)
  clear hf4 hd3 hF3 ha3
  go_wp2_with fail
  refine (read3_has 0 aw2_ok hd4).mono ?_
  rintro e w5 ⟨vb, rfl, hb, hf5⟩
  rw [awB] at hb
  have hd5 := hd4.more hf5
  have hF5 := hF4.trans hf5
  have ha5 : Nums w5 (Plus O3 w4 w5) .u8 va [1, 2, 3] := by
    obtain ⟨A, c, e, hl, hs⟩ := ha4.non hf5
    exact ⟨A, c, e, hl, hs.mono (fun b h1 h2 => .inl h1)⟩
  have hb5 : Nums w5 (Plus O3 w4 w5) .u8 vb [0, 0, 0] := by
    obtain ⟨A, c, e, hl, hs⟩ := hb
    exact ⟨A, c, e, hl, hs.mono (fun b h1 h2 => .inr ⟨h1, h2⟩)⟩
  have ho5 : ∀ b, b < w.heap.size → Plus O3 w4 w5 b := fun b h => .inl (ho3 b h)
  generalize Plus O3 w4 w5 = O5 at *
  clear hd4 hF4 ha4 hb hf5 ho3
  go_wp2_with fail
  refine (write_lit 0 [1, 2, 3] 3 3 _ rfl rfl aw2_ok (by rw [awP2]; omega) hd5).mono ?_
  rintro e w6 ⟨rfl, hf6, hd6⟩
  have hF6 := hf6.out_old ho5 hF5
  have ha6 := ha5.out hf6 (fun b h _ => h)
  have hb6 := hb5.out hf6 (fun b h _ => h)
  clear hf6 hd5 hF5 ha5 hb5
  go_wp2_with fail
  refine (sync_has aw3_ok (by rw [awP3]; omega) hd6).mono ?_
  rintro e w7 ⟨rfl, hf7, hd7⟩
  have hF7 := hf7.out_old ho5 hF6
  have ha7 := ha6.out hf7 (fun b h _ => h)
  have hb7 := hb6.out hf7 (fun b h _ => h)
  clear hf7 hd6 hF6 ha6 hb6
  go_wp2_with fail
  refine (write_lit 0 [4, 5, 6] 3 3 _ rfl rfl aw4_ok (by rw [awP4]; omega) hd7).mono ?_
  rintro e w8 ⟨rfl, hf8, hd8⟩
  have hF8 := hf8.out_old ho5 hF7
  have ha8 := ha7.out hf8 (fun b h _ => h)
  have hb8 := hb7.out hf8 (fun b h _ => h)
  clear hf8 hd7 hF7 ha7 hb7
  go_wp2_with fail
  refine (crash_lit [2] 1 1 _ rfl rfl aw5_ok (by rw [awP5]; omega) hd8).mono ?_
  rintro e w9 ⟨rfl, hf9, hd9⟩
  have hF9 := hf9.out_old ho5 hF8
  have ha9 := ha8.out hf9 (fun b h _ => h)
  have hb9 := hb8.out hf9 (fun b h _ => h)
  clear hf9 hd8 hF8 ha8 hb8
  go_wp2_with fail
  refine (read3_has 0 aw6_ok hd9).mono ?_
  rintro e w10 ⟨vc, rfl, hc, hf10⟩
  rw [awC] at hc
  have hd10 := hd9.more hf10
  have hF10 := hF9.trans hf10
  have ha10 := ha9.non hf10
  have hb10 := hb9.non hf10
  have ho10 : ∀ b, b < w.heap.size → Plus O5 w9 w10 b := fun b h => .inl (ho5 b h)
  have hx10 : ∀ b, O5 b → Plus O5 w9 w10 b := fun b h => .inl h
  have hy10 : ∀ b, w9.heap.size ≤ b → b < w10.heap.size → Plus O5 w9 w10 b := fun b h h2 => .inr ⟨h, h2⟩
  generalize Plus O5 w9 w10 = O10 at *
  clear hd9 hF9 ha9 hb9 hf10 ho5
  go_wp2_with fail
  refine (write_lit 2 [1] 1 1 _ rfl rfl aw6_ok (by rw [awP6]; omega) hd10).mono ?_
  rintro e w11 ⟨rfl, hf11, hd11⟩
  rw [awG]
  have hF11 := hf11.out_old ho10 hF10
  have ha11 := ha10.out hf11 (fun b h _ => hx10 b h)
  have hb11 := hb10.out hf11 (fun b h _ => hx10 b h)
  have hc11 := hc.out hf11 (fun b h h2 => hy10 b h h2)
  clear hf11 hd10 hd11 hF10 ha10 hb10 hc hx10 hy10 ho10
  go_wp2_with fail
  refine (same_lit [1, 2, 3] 3 3 _ rfl rfl (by decide) ha11).mono ?_
  rintro e w12 ⟨rfl, hf12⟩
  have hF12 := hF11.trans hf12
  have hb12 := hb11.non hf12
  have hc12 := hc11.non hf12
  clear hf12 hF11 ha11 hb11 hc11
  go_wp2_with fail
  refine (same_lit [0, 0, 0] 3 3 _ rfl rfl (by decide) hb12).mono ?_
  rintro e w13 ⟨rfl, hf13⟩
  have hF13 := hF12.trans hf13
  have hc13 := hc12.non hf13
  clear hf13 hF12 hb12 hc12
  go_wp2_with fail
  refine (same_lit [4, 5, 3] 3 3 _ rfl rfl (by decide) hc13).mono ?_
  rintro e w14 ⟨rfl, hf14⟩
  have hF14 := hF13.trans hf14
  clear hf14 hF13 hc13
  go_wp2_with fail
  go_ret
  exact ⟨rfl, hF14⟩

end Go.Proofs.Ythddgnnbgldfmaa
