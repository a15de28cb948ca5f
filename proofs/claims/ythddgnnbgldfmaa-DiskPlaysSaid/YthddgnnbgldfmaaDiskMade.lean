/- The law's own helper made: a disk of eight sectors behind calls. -/
import Derived.Test.YthddgnnbgldfmaaDiskAll
namespace Go.Proofs.Ythddgnnbgldfmaa
open Go.RowKit

/-- what is done to a disk -/
structure Op4 where
  d : Int
  i : Int
  b : List Int
  p : List Int
/-- the cell that lies so many cells behind an address -/
abbrev past4 (a : Addr) (j : Nat) : Addr := ⟨a.block, a.off + j, none⟩

/-- one of them, as it lies in memory -/
structure At4 (w : World) (Q : Nat → Prop) (A : Option Addr) (i : Nat) (o : Op4) (ad : Addr) (B C : Option Addr) (bc pc : Nat) : Prop where
  he : A = some ad
  hq : Q (ad.add (i * 4)).block
  hb : (ad.add (i * 4)).block < w.heap.size
  c0 : w.cell? (ad.add (i * 4)) = some (.int .i64 o.d)
  c1 : w.cell? (past4 (ad.add (i * 4)) 1) = some (.int .i64 o.i)
  c2 : w.cell? (past4 (ad.add (i * 4)) 2) = some (.slice B o.b.length bc)
  c3 : w.cell? (past4 (ad.add (i * 4)) 3) = some (.slice C o.p.length pc)
  sb : Sl w Q 1 B o.b.length (bv o.b)
  sp : Sl w Q 1 C o.p.length (o.p.map (Value.int .i64))
def Ops4 (w : World) (Q : Nat → Prop) (A : Option Addr) (n : Nat) (ops : Nat → Op4) : Prop := ∀ i, i < n → ∃ ad B C bc pc, At4 w Q A i (ops i) ad B C bc pc

theorem At4.fr {S : Nat → Prop} {w w' : World} {Q : Nat → Prop} {A : Option Addr} {i : Nat} {o : Op4} {ad : Addr} {B C : Option Addr} {bc pc : Nat} (h : At4 w Q A i o ad B C bc pc) (hf : Fr S w w') (hq : ∀ b, Q b → b < w.heap.size → ¬ S b) : At4 w' Q A i o ad B C bc pc := by
  have k : ∀ p : Addr, p.block = (ad.add (i * 4)).block → w'.cell? p = w.cell? p := fun p hp => hf.cell (p := p) (by rw [hp]; exact h.hb) (by rw [hp]; exact hq _ h.hq h.hb)
  exact ⟨h.he, h.hq, Nat.lt_of_lt_of_le h.hb hf.size, (k _ rfl).trans h.c0, (k (past4 (ad.add (i * 4)) 1) rfl).trans h.c1, (k (past4 (ad.add (i * 4)) 2) rfl).trans h.c2, (k (past4 (ad.add (i * 4)) 3) rfl).trans h.c3, h.sb.fr hf hq, h.sp.fr hf hq⟩
theorem Ops4.fr {S : Nat → Prop} {w w' : World} {Q : Nat → Prop} {A : Option Addr} {n : Nat} {ops : Nat → Op4} (h : Ops4 w Q A n ops) (hf : Fr S w w') (hq : ∀ b, Q b → b < w.heap.size → ¬ S b) : Ops4 w' Q A n ops := by
  intro i hi
  obtain ⟨ad, B, C, bc, pc, h⟩ := h i hi
  exact ⟨ad, B, C, bc, pc, h.fr hf hq⟩
theorem Ops4.non {w w' : World} {Q : Nat → Prop} {A : Option Addr} {n : Nat} {ops : Nat → Op4} (h : Ops4 w Q A n ops) (hf : Fr Non w w') : Ops4 w' Q A n ops := h.fr hf (fun _ _ _ x => x)

def DS.step4 (D : DS) (o : Op4) : DS := if o.d = 1 then D.write o.i o.b else if o.d = 2 then D.sync else if o.d = 3 then D.crash o.p else D
def DS.run4 (D : DS) (ops : Nat → Op4) : Nat → DS
  | 0 => D
  | k + 1 => (DS.run4 D ops k).step4 (ops k)
theorem DS.ok.step4 {D : DS} (h : D.ok) (o : Op4) : (D.step4 o).ok := by
  unfold DS.step4
  split; · exact h.write _ _
  split; · exact h.sync
  split; · exact h.crash _
  exact h
theorem DS.step4_n (D : DS) (o : Op4) : (D.step4 o).n = D.n := by
  unfold DS.step4
  split
  · unfold DS.write; split; · rfl
    split; · rfl
    split <;> rfl
  split; · unfold DS.sync; split <;> rfl
  split <;> rfl
theorem DS.step4_pend (D : DS) (o : Op4) : (D.step4 o).pend.length ≤ D.pend.length + 1 := by
  unfold DS.step4
  split
  · unfold DS.write; split; · omega
    split; · omega
    split
    · simp [DS.put, DS.after]
    · simp [DS.after]
  split
  · unfold DS.sync; split
    · simp
    · simp [DS.after]
  split
  · simp [DS.crash]
  · omega
theorem DS.ok.run4 {D : DS} (h : D.ok) (ops : Nat → Op4) : ∀ k, (D.run4 ops k).ok
  | 0 => h
  | k + 1 => (DS.ok.run4 h ops k).step4 _
theorem DS.run4_n (D : DS) (ops : Nat → Op4) : ∀ k, (D.run4 ops k).n = D.n
  | 0 => rfl
  | k + 1 => (DS.step4_n _ _).trans (DS.run4_n D ops k)
theorem DS.run4_pend (D : DS) (ops : Nat → Op4) : ∀ k, (D.run4 ops k).pend.length ≤ D.pend.length + k
  | 0 => Nat.le_refl _
  | k + 1 => Nat.le_trans (DS.step4_pend _ _) (by have := DS.run4_pend D ops k; omega)
def made4 (ops : Nat → Op4) (n : Nat) : DS := (DS.new 8).run4 ops (min n 40)
theorem made4_ok (ops : Nat → Op4) (n : Nat) : (made4 ops n).ok := (DS.new_ok (by decide) (by decide)).run4 _ _
theorem made4_n (ops : Nat → Op4) (n : Nat) : (made4 ops n).n = 8 := DS.run4_n _ _ _
theorem made4_pend (ops : Nat → Op4) (n : Nat) : (made4 ops n).pend.length ≤ 40 := by
  have := DS.run4_pend (DS.new 8) ops (min n 40)
  have h : (DS.new 8).pend.length = 0 := rfl
  unfold made4
  omega

set_option maxRecDepth 100000 in
set_option maxHeartbeats 2000000 in
theorem made_has (A : Option Addr) (n c : Nat) (ops : Nat → Op4) (w : World) (hn : n ≤ 9223372036854775807) (ho : Ops4 w (Old w) A n ops) :
    Calls Try.prog 24 #[.slice A n c] w fun e w' => ∃ g, e = .returned (.pointer (some ⟨g, 0, none⟩)) ∧ w.heap.size ≤ g ∧ Has (Old w) w' g (made4 ops n) ∧ Fr Non w w' := by
  have N := hide (new_has 8 w (by omega) (by omega))
  have HO := hide ho
  clear ho
  go_enter Try.func24, Try.ntmps24
  go_wp2_with fail
  refine N.out.mono ?_
  rintro e w1 ⟨g, rfl, hg, hd, hF⟩
  clear N
  go_wp2_with fail
  go_loopg [5] (min n 40) (fun gh i wr => ∃ k : Nat, gh = min n 40 - k ∧ k ≤ n ∧ k ≤ 40 ∧ i = .int .i64 k ∧ Has (Old w) wr g ((DS.new 8).run4 ops k) ∧ Fr Non w wr)
  case atStart => exact ⟨0, rfl, Nat.zero_le _, by omega, rfl, hd, hF⟩
  case round =>
    clear hd hF
    obtain ⟨k, hgk, hkn, hk40, rfl, hd, hF⟩ := hrel
    have HG := hide hgk
    have HF := hide hF
    clear hgk
    by_cases hk : k < n
    · by_cases hk4 : k < 40
      · obtain ⟨ad, B, C, bc, pc, h4⟩ := HO.out.non hF k hk
        have hok := (DS.new_ok (n := 8) (by decide) (by decide)).run4 ops k
        have hpe := DS.run4_pend (DS.new 8) ops k
        have hpe : ((DS.new 8).run4 ops k).pend.length < 1000000 := by have h : (DS.new 8).pend.length = 0 := rfl; omega
        have HS := hide (show (DS.new 8).run4 ops (k + 1) = ((DS.new 8).run4 ops k).step4 (ops k) from rfl)
        generalize (DS.new 8).run4 ops k = D at *
        obtain ⟨rfl, hq, hb, c0, c1, c2, c3, sb, sp⟩ := h4
        generalize ops k = o at *
        obtain ⟨od, oi, ob, op⟩ := o
        simp only at c0 c1 c2 c3 sb sp
        by_cases h1 : od = 1
        · subst h1
          have h11 : DS.step4 D ⟨1, oi, ob, op⟩ = D.write oi ob := rfl
          rw [h11] at HS
          have HX := hide (And.intro sb (And.intro hok (And.intro hpe hd)))
          clear sb sp hd hok hpe hb hF h11
          go_wp2_with fail
          refine region_tail 11 (by kernel_rfl) (by kernel_rfl) (fun W hW => ?_)
          have hFW : Fr Non wr W := by rw [hW]; exact (Fr.refl _ _).drew
          have k0 : W.cell? (ad.add (k * 4)) = some (.int .i64 1) := by rw [hW]; exact c0
          have k1 : W.cell? (past4 (ad.add (k * 4)) 1) = some (.int .i64 oi) := by rw [hW]; exact c1
          have k2 : W.cell? (past4 (ad.add (k * 4)) 2) = some (.slice B ob.length bc) := by rw [hW]; exact c2
          clear hW c0 c1 c2 c3
          simp only [List.take_succ_cons, List.take_zero, List.drop_succ_cons, List.drop_zero]
          repeat still_step
          try refine wpStill_nil ?_
          obtain ⟨sb, hok, hpe, hd⟩ := HX.out
          have WH := hide (write_has (O := Old w) oi B ob.length bc ob hok rfl hpe (sb.non hFW) (hd.non hFW))
          clear sb hok hpe hd
          go_wp2_with fail
          refine WH.out.mono ?_
          rintro e w2 ⟨rfl, hf2, hd2⟩
          have HF2 := hf2.out_old (w0 := w) (fun b h => h) (HF.out.trans hFW)
          clear hf2 WH
          go_wp2_with fail
          go_roundg (min n 40 - (k + 1))
          case measure => have := HG.out; omega
          case rel => exact ⟨k + 1, rfl, by omega, by omega, by first | rfl | (congr 1), HS.out ▸ hd2, HF2⟩
        · by_cases h2 : od = 2
          · subst h2
            have h11 : DS.step4 D ⟨2, oi, ob, op⟩ = D.sync := rfl
            rw [h11] at HS
            have HX := hide (And.intro sb (And.intro hok (And.intro hpe hd)))
            clear sb sp hd hok hpe hb hF h11
            go_wp2_with fail
            obtain ⟨sb, hok, hpe, hd⟩ := HX.out
            refine (sync_has (O := Old w) hok hpe hd).mono ?_
            rintro e w2 ⟨rfl, hf2, hd2⟩
            have HF2 := hf2.out_old (w0 := w) (fun b h => h) HF.out
            clear hf2 c0 c1 c2 c3 sb hok hpe hd
            go_wp2_with fail
            go_roundg (min n 40 - (k + 1))
            case measure => have := HG.out; omega
            case rel => exact ⟨k + 1, rfl, by omega, by omega, by first | rfl | (congr 1), HS.out ▸ hd2, HF2⟩
          · by_cases h3 : od = 3
            · subst h3
              have h11 : DS.step4 D ⟨3, oi, ob, op⟩ = D.crash op := rfl
              rw [h11] at HS
              have HX := hide (And.intro sp (And.intro hok (And.intro hpe hd)))
              clear sb sp hd hok hpe hb hF h11
              go_wp2_with fail
              obtain ⟨sp, hok, hpe, hd⟩ := HX.out
              refine (crash_has (O := Old w) C op.length pc op hok rfl hpe sp hd).mono ?_
              rintro e w2 ⟨rfl, hf2, hd2⟩
              have HF2 := hf2.out_old (w0 := w) (fun b h => h) HF.out
              clear hf2 c0 c1 c2 c3 sp hok hpe hd
              go_wp2_with fail
              go_roundg (min n 40 - (k + 1))
              case measure => have := HG.out; omega
              case rel => exact ⟨k + 1, rfl, by omega, by omega, by first | rfl | (congr 1), HS.out ▸ hd2, HF2⟩
            · have h11 : DS.step4 D ⟨od, oi, ob, op⟩ = D := by unfold DS.step4; rw [if_neg h1, if_neg h2, if_neg h3]
              rw [h11] at HS
              have HX := hide hd
              clear sb sp hd hok hpe hb hF h11
              go_wp2_with fail
              have HF2 := HF.out
              have hd2 := HX.out
              go_roundg (min n 40 - (k + 1))
              case measure => have := HG.out; omega
              case rel => exact ⟨k + 1, rfl, by omega, by omega, by first | rfl | (congr 1), HS.out ▸ hd2, HF2⟩
      · obtain rfl : k = 40 := by omega
        have HX := hide hd
        clear hd hF
        go_wp2_with fail
        go_ret
        refine ⟨g, rfl, hg, ?_, HF.out⟩
        have := HX.out
        rwa [show made4 ops n = (DS.new 8).run4 ops 40 by unfold made4; rw [show min n 40 = 40 by omega]]
    · obtain rfl : k = n := by omega
      have HX := hide hd
      clear hd hF
      go_wp2_with fail
      go_ret
      refine ⟨g, rfl, hg, ?_, HF.out⟩
      have := HX.out
      rwa [show made4 ops k = (DS.new 8).run4 ops k by unfold made4; rw [show min k 40 = k by omega]]

end Go.Proofs.Ythddgnnbgldfmaa
