/- Cache: one of what is done; what is kept of all. -/
import Derived.Test.YtbgknfdaaffeaaaCaAw
import Derived.Test.YtbgknfdaaffeaaaCaO
namespace Go.Proofs.Ytbgknfdaaffeaaa
open Go.RowKit

def opS (p : Addr) (x : OpC) (v : Value) (W : World) : Prop := W.cell? p = some (.int .i64 x.d) ∧ W.cell? ⟨p.block, p.off + 1, none⟩ = some (.int .i64 x.r) ∧ W.cell? ⟨p.block, p.off + 2, none⟩ = some (.int .i64 x.i) ∧ W.cell? ⟨p.block, p.off + 3, none⟩ = some (.int .i64 x.n) ∧ W.cell? ⟨p.block, p.off + 4, none⟩ = some v
theorem cells5 {w : World} {p : Addr} {a b c d e : Value} (h : ∀ j u, [a, b, c, d, e][j]? = some u → w.cell? (p.add j) = some u) : w.cell? p = some a ∧ w.cell? ⟨p.block, p.off + 1, none⟩ = some b ∧ w.cell? ⟨p.block, p.off + 2, none⟩ = some c ∧ w.cell? ⟨p.block, p.off + 3, none⟩ = some d ∧ w.cell? ⟨p.block, p.off + 4, none⟩ = some e :=
  ⟨by simpa [Addr.add] using h 0 a rfl, by simpa [Addr.add] using h 1 b rfl, by simpa [Addr.add] using h 2 c rfl, by simpa [Addr.add] using h 3 d rfl, by simpa [Addr.add] using h 4 e rfl⟩
def opP (p : Addr) (x : OpC) (v : Value) (W : World) : Prop := opS p x v W ∧ Ints W .u8 v x.b
theorem St.opE {M0 : Imm} {w : World} {L : List Res} {A : Option Addr} {n c : Nat} {l : List OpC} (h : St M0 w L) (i : Nat) (hi : L[i]? = some (rowsR 5 OpR (.slice A n c) l)) {k : Nat} {x : OpC} (hk : l[k]? = some x) :
    ∃ ad B d, A = some ad ∧ St M0 w (persR (opP (ad.add (k * 5)) x (.slice B x.b.length d)) :: L) := by
  obtain ⟨ad, cs, rfl, _, _, ⟨v, rfl, hv⟩, h1⟩ := h.elem i hi hk
  obtain ⟨B, d, rfl, _, _, _⟩ := id hv
  refine ⟨ad, B, d, rfl, h1.pers1 (fun w' hw => ⟨cells5 hw.1, ?_⟩)⟩
  obtain ⟨v', e, hi⟩ := hw.2
  injection e with _ e; injection e with _ e; injection e with _ e; injection e with _ e; injection e with e _
  rw [e]
  exact hi
theorem cells2 {w : World} {p : Addr} {a b : Value} (h : ∀ j u, [a, b][j]? = some u → w.cell? (p.add j) = some u) : w.cell? p = some a ∧ w.cell? ⟨p.block, p.off + 1, none⟩ = some b :=
  ⟨by simpa [Addr.add] using h 0 a rfl, by simpa [Addr.add] using h 1 b rfl⟩
def stepA (s : List PU × List PU) (o : OpC) : List PU × List PU :=
  if o.d = 1 then (readB s.1 o.r o.i, s.2) else if o.d = 2 then (fillB s.1 s.2 o.put, s.2) else if o.d = 3 then (wrB s.1 s.2 o.put, wrW s.1 s.2 o.put) else if o.d = 4 then (s.1, flW s.2 o.r o.n) else
  if o.d = 5 then (s.1.filter (fun x => !inReg o.r x), s.2.filter (fun x => !inReg o.r x)) else s
/-- is it laid in by this one? -/
theorem stepA_inv {n : Nat} {s : List PU × List PU} {x : OpC} (h : InvC n s.1 s.2) (hx : x.b.length ≤ 140737488355328) : InvC (n + 1) (stepA s x).1 (stepA s x).2 := by
  unfold stepA
  split
  · exact h.read.le (by omega)
  · split
    · exact (h.fill hx).le (by omega)
    · split
      · exact h.write
      · split
        · exact (h.flush _).le (by omega)
        · split
          · exact h.drop.le (by omega)
          · exact h.le (by omega)
end Go.Proofs.Ytbgknfdaaffeaaa
