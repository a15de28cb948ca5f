/- Requests as a slice that stays; running through them (plain). -/
import Derived.Test.YtdhkklcjhbnnlaaImgAw
import Derived.Test.YtdhkklcjhbnnlaaImgH
import Derived.Deep.LoopGhost
namespace Go.Proofs.Ytdhkklcjhbnnlaa
open Go.RowKit

def ReqR (w : World) (cs : List Value) (r : RQ) : Prop := ∃ v, cs = [.int .i64 r.op, .int .i64 r.region, .int .i64 r.index, .int .u64 r.token, .int .u32 r.seq, v] ∧ Ints w .u8 v r.data ∧ r.ok
theorem cells6 {w : World} {p : Addr} {a b c d e f : Value} (h : ∀ j u, [a, b, c, d, e, f][j]? = some u → w.cell? (p.add j) = some u) :
    w.cell? p = some a ∧ w.cell? ⟨p.block, p.off + 1, none⟩ = some b ∧ w.cell? ⟨p.block, p.off + 2, none⟩ = some c ∧ w.cell? ⟨p.block, p.off + 3, none⟩ = some d ∧ w.cell? ⟨p.block, p.off + 4, none⟩ = some e ∧ w.cell? ⟨p.block, p.off + 5, none⟩ = some f :=
  ⟨by simpa [Addr.add] using h 0 a rfl, by simpa [Addr.add] using h 1 b rfl, by simpa [Addr.add] using h 2 c rfl, by simpa [Addr.add] using h 3 d rfl, by simpa [Addr.add] using h 4 e rfl, by simpa [Addr.add] using h 5 f rfl⟩
def runI (l : List RQ) : Nat → Rg := l.foldl doM aw0
theorem runI_snoc {l : List RQ} {k : Nat} {x : RQ} (h : l[k]? = some x) : runI (l.take (k + 1)) = doM (runI (l.take k)) x := by
  rw [take_snoc h, runI, runI, List.foldl_append]
  rfl
theorem runI_ok : ∀ (l : List RQ) (m : Nat → Rg), (∀ x ∈ l, x.ok) → (∀ k, (m k).ok) → ∀ k, (l.foldl doM m k).ok
  | [], _, _, hm => hm
  | x :: l, _, hl, hm => runI_ok l _ (fun y hy => hl y (List.mem_cons_of_mem _ hy)) (doM_ok hm (hl x List.mem_cons_self))
theorem run_ok {l : List RQ} (hl : ∀ x ∈ l, x.ok) (k : Nat) : ∀ i, (runI (l.take k) i).ok := runI_ok _ _ (fun x hx => hl x (List.mem_of_mem_take hx)) aw_ok0
/-- an element of the slice: its request, its cells, what they stand for -/
theorem St.req {M0 : Imm} {w : World} {L : List Res} {A : Option Addr} {n c : Nat} {l : List RQ} (h : St M0 w L) (i : Nat) (hi : L[i]? = some (rowsR 6 ReqR (.slice A n c) l)) {k : Nat} {x : RQ} (hk : l[k]? = some x) :
    ∃ ad B d, A = some ad ∧ x.ok ∧ St M0 w (persR (fun w' => (∀ j u, [Value.int .i64 x.op, .int .i64 x.region, .int .i64 x.index, .int .u64 x.token, .int .u32 x.seq, .slice B x.data.length d][j]? = some u → w'.cell? ((ad.add (k * 6)).add j) = some u) ∧ Ints w' .u8 (.slice B x.data.length d) x.data) :: L) := by
  obtain ⟨ad, cs, rfl, _, _, ⟨v, rfl, hv, hx⟩, h⟩ := h.elem i hi hk
  obtain ⟨B, d, rfl, _, _, _⟩ := hv
  refine ⟨ad, B, d, rfl, hx, h.pers1 (fun w' hr => ⟨hr.1, ?_⟩)⟩
  obtain ⟨v', e, hv', _⟩ := hr.2
  simp only [List.cons.injEq, true_and, and_true] at e
  subst e
  exact hv'

end Go.Proofs.Ytdhkklcjhbnnlaa
