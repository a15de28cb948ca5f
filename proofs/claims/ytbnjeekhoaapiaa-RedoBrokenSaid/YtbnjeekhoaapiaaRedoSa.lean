/- Redo: are requests the document's? -/
import Derived.Test.YtbnjeekhoaapiaaRedoAd
import Derived.Test.YtbnjeekhoaapiaaEqSt
import Derived.Deep.LoopGhost
import Derived.Deep.DeepCutAuto
namespace Go.Proofs.Ytbnjeekhoaapiaa
open Go.RowKit

theorem cells6 {w : World} {p : Addr} {a b c d e f : Value} (h : ∀ j u, [a, b, c, d, e, f][j]? = some u → w.cell? (p.add j) = some u) : w.cell? p = some a ∧ w.cell? ⟨p.block, p.off + 1, none⟩ = some b ∧ w.cell? ⟨p.block, p.off + 2, none⟩ = some c ∧ w.cell? ⟨p.block, p.off + 3, none⟩ = some d ∧ w.cell? ⟨p.block, p.off + 4, none⟩ = some e ∧ w.cell? ⟨p.block, p.off + 5, none⟩ = some f :=
  ⟨by simpa [Addr.add] using h 0 a rfl, by simpa [Addr.add] using h 1 b rfl, by simpa [Addr.add] using h 2 c rfl, by simpa [Addr.add] using h 3 d rfl, by simpa [Addr.add] using h 4 e rfl, by simpa [Addr.add] using h 5 f rfl⟩

set_option maxHeartbeats 2000000 in
set_option maxRecDepth 100000 in
theorem rsame_st {M0 : Imm} {L : List Res} (v u : Value) (l : List RQ) (i j : Nat) (w : World) (hx : L[i]? = some (rowsR 6 ReqP v l)) (hy : L[j]? = some (rowsR 6 ReqP u l)) (h : St M0 w L) :
    Calls Try.prog 30 #[v, u] w fun e w' => e = .returned (.bool true) ∧ St M0 w' L := by
  obtain ⟨A, c, rfl, hc, hm⟩ := (h.getRows i hx).slice
  obtain ⟨B, d, rfl, hd, hmd⟩ := (h.getRows j hy).slice
  generalize hn : l.length = n at *
  have HN := hide hn
  have H := hide h
  have HX := hide hx
  have HY := hide hy
  have hnn : ((n : Int) != (n : Int)) = false := isNF rfl
  clear hn h hx hy
  go_enter Try.func30, Try.ntmps30
  go_wp2_with fail
  go_loopg [5] n (fun gh i wr => ∃ k : Nat, gh = n - k ∧ k ≤ n ∧ i = .int .i64 (k : Nat) ∧ St M0 wr L)
  case atStart => exact ⟨0, rfl, by omega, rfl, H.out⟩
  case round =>
    clear H
    obtain ⟨k, hg, hk, rfl, h⟩ := hrel
    have HG := hide hg
    clear hg
    by_cases hlt : k < n
    · have hx := List.getElem?_eq_getElem (l := l) (i := k) (by rw [HN.out]; exact hlt)
      generalize l[k]'(by rw [HN.out]; exact hlt) = x at hx
      obtain ⟨ad, cs, rfl, _, hcs, ⟨va, rfl, ha⟩, -⟩ := h.elem i HX.out hx
      obtain ⟨bd, cs2, rfl, _, hcs2, ⟨vb, rfl, hb⟩, -⟩ := h.elem j HY.out hx
      obtain ⟨A2, c2, rfl, _, _, _⟩ := id ha
      obtain ⟨B2, d2, rfl, _, _, _⟩ := id hb
      obtain ⟨e0, e1, e2, e3, e4, e5⟩ := cells6 hcs
      have h2 := (h.alloc 89 #[.int .i64 x.op, .int .i64 x.region, .int .i64 x.index, .int .u64 x.token, .int .u32 x.seq, .slice A2 x.data.length c2])
      obtain ⟨bd', cs3, e, _, hcs3, ⟨vb', rfl, hb'⟩, -⟩ := h2.elem (j + 1) HY.out hx
      injection e with e
      subst e
      clear hcs2
      obtain ⟨B3, d3, rfl, _, _, _⟩ := id hb'
      obtain ⟨f0, f1, f2, f3, f4, f5⟩ := cells6 hcs3
      have HA := hide (ha.non (((Fr.refl _ wr).alloc (.cells #[.int .i64 x.op, .int .i64 x.region, .int .i64 x.index, .int .u64 x.token, .int .u32 x.seq, .slice A2 x.data.length c2] 89)).alloc (.cells #[.int .i64 x.op, .int .i64 x.region, .int .i64 x.index, .int .u64 x.token, .int .u32 x.seq, .slice B3 x.data.length d3] 144)))
      have HB := hide (hb'.non ((Fr.refl _ _).alloc (.cells #[.int .i64 x.op, .int .i64 x.region, .int .i64 x.index, .int .u64 x.token, .int .u32 x.seq, .slice B3 x.data.length d3] 144)))
      have H1 := hide ((h.junk (.cells #[.int .i64 x.op, .int .i64 x.region, .int .i64 x.index, .int .u64 x.token, .int .u32 x.seq, .slice A2 x.data.length c2] 89)).junk (.cells #[.int .i64 x.op, .int .i64 x.region, .int .i64 x.index, .int .u64 x.token, .int .u32 x.seq, .slice B3 x.data.length d3] 144))
      clear hx h h2 hcs hcs3 ha hb hb'
      have i0 : (0 : Int) ≤ (k : Int) := by omega
      have i1 : (k : Int) < (n : Int) := by omega
      have b0 : (x.op != x.op) = false := isNF rfl
      have b1 : (x.region != x.region) = false := isNF rfl
      have b2 : (x.index != x.index) = false := isNF rfl
      have b3 : (x.token != x.token) = false := isNF rfl
      have b4 : (x.seq != x.seq) = false := isNF rfl
      go_wp2_with fail
      refine (same_true _ _ x.data _ HA.out HB.out H1.out).mono ?_
      rintro e w3 ⟨rfl, h⟩
      have H3 := hide h
      clear h H1 HA HB e0 e1 e2 e3 e4 e5 f0 f1 f2 f3 f4 f5
      go_wp2_with fail
      go_roundg (n - (k + 1))
      case measure => have := HG.out; omega
      case rel => exact ⟨k + 1, rfl, by omega, by go_num, H3.out⟩
    · have H := hide h
      clear h
      go_wp2_with fail
      go_ret
      exact ⟨rfl, H.out⟩
end Go.Proofs.Ytbnjeekhoaapiaa
