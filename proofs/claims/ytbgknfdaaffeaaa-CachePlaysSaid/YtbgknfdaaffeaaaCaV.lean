/- Cache: a Put stored in its place. -/
import Derived.Test.YtbgknfdaaffeaaaCaY
namespace Go.Proofs.Ytbgknfdaaffeaaa
open Go.RowKit
theorem run_store_put (w : World) (b o : Nat) (ht : w.there b o 3) (x y : Int) (A : Option Addr) (n c : Nat) :
    (Instr.storeAt 153 (.pointer (some ⟨b, o, none⟩)) (.agg #[.int .i64 x, .int .i64 y, .slice A n c])).run Try.prog w = .ok () (w.setCells b o [.int .i64 x, .int .i64 y, .slice A n c]) := by
  have c0 := (ht 0 (by omega)).1
  have c1 := (ht 1 (by omega)).1
  have c2 := (ht 2 (by omega)).1
  have hst := run_storeCells_cells (P := Try.prog) b o [.int .i64 x, .int .i64 y, .slice A n c] 0 w (fun k hk => by rw [Nat.add_zero]; exact (ht k hk).1) (fun k hk => by rw [Nat.add_zero]; exact (ht k hk).2) (put_one x y A n c)
  simp only [Nat.add_zero] at hst
  obtain ⟨i0, hi0, _, hsz, _⟩ := info_parts put_elem.hinfo
  simp [Instr.storeAt, Instr.sureAddr, storeVar, sizeOf, typeInfo, hi0, hsz, hst, Value.cells]
theorem at_storeR {P : Program} {w : World} {ops : Array Oper} {rest : List Oper} {o : Oper} {ac : Act} {Q : Exit → Act → World → Prop} {s x : Operand} {v u : Value} {w' : World} (t : TypeId) (hgd : o.guard = none)
    (ho : o.op = .store t s x) (hs : ac.eval s = v) (hx : ac.eval x = u)
    (hr : (Instr.storeAt t v u).run P w = .ok () w') (k : wpList P ops Q rest (ac.put o.dst undef) w') : wpList P ops Q (o :: rest) ac w := by
  refine wpList_plain hgd fun K hK => ?_
  unfold Oper.wp execOp
  simp only [ho, Sem.run_bind, Sem.run_pure, Result.andThen_ok, hs, hx, hr]
  exact hK _ _ k
theorem St.thereG {α : Type} {M0 : Imm} {w : World} {L : List Res} {e : TypeId} {size : Nat} {R : World → List Value → α → Prop} {b n c k : Nat} {xs : List α} (h : St M0 w (growR e size R (.slice (some ⟨b, 0, none⟩) n c) xs :: L)) (hk : k < xs.length) : w.there b (k * size) size := by
  obtain ⟨zs, hz, hn, hs, h1⟩ := h.growZ
  have hlz : zs.length = xs.length := by rw [← hz, List.length_map]
  have hle : (k + 1) * size ≤ n * size := Nat.mul_le_mul_right _ (by omega)
  rw [Nat.add_mul, Nat.one_mul] at hle
  exact own_there (h1.row 0 rfl) (k * size) size (by omega)
end Go.Proofs.Ytbgknfdaaffeaaa
