/- The document's form of a request. -/
import Derived.Test.YtdhkklcjhbnnlaaImgC
namespace Go.Proofs.Ytdhkklcjhbnnlaa
open Go.RowKit

theorem results_cell1 {fn : Func} {t : Nat} {ty : TypeId} {P : Program} {w : World} {v : Value} {a : Addr} (h : fn.results = #[.cell t ty]) (tmps : Array Value) (ha : tmps.getD t undef = .pointer (some a)) (hl : (loadVar ty a).run P w = .ok v w) :
    (results fn tmps).run P w = .ok v w := by
  have ha' : tmps[t]?.getD undef = .pointer (some a) := by simpa using ha
  simp [results, h, ha', asAddr, hl]

theorem doc_any (r : RQ) (A : Option Addr) (n c : Nat) (w : World) : Calls Try.prog 45 #[reqV r (.slice A n c)] w fun e w' => e = .returned (reqV r (.slice A n c)) ∧ Fr Non w w' := by
  obtain ⟨op, region, index, token, seq, data⟩ := r
  go_enter Try.func45, Try.ntmps45
  go_wp2
  refine bodyPost_ret (v := reqV ⟨op, region, index, token, seq, data⟩ (.slice A n c)) (results_cell1 rfl _ rfl ?_) rfl ⟨rfl, ((Fr.refl _ _).alloc _).alloc _⟩
  go_simp

end Go.Proofs.Ytdhkklcjhbnnlaa
