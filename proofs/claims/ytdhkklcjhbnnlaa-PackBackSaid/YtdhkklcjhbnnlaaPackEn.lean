/- PackEncodes, the walk. -/
import Derived.Test.YtdhkklcjhbnnlaaPackAw
import Derived.Test.YtdhkklcjhbnnlaaPackRE
import Derived.Test.YtdhkklcjhbnnlaaOpenC
namespace Go.Proofs.Ytdhkklcjhbnnlaa
open Go.ChangeShapes Go.WideShapes Go.ChangeAt Go.RowKit Go.Deep

theorem field_cells : Try.prog.cellsOf 41 = 3 := by kernel_rfl
theorem byte_cells : Try.prog.cellsOf 5 = 1 := by kernel_rfl
theorem int_cells : Try.prog.cellsOf 3 = 1 := by kernel_rfl

set_option maxRecDepth 100000 in
/-- an argument that is a slice of fields -/
theorem open_flds {H : Type} {enc : TypeId × Value → H} {W : World} {r : Reach} {b0 : Nat} {v : Value} {d : DataW H} {ps : List MemPlace} (hv : Value.okWide Try.prog W r b0 22 v) (h : DataW.Trod enc Try.prog W 0 (fun _ => true) true 22 v d ps) :
    ∃ fs css, (∀ f ∈ fs, Bytes f.b) ∧ ∀ w', Fr Non W w' → RowsC w' 3 FldR v css fs := by
  refine open_rowsC FldR (fun f => Bytes f.b) ⟨0, 0, []⟩ Try.underlying22 Try.underlying41 (by kernel_rfl) field_cells hv h (fun us hu => ?_)
  obtain ⟨y0, m0, t0⟩ := hu 0 _ rfl
  obtain ⟨y1, m1, t1⟩ := hu 1 _ rfl
  obtain ⟨y2, m2, t2⟩ := hu 2 _ rfl
  obtain ⟨x0, e0, _⟩ := int_cell Try.underlying3 t0
  obtain ⟨x1, e1, h1⟩ := int_cell Try.underlying39 t1
  obtain ⟨xs, hwf, hI⟩ := ints_of_cell Try.underlying24 Try.underlying5 byte_cells t2
  have hb := u64_bounds h1
  exact ⟨⟨x0, x1, xs⟩, bytes_of_wf hwf, fun w' hF => ⟨us 2, by show [us 0, us 1, us 2] = _; rw [e0, e1], hI w' hF, hb.1, by show x1 < _; omega⟩⟩

set_option maxRecDepth 100000 in
set_option maxHeartbeats 1000000 in
theorem encodes_st {M0 : Imm} {L : List Res} (v : Value) (fs : List Fld) (w : World) (h : St M0 w (rowsR 3 FldR v fs :: L)) :
    Calls Try.prog 3 #[v] w fun e w' => e = .returned (.bool true) ∧ St M0 w' (rowsR 3 FldR v fs :: L) := by
  obtain ⟨A, c, rfl, _, hm⟩ := (h.getRows 0 rfl).slice
  have H := hide h
  clear h
  go_enter Try.func3, Try.ntmps3
  go_wp2_with fail
  refine (awake_st _ H.out).mono ?_
  rintro e w1 ⟨rfl, h⟩
  have H1 := hide h
  clear H h
  by_cases h40 : 40 < fs.length
  · go_wp2_with fail
    go_ret
    exact ⟨rfl, H1.out⟩
  · go_wp2_with fail
    refine (enc_st _ fs _ (by omega) H1.out).mono ?_
    rintro e w2 ⟨u, rfl, h⟩
    obtain ⟨A2, c2, rfl⟩ := h.slice
    have H2 := hide h.ints
    clear H1 h
    go_wp2_with fail
    refine (renc_st _ fs _ (by omega) H2.out.swap).mono ?_
    rintro e w3 ⟨u, rfl, h⟩
    obtain ⟨A3, c3, rfl⟩ := h.slice
    have H3 := hide h.ints
    clear H2 h
    go_wp2_with fail
    refine (same_true _ _ (encB fs) _ (H3.out.get 2 rfl) (H3.out.get 0 rfl) H3.out.tail.del1).mono ?_
    rintro e w4 ⟨rfl, h⟩
    clear H3
    go_wp2_with fail
    go_ret
    exact ⟨rfl, h⟩

end Go.Proofs.Ytdhkklcjhbnnlaa
