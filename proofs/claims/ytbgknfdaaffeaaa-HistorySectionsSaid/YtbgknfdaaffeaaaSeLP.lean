/- HistorySectionsSaid: no condition. -/
import Derived.Test.YtbgknfdaaffeaaaSeL
import Derived.Test.YtbgknfdaaffeaaaOpenW
import Derived.Test.YtbgknfdaaffeaaaLift
namespace Go.Proofs.Ytbgknfdaaffeaaa
open Go.ChangeShapes Go.WideShapes Go.ChangeAt Go.RowKit Go.Deep

theorem ev_cells : Try.prog.cellsOf 120 = 7 := by kernel_rfl
set_option maxRecDepth 100000 in
theorem open_evs {H : Type} {enc : TypeId × Value → H} {W : World} {r : Reach} {b0 : Nat} {v : Value} {d : DataW H} {ps : List MemPlace} (hv : Value.okWide Try.prog W r b0 117 v) (h : DataW.Trod enc Try.prog W 0 (fun _ => true) true 117 v d ps) (hw : (d.weights Try.prog 117).all (· ≤ reachBytes) = true) :
    ∃ l css, (∀ x ∈ l, (EvM.b x).length ≤ 140737488355328 ∧ 0 ≤ EvM.t x) ∧ ∀ w', Fr Non W w' → RowsC w' 7 EvR v css l := by
  refine open_rowsW EvR (fun x => x.b.length ≤ 140737488355328 ∧ 0 ≤ x.t) ⟨0, 0, 0, 0, 0, [], 0⟩ Try.underlying117 Try.underlying120 (by kernel_rfl) ev_cells hv h hw (fun us hu => ?_)
  obtain ⟨y0, m0, t0, _⟩ := hu 0 _ rfl
  obtain ⟨y1, m1, t1, _⟩ := hu 1 _ rfl
  obtain ⟨y2, m2, t2, _⟩ := hu 2 _ rfl
  obtain ⟨y3, m3, t3, _⟩ := hu 3 _ rfl
  obtain ⟨y4, m4, t4, _⟩ := hu 4 _ rfl
  obtain ⟨y5, m5, t5, w5⟩ := hu 5 _ rfl
  obtain ⟨y6, m6, t6, _⟩ := hu 6 _ rfl
  obtain ⟨x0, e0, _⟩ := int_cell Try.underlying3 t0
  obtain ⟨x1, e1, _⟩ := int_cell Try.underlying3 t1
  obtain ⟨x2, e2, _⟩ := int_cell Try.underlying3 t2
  obtain ⟨x3, e3, _⟩ := int_cell Try.underlying3 t3
  obtain ⟨x4, e4, hwf4⟩ := int_cell Try.underlying33 t4
  obtain ⟨x6, e6, _⟩ := int_cell Try.underlying54 t6
  have hb4 := u64_bounds hwf4
  obtain ⟨xs, hwf, hl, hI⟩ := ints_len_cell Try.underlying48 Try.underlying5 u8_cells1 (by rw [u8_bytes1]; exact Nat.le_refl _) t5 w5
  obtain ⟨B, c, hV, _, _, _⟩ := hI W (Fr.refl _ _)
  exact ⟨⟨x0, x1, x2, x3, x4, xs, x6⟩, ⟨by unfold reachBytes at hl; show xs.length ≤ _; omega, hb4.1⟩, fun w' hF => ⟨B, c, by show [us 0, us 1, us 2, us 3, us 4, us 5, us 6] = _; rw [e0, e1, e2, e3, e4, hV, e6], by rw [← hV]; exact hI w' hF⟩⟩
set_option maxRecDepth 100000 in
theorem historySections_lifted (os : Os) (started : os.Started) (H : Type) (enc : TypeId × Value → H) :
    ReturnsInHanded {} Try.checked os 10 .any (Rows.historySectionsSpec.pre6 enc Try.prog Try.f10 Rows.historySectionsRow.domain false) (Rows.historySectionsSpec.post enc Try.prog Try.f10 false true false false) := by
  refine law_lift started (by kernel_rfl) Try.func10 (by kernel_rfl) rfl Try.underlying4 rfl ?_
    (ChangeSpec.witness6 (enc := enc) (C := Try.checked) false ⟨#[], #[.slice none 0 0, .int .i64 0], []⟩ 8 (by kernel_rfl) (by kernel_rfl) (by kernel_rfl) (by kernel_rfl)) ?_
  · intro ds h
    match ds, h with
    | [_, _], _ => rfl
  intro W base args ds ps hval hA hlt hsz
  rw [Try.params10] at hval
  have hA : DataW.TrodAll enc Try.prog W 0 (fun _ => true) true Try.f10.params.toList args.toList ds ps := hA
  rw [Try.params10] at hA
  obtain ⟨v0, vs0, d0, ds0, p0, q0, hargs, rfl, rfl, h0, r0⟩ := trodAll_cons hA
  obtain ⟨v1, vs1, d1, ds1, p1, q1, rfl, rfl, rfl, h1, r1⟩ := trodAll_cons r0
  obtain ⟨rfl, rfl, rfl⟩ := trodAll_nil r1
  obtain rfl : args = #[v0, v1] := by cases args; simp_all
  rw [Try.params10] at hsz
  simp only [DataW.weightsEach, List.all_append, Bool.and_eq_true] at hsz
  obtain ⟨l, css, hb, hr⟩ := open_evs (hval 0 117 v0 rfl rfl) h0 hsz.1
  obtain ⟨a1, rfl, rfl, rfl, _⟩ := open_int Try.underlying3 (hval 1 3 v1 rfl rfl) h1
  refine (sectionsL_st v0 a1 l W (fun x hx => (hb x hx).1) (fun x hx => (hb x hx).2) ((St.init W).rowsW hr)).mono ?_
  rintro e W' ⟨he, L', h⟩
  exact ⟨he, h.done⟩

theorem historySections_over : Rows.historySectionsRow.holds Try.pinned (OpenSpec.ofChange Rows.historySectionsSpec) :=
  OpenClaim.holds_of_wide 10 Try.f10 rfl rfl rfl rfl rfl rfl rfl ⟨rfl, rfl, rfl, rfl, rfl⟩ rfl rfl rfl rfl rfl (by kernel_rfl) Try.func10 (by kernel_rfl)
    (of_decide_eq_true (by kernel_rfl)) (by unfold Func.isWrapper; first | (rw [if_pos (by decide +kernel)]; kernel_rfl) | (rw [if_neg (by decide +kernel)]; exact ⟨rfl, rfl⟩))
    (fun os started H enc _ => historySections_lifted os started H enc)

theorem HistorySections_holds : Rows.HistorySectionsSaid := historySections_over
#print axioms HistorySections_holds
end Go.Proofs.Ytbgknfdaaffeaaa
