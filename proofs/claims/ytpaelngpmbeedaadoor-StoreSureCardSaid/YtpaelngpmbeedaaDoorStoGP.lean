/- StoreSureCardSaid: no condition (the listed table of sums is tied to the program's text). -/
import Derived.Test.YtpaelngpmbeedaaDoorStoG
import Derived.Test.YtpaelngpmbeedaaDoorCkTb
import Derived.Test.YtpaelngpmbeedaaDoorOpenZ
import Derived.Test.YtpaelngpmbeedaaDoorTie
import Derived.Test.YtpaelngpmbeedaaDoorCards
namespace Go.Proofs.YtpaelngpmbeedaaDoor
open Go.ChangeShapes Go.WideShapes Go.ChangeAt Go.RowKit Go.Deep

set_option maxRecDepth 100000 in
theorem storeSure_lifted (os : Os) (started : os.Started) (H : Type) (enc : TypeId × Value → H) :
    ReturnsInHanded {} Tryd.checked os 5 .any (fun w args => (Rows.storeSureSpec.pre enc Tryd.prog Tryd.f5 Rows.storeSureRow.domain false w args ∧ laidMet Tryd.prog Rows.storeSureRow.laid w) ∧ sizedMet enc Tryd.prog Tryd.f5 (OpenSpec.ofChange Rows.storeSureSpec) false w args)
      (Rows.storeSureSpec.post enc Tryd.prog Tryd.f5 false true false false) := by
  refine law_liftT started (by kernel_rfl) Tryd.func5 (by kernel_rfl) rfl Tryd.underlying4 rfl ?_
    (ChangeSpec.witness_at (enc := enc) (C := Tryd.checked) (os := os) (X := fun w _ => laidMet Tryd.prog Rows.storeSureRow.laid w) false (World.laidAll Tryd.prog os Rows.storeSureRow.laid) #[.slice none 0 0, .int .i64 0, .int .i64 0, .slice none 0 0, .slice none 0 0] 8 (World.laidAll_os _ _ _) (by kernel_rfl) (by kernel_rfl) (by kernel_rfl) (by kernel_rfl) (by kernel_rfl) (laidMet_laidAll _ (by kernel_rfl) (by kernel_rfl))) ?_
  · intro ds h
    match ds, h with
    | [_, _, _, _, _], _ => rfl
  intro W base args ds ps hval hA hlt _ hX
  rw [Tryd.params5] at hval
  have hA : DataW.TrodAll enc Tryd.prog W 0 (fun _ => true) true Tryd.f5.params.toList args.toList ds ps := hA
  rw [Tryd.params5] at hA
  obtain ⟨v0, vs0, d0, ds0, p0, q0, hargs, rfl, rfl, h0, r0⟩ := trodAll_cons hA
  obtain ⟨v1, vs1, d1, ds1, p1, q1, rfl, rfl, rfl, h1, r1⟩ := trodAll_cons r0
  obtain ⟨v2, vs2, d2, ds2, p2, q2, rfl, rfl, rfl, h2, r2⟩ := trodAll_cons r1
  obtain ⟨v3, vs3, d3, ds3, p3, q3, rfl, rfl, rfl, h3, r3⟩ := trodAll_cons r2
  obtain ⟨v4, vs4, d4, ds4, p4, q4, rfl, rfl, rfl, h4, r4⟩ := trodAll_cons r3
  obtain ⟨rfl, rfl, rfl⟩ := trodAll_nil r4
  obtain rfl : args = #[v0, v1, v2, v3, v4] := by cases args; simp_all
  obtain ⟨l, css, hl, hr⟩ := open_opS (hval 0 58 v0 rfl rfl) h0
  obtain ⟨rg, rfl, rfl, rfl, _⟩ := open_int Tryd.underlying3 (hval 1 3 v1 rfl rfl) h1
  obtain ⟨bl, rfl, rfl, rfl, _⟩ := open_int Tryd.underlying3 (hval 2 3 v2 rfl rfl) h2
  obtain ⟨b, hwf, hI⟩ := ints_of Tryd.underlying37 Tryd.underlying5 cells_int1.2.2.2.2.2.2.2 (hval 3 37 v3 rfl rfl) h3
  obtain ⟨picks, _, hJ⟩ := ints_of Tryd.underlying59 Tryd.underlying3 cells_int1.1 (hval 4 59 v4 rfl rfl) h4
  obtain ⟨B, db, rfl, _, _, _⟩ := hI W (Fr.refl _ _)
  refine (sure_st (tbl_init (tab_of_laid hX)) v0 l rg bl B b.length db b v4 picks W hl (bytes_of_wf hwf) ((((St.init W).persW hJ).persW hI).rowsW hr)).mono ?_
  rintro e W' ⟨he, h⟩
  exact ⟨he, h.done⟩

theorem storeSure_over : Rows.storeSureRow.holds Tryd.pinned (OpenSpec.ofChange Rows.storeSureSpec) :=
  OpenClaim.holds_of_wide 5 Tryd.f5 rfl rfl rfl rfl rfl rfl rfl ⟨rfl, rfl, rfl, rfl, rfl⟩ rfl rfl rfl rfl rfl (by kernel_rfl) Tryd.func5 (by kernel_rfl)
    (of_decide_eq_true (by kernel_rfl)) (by unfold Func.isWrapper; first | (rw [if_pos (by decide +kernel)]; kernel_rfl) | (rw [if_neg (by decide +kernel)]; exact ⟨rfl, rfl⟩))
    (fun os started H enc _ => storeSure_lifted os started H enc)

theorem StoreSure_holds : Rows.StoreSureCardSaid :=
  Claim7.holds_tied_plain_at .later [] [.data] true (true, "4244de677f71fcc319713c7919376e1ff42467f23b550c706e11ed4149e1b3c6") true
    storeSure_over (fun _ h => by cases h) (by kernel_rfl) (fun _ h => by cases h) storeSure_row_tie rfl ⟨rfl, rfl⟩ (by kernel_rfl) rfl
    (fun f fn hf hfn => by
      obtain rfl : f = 5 := Option.some.inj ((show Tryd.prog.funcNamed "pursuivant/pursuivantlaw23.StoreSure" = some 5 by kernel_rfl).symm.trans hf) |>.symm
      obtain rfl : fn = Tryd.f5 := (Option.some.inj (Tryd.func5.symm.trans hfn)).symm
      exact ⟨by kernel_rfl, fun j t ht => by
        rw [Tryd.params5] at ht
        have hm : t ∈ [58, 3, 37, 59] := by simpa using Array.mem_of_getElem? ht
        have hall : ([58, 3, 37, 59].all fun u => !Tryd.prog.wantsStandIn u) = true := by kernel_rfl
        exact (show Tryd.prog.wantsStandIn t = false by simpa using List.all_eq_true.1 hall t hm)⟩)
    (by kernel_rfl)
#print axioms StoreSure_holds
end Go.Proofs.YtpaelngpmbeedaaDoor
