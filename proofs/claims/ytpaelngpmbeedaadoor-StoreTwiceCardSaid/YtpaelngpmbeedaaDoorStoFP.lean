/- StoreTwiceCardSaid: no condition (the listed table of sums is tied to the program's text). -/
import Derived.Test.YtpaelngpmbeedaaDoorStoF
import Derived.Test.YtpaelngpmbeedaaDoorCkTb
import Derived.Test.YtpaelngpmbeedaaDoorOpenZ
import Derived.Test.YtpaelngpmbeedaaDoorTie
import Derived.Test.YtpaelngpmbeedaaDoorCards
namespace Go.Proofs.YtpaelngpmbeedaaDoor
open Go.ChangeShapes Go.WideShapes Go.ChangeAt Go.RowKit Go.Deep

set_option maxRecDepth 100000 in
theorem storeTwice_lifted (os : Os) (started : os.Started) (H : Type) (enc : TypeId × Value → H) :
    ReturnsInHanded {} Tryd.checked os 4 .any (fun w args => (Rows.storeTwiceSpec.pre enc Tryd.prog Tryd.f4 Rows.storeTwiceRow.domain false w args ∧ laidMet Tryd.prog Rows.storeTwiceRow.laid w) ∧ sizedMet enc Tryd.prog Tryd.f4 (OpenSpec.ofChange Rows.storeTwiceSpec) false w args)
      (Rows.storeTwiceSpec.post enc Tryd.prog Tryd.f4 false true false false) := by
  refine law_liftT started (by kernel_rfl) Tryd.func4 (by kernel_rfl) rfl Tryd.underlying4 rfl ?_
    (ChangeSpec.witness_at (enc := enc) (C := Tryd.checked) (os := os) (X := fun w _ => laidMet Tryd.prog Rows.storeTwiceRow.laid w) false (World.laidAll Tryd.prog os Rows.storeTwiceRow.laid) #[.slice none 0 0] 8 (World.laidAll_os _ _ _) (by kernel_rfl) (by kernel_rfl) (by kernel_rfl) (by kernel_rfl) (by kernel_rfl) (laidMet_laidAll _ (by kernel_rfl) (by kernel_rfl))) ?_
  · intro ds h
    match ds, h with
    | [_], _ => rfl
  intro W base args ds ps hval hA hlt _ hX
  rw [Tryd.params4] at hval
  have hA : DataW.TrodAll enc Tryd.prog W 0 (fun _ => true) true Tryd.f4.params.toList args.toList ds ps := hA
  rw [Tryd.params4] at hA
  obtain ⟨v0, vs0, d0, ds0, p0, q0, hargs, rfl, rfl, h0, r0⟩ := trodAll_cons hA
  obtain ⟨rfl, rfl, rfl⟩ := trodAll_nil r0
  obtain rfl : args = #[v0] := by cases args; simp_all
  obtain ⟨l, css, hb, hr⟩ := open_reqs (hval 0 22 v0 rfl rfl) h0
  refine (twice_st (tbl_init (tab_of_laid hX)) v0 l W hb ((St.init W).rowsW hr)).mono ?_
  rintro e W' ⟨he, h⟩
  exact ⟨he, h.done⟩

theorem storeTwice_over : Rows.storeTwiceRow.holds Tryd.pinned (OpenSpec.ofChange Rows.storeTwiceSpec) :=
  OpenClaim.holds_of_wide 4 Tryd.f4 rfl rfl rfl rfl rfl rfl rfl ⟨rfl, rfl, rfl, rfl, rfl⟩ rfl rfl rfl rfl rfl (by kernel_rfl) Tryd.func4 (by kernel_rfl)
    (of_decide_eq_true (by kernel_rfl)) (by unfold Func.isWrapper; first | (rw [if_pos (by decide +kernel)]; kernel_rfl) | (rw [if_neg (by decide +kernel)]; exact ⟨rfl, rfl⟩))
    (fun os started H enc _ => storeTwice_lifted os started H enc)

theorem StoreTwice_holds : Rows.StoreTwiceCardSaid :=
  Claim7.holds_tied_plain_at .later [] [.data] true (true, "4244de677f71fcc319713c7919376e1ff42467f23b550c706e11ed4149e1b3c6") true
    storeTwice_over (fun _ h => by cases h) (by kernel_rfl) (fun _ h => by cases h) storeTwice_row_tie rfl ⟨rfl, rfl⟩ (by kernel_rfl) rfl
    (fun f fn hf hfn => by
      obtain rfl : f = 4 := Option.some.inj ((show Tryd.prog.funcNamed "pursuivant/pursuivantlaw23.StoreTwice" = some 4 by kernel_rfl).symm.trans hf) |>.symm
      obtain rfl : fn = Tryd.f4 := (Option.some.inj (Tryd.func4.symm.trans hfn)).symm
      exact ⟨by kernel_rfl, fun j t ht => by
        rw [Tryd.params4] at ht
        have hm : t ∈ [22] := by simpa using Array.mem_of_getElem? ht
        have hall : ([22].all fun u => !Tryd.prog.wantsStandIn u) = true := by kernel_rfl
        exact (show Tryd.prog.wantsStandIn t = false by simpa using List.all_eq_true.1 hall t hm)⟩)
    (by kernel_rfl)
#print axioms StoreTwice_holds
end Go.Proofs.YtpaelngpmbeedaaDoor
