/- CommitSureCardSaid: no condition (the listed table of sums is tied to the program's text). -/
import Derived.Test.YtpaelngpmbeedaaGreatDoorCsuL
import Derived.Test.YtpaelngpmbeedaaGreatDoorCkTc
import Derived.Test.YtpaelngpmbeedaaGreatDoorOpenZ
import Derived.Test.YtpaelngpmbeedaaGreatDoorTie
import Derived.Test.YtpaelngpmbeedaaGreatDoorCards
namespace Go.Proofs.YtpaelngpmbeedaaGreatDoor
open Go.ChangeShapes Go.WideShapes Go.ChangeAt Go.RowKit Go.Deep

set_option maxRecDepth 100000 in
theorem commitSure_lifted (os : Os) (started : os.Started) (H : Type) (enc : TypeId × Value → H) :
    ReturnsInHanded {} Tryz.checked os 3 .any (fun w args => (Rows.commitSureSpec.pre enc Tryz.prog Tryz.f3 Rows.commitSureRow.domain false w args ∧ laidMet Tryz.prog Rows.commitSureRow.laid w) ∧ sizedMet enc Tryz.prog Tryz.f3 (OpenSpec.ofChange Rows.commitSureSpec) false w args)
      (Rows.commitSureSpec.post enc Tryz.prog Tryz.f3 false true false false) := by
  refine law_liftT started (by kernel_rfl) Tryz.func3 (by kernel_rfl) rfl Tryz.underlying4 rfl ?_
    (ChangeSpec.witness_at (enc := enc) (C := Tryz.checked) (os := os) (X := fun w _ => laidMet Tryz.prog Rows.commitSureRow.laid w) false (World.laidAll Tryz.prog os Rows.commitSureRow.laid) #[.slice none 0 0, .slice none 0 0] 8 (World.laidAll_os _ _ _) (by kernel_rfl) (by kernel_rfl) (by kernel_rfl) (by kernel_rfl) (by kernel_rfl) (laidMet_laidAll _ (by kernel_rfl) (by kernel_rfl))) ?_
  · intro ds h
    match ds, h with
    | [_, _], _ => rfl
  intro W base args ds ps hval hA hlt _ hX
  rw [Tryz.params3] at hval
  have hA : DataW.TrodAll enc Tryz.prog W 0 (fun _ => true) true Tryz.f3.params.toList args.toList ds ps := hA
  rw [Tryz.params3] at hA
  obtain ⟨v0, vs0, d0, ds0, p0, q0, hargs, rfl, rfl, h0, r0⟩ := trodAll_cons hA
  obtain ⟨v1, vs1, d1, ds1, p1, q1, rfl, rfl, rfl, h1, r1⟩ := trodAll_cons r0
  obtain ⟨rfl, rfl, rfl⟩ := trodAll_nil r1
  obtain rfl : args = #[v0, v1] := by cases args; simp_all
  obtain ⟨l, css, hl, hr⟩ := open_opS (hval 0 22 v0 rfl rfl) h0
  obtain ⟨picks, _, hJ⟩ := ints_of Tryz.underlying23 Tryz.underlying3 cells_int1.1 (hval 1 23 v1 rfl rfl) h1
  refine (commitSure_st (tbl_init (tab_of_laid hX)) v0 l v1 picks W hl (((St.init W).persW hJ).rowsW hr)).mono ?_
  rintro e W' ⟨he, h⟩
  exact ⟨he, h.done⟩

theorem commitSure_over : Rows.commitSureRow.holds Tryz.pinned (OpenSpec.ofChange Rows.commitSureSpec) :=
  OpenClaim.holds_of_wide 3 Tryz.f3 rfl rfl rfl rfl rfl rfl rfl ⟨rfl, rfl, rfl, rfl, rfl⟩ rfl rfl rfl rfl rfl (by kernel_rfl) Tryz.func3 (by kernel_rfl)
    (of_decide_eq_true (by kernel_rfl)) (by unfold Func.isWrapper; first | (rw [if_pos (by decide +kernel)]; kernel_rfl) | (rw [if_neg (by decide +kernel)]; exact ⟨rfl, rfl⟩))
    (fun os started H enc _ => commitSure_lifted os started H enc)

theorem CommitSure_holds : Rows.CommitSureCardSaid :=
  Claim7.holds_tied_plain_at .later [] [.data] true (true, "5f6fec95d67900c8abd792926facc50c0b66123da1567dd08f0a81416141a2a0") true
    commitSure_over (fun _ h => by cases h) (by kernel_rfl) (fun _ h => by cases h) commitSure_row_tie rfl ⟨rfl, rfl⟩ (by kernel_rfl) rfl
    (fun f fn hf hfn => by
      obtain rfl : f = 3 := Option.some.inj ((show Tryz.prog.funcNamed "pursuivant/pursuivantlaw22.CommitSure" = some 3 by kernel_rfl).symm.trans hf) |>.symm
      obtain rfl : fn = Tryz.f3 := (Option.some.inj (Tryz.func3.symm.trans hfn)).symm
      exact ⟨by kernel_rfl, fun j t ht => by
        rw [Tryz.params3] at ht
        have hm : t ∈ [22, 23] := by simpa using Array.mem_of_getElem? ht
        have hall : ([22, 23].all fun u => !Tryz.prog.wantsStandIn u) = true := by kernel_rfl
        exact (show Tryz.prog.wantsStandIn t = false by simpa using List.all_eq_true.1 hall t hm)⟩)
    (by kernel_rfl)
#print axioms CommitSure_holds
end Go.Proofs.YtpaelngpmbeedaaGreatDoor
