/- StoreToldCardSaid: no condition (the listed table of sums is tied to the program's text). -/
import Derived.Test.YtpaelngpmbeedaaGreatDoorStoH
import Derived.Test.YtpaelngpmbeedaaGreatDoorOpMsg
import Derived.Test.YtpaelngpmbeedaaGreatDoorCkTc
import Derived.Test.YtpaelngpmbeedaaGreatDoorOpenZ
import Derived.Test.YtpaelngpmbeedaaGreatDoorTie
import Derived.Test.YtpaelngpmbeedaaGreatDoorCards
namespace Go.Proofs.YtpaelngpmbeedaaGreatDoor
open Go.ChangeShapes Go.WideShapes Go.ChangeAt Go.RowKit Go.Deep

set_option maxRecDepth 100000 in
theorem storeTold_lifted (os : Os) (started : os.Started) (H : Type) (enc : TypeId × Value → H) :
    ReturnsInHanded {} Tryz.checked os 4 .any (fun w args => (Rows.storeToldSpec.pre enc Tryz.prog Tryz.f4 Rows.storeToldRow.domain false w args ∧ laidMet Tryz.prog Rows.storeToldRow.laid w) ∧ sizedMet enc Tryz.prog Tryz.f4 (OpenSpec.ofChange Rows.storeToldSpec) false w args)
      (Rows.storeToldSpec.post enc Tryz.prog Tryz.f4 false true false false) := by
  refine law_liftT started (by kernel_rfl) Tryz.func4 (by kernel_rfl) rfl Tryz.underlying4 rfl ?_
    (ChangeSpec.witness_at (enc := enc) (C := Tryz.checked) (os := os) (X := fun w _ => laidMet Tryz.prog Rows.storeToldRow.laid w) false (World.laidAll Tryz.prog os Rows.storeToldRow.laid) #[.agg #[.int .i64 0, .int .i64 0, .int .i64 0, .int .u64 0, .int .u64 0, .int .u64 0, .int .u64 0, .bool false, .slice none 0 0, .slice none 0 0]] 8 (World.laidAll_os _ _ _) (by kernel_rfl) (by kernel_rfl) (by kernel_rfl) (by kernel_rfl) (by kernel_rfl) (laidMet_laidAll _ (by kernel_rfl) (by kernel_rfl))) ?_
  · intro ds h
    match ds, h with
    | [_], _ => rfl
  intro W base args ds ps hval hA hlt _ hX
  rw [Tryz.params4] at hval
  have hA : DataW.TrodAll enc Tryz.prog W 0 (fun _ => true) true Tryz.f4.params.toList args.toList ds ps := hA
  rw [Tryz.params4] at hA
  obtain ⟨v0, vs0, d0, ds0, p0, q0, hargs, rfl, rfl, h0, r0⟩ := trodAll_cons hA
  obtain ⟨rfl, rfl, rfl⟩ := trodAll_nil r0
  obtain rfl : args = #[v0] := by cases args; simp_all
  obtain ⟨k, f, t, p1, i, p2, p3, ok, A, c, b, v9, rfl, h9, hb, hI⟩ := open_msg (hval 0 63 v0 rfl rfl) h0
  refine (toldLaw_st (tbl_init (tab_of_laid hX)) k f t i ok p1 p2 p3 v9 h9 A c b W hb ((St.init W).persW hI)).mono ?_
  rintro e W' ⟨he, h⟩
  exact ⟨he, h.done⟩

theorem storeTold_over : Rows.storeToldRow.holds Tryz.pinned (OpenSpec.ofChange Rows.storeToldSpec) :=
  OpenClaim.holds_of_wide 4 Tryz.f4 rfl rfl rfl rfl rfl rfl rfl ⟨rfl, rfl, rfl, rfl, rfl⟩ rfl rfl rfl rfl rfl (by kernel_rfl) Tryz.func4 (by kernel_rfl)
    (of_decide_eq_true (by kernel_rfl)) (by unfold Func.isWrapper; first | (rw [if_pos (by decide +kernel)]; kernel_rfl) | (rw [if_neg (by decide +kernel)]; exact ⟨rfl, rfl⟩))
    (fun os started H enc _ => storeTold_lifted os started H enc)

theorem StoreTold_holds : Rows.StoreToldCardSaid :=
  Claim7.holds_tied_plain_at .later [] [.data] true (true, "5f6fec95d67900c8abd792926facc50c0b66123da1567dd08f0a81416141a2a0") true
    storeTold_over (fun _ h => by cases h) (by kernel_rfl) (fun _ h => by cases h) storeTold_row_tie rfl ⟨rfl, rfl⟩ (by kernel_rfl) rfl
    (fun f fn hf hfn => by
      obtain rfl : f = 4 := Option.some.inj ((show Tryz.prog.funcNamed "pursuivant/pursuivantlaw23.StoreTold" = some 4 by kernel_rfl).symm.trans hf) |>.symm
      obtain rfl : fn = Tryz.f4 := (Option.some.inj (Tryz.func4.symm.trans hfn)).symm
      exact ⟨by kernel_rfl, fun j t ht => by
        rw [Tryz.params4] at ht
        have hm : t ∈ [63] := by simpa using Array.mem_of_getElem? ht
        have hall : ([63].all fun u => !Tryz.prog.wantsStandIn u) = true := by kernel_rfl
        exact (show Tryz.prog.wantsStandIn t = false by simpa using List.all_eq_true.1 hall t hm)⟩)
    (by kernel_rfl)
#print axioms StoreTold_holds
end Go.Proofs.YtpaelngpmbeedaaGreatDoor
