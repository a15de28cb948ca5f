/- How a disk lies in memory; the methods that only ask. -/
import Derived.Test.YthddgnnbgldfmaaDiskA
namespace Go.Proofs.Ythddgnnbgldfmaa
open Go.RowKit

theorem DiskIn.set43 {w : World} {g : Nat} {D : DS} {F : Nat → Prop} {b1 c1 b2 c2 c3 : Nat} {A : Option Addr} (h : DiskIn w g D F b1 c1 b2 c2 A c3) (dn : Bool) (x : Int) :
    DiskIn (((w.setCell ⟨g, 4, none⟩ (.bool dn)).drew).setCell ⟨g, 3, none⟩ (.int .i64 x)) g { D with down := dn, fuse := x } F b1 c1 b2 c2 A c3 := by
  have hf : Fr (· = g) w (((w.setCell ⟨g, 4, none⟩ (.bool dn)).drew).setCell ⟨g, 3, none⟩ (.int .i64 x)) :=
    Fr.setCell (S := (· = g)) (p := ⟨g, 3, none⟩) (Fr.drew (Fr.setCell (S := (· = g)) (p := ⟨g, 4, none⟩) (Fr.refl _ _) (fun _ => rfl) _)) (fun _ => rfl) _
  exact ⟨((h.blk.set_ 4 _).drew).set_ 3 _, own_fr1 h.seen hf (fun e => h.ne1 e.symm), own_fr1 h.sure hf (fun e => h.ne2 e.symm), own_fr h.pend hf (fun b hb => (h.ne3 b hb).1), h.ne, h.fg, h.f1, h.f2, h.f3,
    fun b hb => Nat.lt_of_lt_of_le (h.lt b hb) hf.size⟩

set_option maxHeartbeats 400000 in
theorem done_core (g : Nat) (dn : Bool) (x : Int) (w : World) (hl : -9223372036854775808 ≤ x) (hu : x ≤ 9223372036854775807)
    (h3 : w.cell? ⟨g, 3, none⟩ = some (.int .i64 x)) (h4 : w.cell? ⟨g, 4, none⟩ = some (.bool dn)) (f3 : w.frozen? ⟨g, 3, none⟩ = false) (f4 : w.frozen? ⟨g, 4, none⟩ = false) :
    Calls Try.prog 46 #[.pointer (some ⟨g, 0, none⟩)] w fun e w' => e = .returned (.bool (!(dn || x == 0))) ∧
      w' = ((w.setCell ⟨g, 4, none⟩ (.bool (dn || x == 0))).drew).setCell ⟨g, 3, none⟩ (.int .i64 (if 0 < x then x - 1 else x)) := by
  have hc : (0 < x) ∨ x = 0 ∨ x < 0 := by omega
  rcases hc with hc | rfl | hc
  all_goals cases dn
  all_goals
    first
    | have hn := isF (Int.ne_of_gt hc); rw [if_pos hc]
    | have hn := isF (Int.ne_of_lt hc); rw [if_neg (by omega)]
    | rw [if_neg (by omega)]
    try simp only [hn, Bool.true_or, Bool.false_or, Bool.not_true, Bool.not_false]
  all_goals
    go_enter Try.func46, Try.ntmps46
    go_wp2
    refine region_tail 13 (by kernel_rfl) (by kernel_rfl) (fun W hW => ?_)
    have k3 : W.cell? ⟨g, 3, none⟩ = w.cell? ⟨g, 3, none⟩ := by rw [hW, drew_cell, World.cell?_setCell_other _ _ _ _ (by simp)]
    rw [h3] at k3
    have k4 := congrArg (fun z : World => z.cell? ⟨g, 4, none⟩) hW
    simp only [drew_cell, World.cell?_setCell_same _ _ _ h4] at k4
    have j3 : W.frozen? ⟨g, 3, none⟩ = false := by rw [hW, drew_frozen, World.frozen?_setCell]; exact f3
    have HW := hide hW
    clear hW h3 h4 f3 f4
    simp only [List.take_succ_cons, List.take_zero, List.drop_succ_cons, List.drop_zero]
    repeat still_step
    try refine wpStill_nil ?_
    go_wp2
    go_ret
    exact ⟨rfl, by rw [HW.out]; rfl⟩

theorem done_any (g : Nat) (D : DS) (F : Nat → Prop) (w : World) (ho : D.ok) (hb : DiskAt w g D F) :
    Calls Try.prog 46 #[.pointer (some ⟨g, 0, none⟩)] w fun e w' => e = .returned (.bool D.goes) ∧ Fr (· = g) w w' ∧ w'.heap.size = w.heap.size ∧ DiskAt w' g D.after F := by
  obtain ⟨b1, c1, b2, c2, A, c3, h⟩ := hb
  have h3 : w.cell? ⟨g, 3, none⟩ = some (.int .i64 D.fuse) := (h.blk.cell 3).trans rfl
  have h4 : w.cell? ⟨g, 4, none⟩ = some (.bool D.down) := (h.blk.cell 4).trans rfl
  refine (done_core g D.down D.fuse w ho.f1 ho.f2 h3 h4 (h.blk.frozen 3) (h.blk.frozen 4)).mono fun e w' ⟨he, hw⟩ => ⟨he, ?_, ?_, b1, c1, b2, c2, A, c3, ?_⟩
  · rw [hw]
    exact Fr.setCell (S := (· = g)) (p := ⟨g, 3, none⟩) (Fr.drew (Fr.setCell (S := (· = g)) (p := ⟨g, 4, none⟩) (Fr.refl _ _) (fun _ => rfl) _)) (fun _ => rfl) _
  · rw [hw]; simp [World.setCell]
  · rw [hw]; exact h.set43 _ _

end Go.Proofs.Ythddgnnbgldfmaa
