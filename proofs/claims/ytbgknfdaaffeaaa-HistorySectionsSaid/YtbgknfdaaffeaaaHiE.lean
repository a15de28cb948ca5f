/- History: Explain. -/
import Derived.Test.YtbgknfdaaffeaaaHiX
namespace Go.Proofs.Ytbgknfdaaffeaaa
open Go.RowKit Go.Shelf

def badH (s : SecH) : Bool := decide (s.s < 0) || decide ((s.p.length : Int) < s.s)
def explM (l : List SecH) : Option (List Nat) := if l.any badH = true then none else explB l noB
structure SecFine (x : SecX) : Prop where
  ok : SecOk x.s
theorem expl_all (M0 : Imm) : ∀ (l : List SecX), l.length ≤ 100 → (∀ x ∈ l, SecFit x) → ExplOk M0 l
  | [], _, _ => expl_nil M0
  | x :: r, h, hf => expl_cons M0 x r (by simp at h; omega) (hf x (by simp)) (expl_all M0 r (by simp at h; omega) (fun y hy => hf y (by simp [hy])))
set_option maxHeartbeats 1000000 in
theorem cloE_st {M0 : Imm} {L : List Res} (x : SecX) (w : World) (h : St M0 w L) :
    Calls Try.prog 71 (#[.agg #[.int .u64 x.s.t, .slice x.pA x.s.p.length x.pc, .int .i64 x.s.s, .slice x.kA x.s.k.length x.kc]] ++ #[]) w fun e w' => e = .returned (.bool (badH x.s)) ∧ St M0 w' L := by
  have h1 := h.alloc 37 #[.int .u64 x.s.t, .slice x.pA x.s.p.length x.pc, .int .i64 x.s.s, .slice x.kA x.s.k.length x.kc]
  have q1 := (h1.blk 0 rfl).cell 1
  have q2 := (h1.blk 0 rfl).cell 2
  have H := hide h1
  clear h h1
  obtain ⟨d1, hd1⟩ : ∃ d1, decide (x.s.s < 0) = d1 := ⟨_, rfl⟩
  obtain ⟨d2, hd2⟩ : ∃ d2, decide ((x.s.p.length : Int) < x.s.s) = d2 := ⟨_, rfl⟩
  have HB := hide (show badH x.s = (d1 || d2) by unfold badH; rw [hd1, hd2])
  generalize hm : x.s.p.length = m at *
  clear hm
  go_enter Try.func71, Try.ntmps71
  cases d1 <;> cases d2
  all_goals (go_wp2_with fail; go_ret; exact ⟨by rw [HB.out]; try rfl, H.out.tail⟩)
set_option maxHeartbeats 1000000 in
set_option maxRecDepth 100000 in
theorem explain_st {M0 : Imm} {L : List Res} (A : Option Addr) (n c : Nat) (l : List SecX) (w : World) (hl : l.length ≤ 100) (hok : ∀ x ∈ l, SecOk x.s) (h : St M0 w (rowsR 4 SecXR (.slice A n c) l :: L)) :
    Calls Try.prog 16 #[.slice A n c] w fun e w' => ∃ v, e = .returned (.tuple #[v, .bool (explM (l.map SecX.s)).isSome]) ∧ St M0 w' (intsR .i64 v (keptE (explM (l.map SecX.s))) :: L) := by
  have H := hide h
  clear h
  go_enter Try.func16, Try.ntmps16
  go_wp2_with fail
  refine (conSec_st 71 #[] (fun x => badH x.s) l A n c w (enters_of Try.func71 (by kernel_rfl) rfl) (by (repeat (first | with_reducible exact At.here | with_reducible apply At.there))) (fun x W _ hW => cloE_st x W hW) H.out).mono ?_
  rintro e w2 ⟨rfl, h⟩
  cases hb : l.any (fun x => badH x.s) with
  | true =>
    have E := hide (show explM (l.map SecX.s) = none by unfold explM; rw [List.any_map, if_pos (by exact hb)])
    have H := hide h.tail
    clear h hb
    go_wp2_with fail
    go_ret2
    exact ⟨_, by rw [E.out]; try rfl, by rw [E.out]; exact H.out.pers0 (fun w' _ => Ints.none_ w' _)⟩
  | false =>
    have E := hide (show explM (l.map SecX.s) = explB (l.map SecX.s) noB by unfold explM; rw [List.any_map, if_neg (by rw [show (badH ∘ SecX.s) = (fun x => badH x.s) from rfl, hb]; exact Bool.false_ne_true)])
    have HF := hide (expl_all M0 l hl (fun x hx => by
      have h0 := List.any_eq_false.1 hb x hx
      simp only [badH, Bool.or_eq_true, decide_eq_true_eq, not_or, Int.not_lt] at h0
      exact ⟨hok x hx, h0.1, h0.2⟩))
    have H := hide ((h.pers0 (R := fun w => ∀ j, j < 4 → Ints w .u8 (.slice none 0 0) (noB j)) (fun w' _ j _ => Ints.none_ w' _)).swap)
    clear h hb hok
    go_wp2_with fail
    refine (HF.out L A n c (fun _ => ⟨none, 0, 0⟩) noB _ (fun j x hx => by simp [noB] at hx) H.out).mono ?_
    rintro e w3 ⟨v, rfl, h3⟩
    rw [← E.out] at h3 ⊢
    obtain ⟨q, hq⟩ : ∃ q, q = explM (l.map SecX.s) := ⟨_, rfl⟩
    rw [← hq] at h3 ⊢
    have H3 := hide h3
    have HQ := hide hq
    clear h3 hq
    go_wp2_with fail
    go_ret2
    exact ⟨_, by rw [← HQ.out]; try rfl, by rw [← HQ.out]; exact H3.out⟩
end Go.Proofs.Ytbgknfdaaffeaaa
