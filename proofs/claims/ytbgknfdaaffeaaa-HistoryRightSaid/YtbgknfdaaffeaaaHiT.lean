/- History: the statement's two. -/
import Derived.Test.YtbgknfdaaffeaaaHiE
import Derived.Test.YtbgknfdaaffeaaaStLit
namespace Go.Proofs.Ytbgknfdaaffeaaa
open Go.RowKit Go.Shelf

def twoM (b : List Int) : List SecH := [⟨1, [⟨0, [97]⟩, ⟨0, [98]⟩], 1, []⟩, ⟨2, [], 0, [⟨0, 0, b⟩]⟩]
set_option maxHeartbeats 2000000 in
set_option maxRecDepth 100000 in
theorem two_st {M0 : Imm} {L : List Res} (B : Option Addr) (m d : Nat) (b : List Int) (w : World) (h : St M0 w (intsR .u8 (.slice B m d) b :: L)) :
    Calls Try.prog 69 #[.slice B m d] w fun e w' => ∃ (O : Option Addr) (c : Nat) (l : List SecX), e = .returned (.slice O 2 c) ∧ l.map SecX.s = twoM b ∧ l.length = 2 ∧ St M0 w' (rowsR 4 SecXR (.slice O 2 c) l :: L) := by
  have h2 := (h.litInts 5 .u8 [97] (by decide) w.heap.size rfl).litInts 5 .u8 [98] (by decide) (w.heap.size + 1) (by simp)
  have h3 := (h2.swap.pers2 (Q := fun w' => ∀ p ∈ [([Value.int .i64 0, .slice (some ⟨w.heap.size, 0, none⟩) 1 1], (⟨0, [97]⟩ : PutH)), ([Value.int .i64 0, .slice (some ⟨w.heap.size + 1, 0, none⟩) 1 1], ⟨0, [98]⟩)], PutHR w' p.1 p.2) (fun w' h1 h2 p hp => by
    simp only [List.mem_cons, List.not_mem_nil, or_false] at hp
    rcases hp with rfl | rfl
    · exact ⟨_, rfl, h1⟩
    · exact ⟨_, rfl, h2⟩)).litFlat (size := 2) (R := PutHR) _ 122 (by intro p hp; simp only [List.mem_cons, List.not_mem_nil, or_false] at hp; rcases hp with rfl | rfl <;> rfl) (by simp) (w.heap.size + 1 + 1) (by simp)
  obtain ⟨pcs, h4⟩ := h3.openRows
  have h5 := ((h4.junk (.cells #[.int .u64 1, .slice (some ⟨w.heap.size + 1 + 1, 0, none⟩) 2 2, .int .i64 1, .slice none 0 0] 37)).swap.pers1 (R' := fun w' => ∀ p ∈ [([Value.int .i64 0, .int .i64 0, .slice B m d], (⟨0, 0, b⟩ : LookH))], LookHR w' p.1 p.2) (fun w' h1 p hp => by
    simp only [List.mem_cons, List.not_mem_nil, or_false] at hp
    rcases hp with rfl
    exact ⟨_, rfl, h1⟩)).litFlat (size := 3) (R := LookHR) _ 124 (by intro p hp; simp only [List.mem_cons, List.not_mem_nil, or_false] at hp; rcases hp with rfl; rfl) (by simp) (w.heap.size + 1 + 1 + 1 + 1) (by simp)
  obtain ⟨kcs, h6⟩ := h5.openRows
  have h7 := (h6.pers2 (Q := fun w' => ∀ p ∈ [([Value.int .u64 1, .slice (some ⟨w.heap.size + 1 + 1, 0, none⟩) 2 2, .int .i64 1, .slice none 0 0], (⟨⟨1, [⟨0, [97]⟩, ⟨0, [98]⟩], 1, []⟩, some ⟨w.heap.size + 1 + 1, 0, none⟩, 2, pcs, none, 0, fun _ => []⟩ : SecX)), ([Value.int .u64 2, .slice none 0 0, .int .i64 0, .slice (some ⟨w.heap.size + 1 + 1 + 1 + 1, 0, none⟩) 1 1], (⟨⟨2, [], 0, [⟨0, 0, b⟩]⟩, none, 0, fun _ => [], some ⟨w.heap.size + 1 + 1 + 1 + 1, 0, none⟩, 1, kcs⟩ : SecX))], SecXR w' p.1 p.2) (fun w' h1 h2 p hp => by
    simp only [List.mem_cons, List.not_mem_nil, or_false] at hp
    rcases hp with rfl | rfl
    · exact ⟨rfl, h2, RowsC.none_ _ _ _ _⟩
    · exact ⟨rfl, RowsC.none_ _ _ _ _, h1⟩)).litFlat (size := 4) (R := SecXR) _ 37 (by intro p hp; simp only [List.mem_cons, List.not_mem_nil, or_false] at hp; rcases hp with rfl | rfl <;> rfl) (by simp) (w.heap.size + 1 + 1 + 1 + 1 + 1) (by simp)
  have H := hide h7
  clear h h2 h3 h4 h5 h6 h7
  go_enter Try.func69, Try.ntmps69
  go_wp2_with fail
  go_ret
  exact ⟨_, _, rfl, _, rfl, rfl, H.out⟩
end Go.Proofs.Ytbgknfdaaffeaaa
