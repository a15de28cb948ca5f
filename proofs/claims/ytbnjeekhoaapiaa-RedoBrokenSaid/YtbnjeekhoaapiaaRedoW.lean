/- Redo: writes. -/
import Derived.Test.YtbnjeekhoaapiaaRedoAd
import Derived.Deep.LoopGhost
namespace Go.Proofs.Ytbnjeekhoaapiaa
open Go.RowKit

def wQ (region token seq : Int) (i : Nat) (p : PU) : RQ := ⟨2, region, p.index, token, IntKind.u32.wrap (seq + i), p.data⟩
def wl (f : Nat → PU → RQ) : Nat → List PU → List RQ
  | _, [] => []
  | i, p :: r => f i p :: wl f (i + 1) r
theorem wl_snoc (f : Nat → PU → RQ) (l : List PU) (x : PU) : ∀ i, wl f i (l ++ [x]) = wl f i l ++ [f (i + l.length) x] := by
  induction l with
  | nil => intro i; rfl
  | cons p r ih =>
    intro i
    show f i p :: wl f (i + 1) (r ++ [x]) = f i p :: wl f (i + 1) r ++ _
    rw [ih, List.cons_append, List.length_cons, show i + 1 + r.length = i + (r.length + 1) by omega]
theorem wl_length (f : Nat → PU → RQ) (l : List PU) : ∀ i, (wl f i l).length = l.length := by
  induction l with
  | nil => intro i; rfl
  | cons p r ih => intro i; show (wl f (i + 1) r).length + 1 = _; rw [ih]; rfl
def wAll (region token seq : Int) (l : List PU) : List RQ := wl (wQ region token seq) 0 l ++ if 0 < l.length then [⟨5, region, l.length, token, IntKind.u32.wrap (seq + l.length), []⟩] else []
def wSeq (seq : Int) (l : List PU) : Int := if 0 < l.length then IntKind.u32.wrap (seq + l.length + 1) else seq
theorem wrap_next (seq : Int) (k : Nat) : IntKind.u32.wrap (IntKind.u32.wrap (seq + k) + 1) = IntKind.u32.wrap (seq + (k + 1 : Nat)) := by
  simp only [IntKind.wrap_u32]
  omega

set_option maxHeartbeats 2000000 in
set_option maxRecDepth 100000 in
theorem writes_st {M0 : Imm} {L : List Res} (g : Nat) (region token seq : Int) (reqs : List RQ) (l : List PU) (A : Option Addr) (n c : Nat) (w : World) (hs : 0 ≤ seq ∧ seq ≤ 4294967295) (hl : reqs.length + l.length ≤ 100000) (hd : ∀ x ∈ l, x.data.length ≤ 23)
    (h : St M0 w (rowsR 3 PutR (.slice A n c) l :: planR g region token seq reqs :: L)) :
    Calls Try.prog 65 #[.pointer (some ⟨g, 0, none⟩), .slice A n c] w fun e w' => e = .returned (.tuple #[]) ∧ St M0 w' (planR g region token (wSeq seq l) (reqs ++ wAll region token seq l) :: L) := by
  obtain ⟨A', c', e, hc, hm⟩ := (h.getRows 0 rfl).slice
  injection e with e1 e2 e3
  subst e1; subst e3
  have HN := hide e2
  have hn : n ≤ 100000 := by omega
  have H := hide h.swap
  have HL := hide hl
  have HS := hide hs
  have HD := hide hd
  have hA := hide (show wAll region token seq l = wl (wQ region token seq) 0 l ++ if 0 < l.length then [⟨5, region, l.length, token, IntKind.u32.wrap (seq + l.length), []⟩] else [] from rfl)
  have hQ := hide (show wSeq seq l = if 0 < l.length then IntKind.u32.wrap (seq + l.length + 1) else seq from rfl)
  clear h e2 hl hs hd
  go_enter Try.func65, Try.ntmps65
  go_wp2_with fail
  go_loopg [8] n (fun gh i wr => ∃ k : Nat, gh = n - k ∧ k ≤ n ∧ i = .int .i64 (k : Nat) ∧ St M0 wr (planR g region token (IntKind.u32.wrap (seq + k)) (reqs ++ wl (wQ region token seq) 0 (l.take k)) :: rowsR 3 PutR (.slice A n c) l :: L))
  case atStart => exact ⟨0, rfl, by omega, rfl, by rw [show IntKind.u32.wrap (seq + (0 : Nat)) = seq by rw [Int.natCast_zero, Int.add_zero]; exact IntWalk.u32_in _ HS.out]; simpa [wl] using H.out⟩
  case round =>
    clear H
    obtain ⟨k, hg, hk, rfl, h⟩ := hrel
    have HG := hide hg
    clear hg
    by_cases hlt : k < n
    · have hx := List.getElem?_eq_getElem (l := l) (i := k) (by rw [← HN.out]; exact hlt)
      generalize l[k]'(by rw [← HN.out]; exact hlt) = x at hx
      have hdx := HD.out x (List.mem_of_getElem? hx)
      have ht : l.take (k + 1) = l.take k ++ [x] := by rw [List.take_add_one, hx]; rfl
      have hw : reqs ++ wl (wQ region token seq) 0 (l.take (k + 1)) = reqs ++ wl (wQ region token seq) 0 (l.take k) ++ [⟨2, region, x.index, token, IntKind.u32.wrap (seq + k), x.data⟩] := by
        rw [ht, wl_snoc, List.append_assoc, List.length_take, show min k l.length = k by rw [← HN.out]; omega, Nat.zero_add]
        rfl
      have hlen : (reqs ++ wl (wQ region token seq) 0 (l.take k)).length ≤ 1000000 := by
        rw [List.length_append, wl_length, List.length_take]
        have := HL.out
        omega
      obtain ⟨ad, cs, rfl, _, hcs, ⟨v, rfl, hv⟩, h1⟩ := h.elem 1 rfl hx
      obtain ⟨B, d, rfl, _, _, _⟩ := id hv
      obtain ⟨e0, e1, e2⟩ := cells3 hcs
      have HW := hide hw
      have HLEN := hide hlen
      have H1 := hide (((h1.pers1 (R' := fun w' => Ints w' .u8 (.slice B x.data.length d) x.data) (fun w' hr => by obtain ⟨v, e, hi⟩ := hr.2; injection e with _ e; injection e with _ e; injection e with e; subst e; exact hi)).alloc 62 #[.int .i64 x.region, .int .i64 x.index, .slice B x.data.length d]))
      clear hx h h1 hv hcs ht hw hlen
      have i0 : (0 : Int) ≤ (k : Int) := by omega
      have i1 : (k : Int) < (n : Int) := by omega
      generalize reqs ++ wl (wQ region token seq) 0 (l.take k) = rk at *
      go_wp2_with fail
      refine region_mix (fun W => Blk W wr.heap.size 62 #[.int .i64 x.region, .int .i64 x.index, .slice B x.data.length d]) 8 [0, 1, 2, 3, 4, 5] [6, 7] (by kernel_rfl) (by kernel_rfl) (fun d => by cases d <;> exact fun _ _ _ _ h => h) (fun W hW => ?_)
      have hS := hide (show St M0 W (blkR wr.heap.size 62 #[.int .i64 x.region, .int .i64 x.index, .slice B x.data.length d] :: intsR .u8 (.slice B x.data.length d) x.data :: planR g region token (IntKind.u32.wrap (seq + k)) rk :: rowsR 3 PutR (.slice (some ad) n c) l :: L) by
        rw [hW]
        exact H1.out.drew)
      clear hW H1 e0 e1 e2
      refine ⟨hS.out.blk 0 rfl, ?_⟩
      iterate 6 (refine take_run rfl rfl (fun W hW => by (have x0 := hW.cell 0; have x1 := hW.cell 1; have x2 := hW.cell 2; clear hW; go_simp; try rfl)) ?_; (simp only [Act.put, List.setIfInBounds_toArray, List.set_cons_succ, List.set_cons_zero]))
      refine take_nil ?_
      obtain ⟨_, hd1, hd2, hsl⟩ := (hS.out.get 1 rfl).sl
      refine seq_call (f := 67) (args := #[.slice B x.data.length d]) rfl rfl (by go_simp; try rfl) ((clone_st B x.data.length d x.data _ hsl ?_ hS.out).mono ?_)
      · omega
      rintro e w2 ⟨v2, rfl, h⟩
      obtain ⟨A2, c2, rfl⟩ := h.slice
      refine ⟨_, rfl, fun _ => h.blk 1 rfl, ?_⟩
      (simp only [Act.put, List.setIfInBounds_toArray, List.set_cons_succ, List.set_cons_zero])
      have h2 := h.ints.pick (L' := intsR .u8 (.slice A2 x.data.length c2) x.data :: planR g region token (IntKind.u32.wrap (seq + k)) rk :: blkR wr.heap.size 62 #[.int .i64 x.region, .int .i64 x.index, .slice B x.data.length d] :: rowsR 3 PutR (.slice (some ad) n c) l :: L) 5 [0, 3, 1, 4]
      clear h hS hsl
      refine seq_call (f := 64) (args := #[.pointer (some ⟨g, 0, none⟩), .int .i64 2, .int .i64 x.index, .slice A2 x.data.length c2]) rfl rfl (by go_simp; try rfl) ((add_st g region token _ 2 x.index rk A2 x.data.length c2 x.data _ HLEN.out h2).mono ?_)
      rintro e w3 ⟨rfl, h⟩
      refine ⟨_, rfl, fun _ => h.blk 1 rfl, ?_⟩
      have h3 := h.pick (L' := planR g region token (IntKind.u32.wrap (IntKind.u32.wrap (seq + k) + 1)) (rk ++ [⟨2, region, x.index, token, IntKind.u32.wrap (seq + k), x.data⟩]) :: rowsR 3 PutR (.slice (some ad) n c) l :: L) 3 [0, 2]
      rw [wrap_next] at h3
      have H3 := hide h3
      clear h h2 h3
      simp only [Act.put]
      refine seq_nil ?_
      go_wp2_with fail
      go_roundg (n - (k + 1))
      case measure => have := HG.out; omega
      case rel => exact ⟨k + 1, rfl, by omega, by go_num, by rw [HW.out]; exact H3.out⟩
    · obtain rfl : k = n := by omega
      have hlen : (reqs ++ wl (wQ region token seq) 0 l).length ≤ 1000000 := by
        rw [List.length_append, wl_length]
        have := HL.out
        omega
      have htk : l.take k = l := List.take_of_length_le (by rw [← HN.out]; exact Nat.le_refl _)
      rw [htk] at h
      by_cases h0 : 0 < k
      · have d0 : decide ((0 : Int) < (k : Int)) = true := decide_eq_true (by omega)
        have H := hide (h.pick (L' := planR g region token (IntKind.u32.wrap (seq + k)) (reqs ++ wl (wQ region token seq) 0 l) :: L) 2 [0])
        have HLEN := hide hlen
        clear h htk hlen
        go_wp2_with fail
        refine (add_st g region token _ 5 k _ none 0 0 [] _ HLEN.out (H.out.pers0 (fun w' _ => Ints.none_ w' _))).mono ?_
        rintro e w3 ⟨rfl, h⟩
        have H3 := hide h
        clear H h
        go_wp2_with fail
        go_end0
        refine ⟨rfl, ?_⟩
        rw [hQ.out, hA.out, if_pos (by rw [← HN.out]; exact h0), if_pos (by rw [← HN.out]; exact h0), ← List.append_assoc, ← HN.out]
        have h4 := H3.out
        rw [wrap_next] at h4
        rw [show seq + (k : Int) + 1 = seq + ((k + 1 : Nat) : Int) by omega]
        exact h4
      · have d0 : decide ((0 : Int) < (k : Int)) = false := decide_eq_false (by omega)
        obtain rfl : k = 0 := by omega
        have H := hide (h.pick (L' := planR g region token (IntKind.u32.wrap (seq + (0 : Nat))) (reqs ++ wl (wQ region token seq) 0 l) :: L) 2 [0])
        clear h htk hlen
        go_wp2_with fail
        go_end0
        refine ⟨rfl, ?_⟩
        rw [hQ.out, hA.out, if_neg (by rw [← HN.out]; omega), if_neg (by rw [← HN.out]; omega), List.append_nil]
        have h4 := H.out
        rw [show IntKind.u32.wrap (seq + (0 : Nat)) = seq by rw [Int.natCast_zero, Int.add_zero]; exact IntWalk.u32_in _ HS.out] at h4
        exact h4
end Go.Proofs.Ytbnjeekhoaapiaa
