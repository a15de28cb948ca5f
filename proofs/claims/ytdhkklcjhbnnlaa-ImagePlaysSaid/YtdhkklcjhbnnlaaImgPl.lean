/- ImagePlays: the law's walk. Printed by gen_imgpl.py. -/
import Derived.Test.YtdhkklcjhbnnlaaImgL
import Derived.Test.YtdhkklcjhbnnlaaImgS
import Derived.Test.YtdhkklcjhbnnlaaImgD
import Derived.Test.YtdhkklcjhbnnlaaRimS
namespace Go.Proofs.Ytdhkklcjhbnnlaa
open Go.RowKit

set_option maxRecDepth 100000 in
set_option maxHeartbeats 4000000 in
theorem playsI_st {M0 : Imm} {L : List Res} (v : Value) (l : List RQ) (w : World) (h : St M0 w (rowsR 6 ReqR v l :: L)) :
    Calls Try.prog 13 #[v] w fun e w' => e = .returned (.bool true) ∧ St M0 w' L := by
  obtain ⟨A, c, rfl, hc, hm⟩ := (h.getRows 0 rfl).slice
  have hok : ∀ x ∈ l, x.ok := fun x hx => by
    obtain ⟨k, hk⟩ := List.mem_iff_getElem?.1 hx
    obtain ⟨_, _, _, _, h1, _⟩ := h.req 0 rfl hk
    exact h1
  generalize hn : l.length = n at *
  have HN := hide hn
  have HK := hide hok
  have H := hide h
  clear hn h hok
  by_cases t0 : 80 < n
  · have dt0 : decide ((80 : Int) < (n : Int)) = true := decide_eq_true (by omega)
    go_enter Try.func13, Try.ntmps13
    go_wp2_with fail
    refine (awake_st _ H.out).mono ?_
    rintro e w1 ⟨rfl, h⟩
    have H1 := hide h
    clear H h
    go_wp2_with fail
    go_ret
    exact ⟨rfl, H1.out.tail.grow (((Fr.refl _ _).alloc _).alloc _)⟩
  have dt0 : decide ((80 : Int) < (n : Int)) = false := decide_eq_false (by omega)
  clear t0
  go_enter Try.func13, Try.ntmps13
  go_wp2_with fail
  refine (awake_st _ H.out).mono ?_
  rintro e w1 ⟨rfl, h⟩
  have H1 := hide h
  clear H h
  go_wp2_with fail
  have h2 := H1.out.newImg.newRim
  simp only [World.size_alloc] at h2
  have H2 := hide h2.swap
  clear H1 h2 dt0
  generalize w1.heap.size = g at *
  go_loopg [6] n (fun gh i wr => ∃ (k : Nat), gh = n - k ∧ k ≤ n ∧ i = .int .i64 (k : Nat) ∧ St M0 wr (imgR g (runI (l.take k)) :: rimR (g + 1) (runI (l.take k)) :: rowsR 6 ReqR (.slice A n c) l :: L))
  case atStart => exact ⟨0, rfl, by omega, rfl, H2.out⟩
  case round =>
    clear H2
    obtain ⟨k, hg, hk, rfl, h⟩ := hrel
    have HG := hide hg
    clear hg
    have hrun := run_ok HK.out k
    by_cases hlt : k < n
    · have hx := List.getElem?_eq_getElem (l := l) (i := k) (by rw [HN.out]; exact hlt)
      generalize l[k]'(by rw [HN.out]; exact hlt) = x at hx
      have hsn := runI_snoc hx
      obtain ⟨ad, B1, d1, rfl, hxo, h1⟩ := h.req 2 rfl hx
      obtain ⟨e0, e1, e2, e3, e4, e5⟩ := cells6 (h1.get 0 rfl).1
      generalize runI (l.take k) = m at *
      have HS := hide hsn
      have HR := hide hrun
      have HR2 := hide (doM_ok hrun hxo)
      generalize hnx : x.data.length = nx at *
      have HNX := hide hnx
      have H1 := hide (h1.pick (L' := imgR g m :: persR (fun w' => (∀ j u, [Value.int .i64 x.op, .int .i64 x.region, .int .i64 x.index, .int .u64 x.token, .int .u32 x.seq, .slice B1 nx d1][j]? = some u → w'.cell? ((ad.add (k * 6)).add j) = some u) ∧ Ints w' .u8 (.slice B1 nx d1) x.data) :: rimR (g + 1) m :: rowsR 6 ReqR (.slice (some ad) n c) l :: L) 4 [1, 0, 2, 3])
      clear hx hsn h h1 hrun hnx
      have i0 : (0 : Int) ≤ (k : Int) := by omega
      have i1 : (k : Int) < (n : Int) := by omega
      go_wp2_with fail
      refine (check_st g m x B1 nx d1 _ hxo HR.out HNX.out.symm H1.out).mono ?_
      rintro e w2 ⟨rfl, h⟩
      obtain ⟨e0, e1, e2, e3, e4, e5⟩ := cells6 (h.get 1 rfl).1
      have H2 := hide (h.pick (L' := rimR (g + 1) m :: persR (fun w' => (∀ j u, [Value.int .i64 x.op, .int .i64 x.region, .int .i64 x.index, .int .u64 x.token, .int .u32 x.seq, .slice B1 nx d1][j]? = some u → w'.cell? ((ad.add (k * 6)).add j) = some u) ∧ Ints w' .u8 (.slice B1 nx d1) x.data) :: imgR g m :: rowsR 6 ReqR (.slice (some ad) n c) l :: L) 4 [2, 1, 0, 3])
      clear H1 h
      go_wp2_with fail
      refine (doc_any x B1 nx d1 _).mono ?_
      rintro e w3 ⟨rfl, hf⟩
      have H3 := hide (H2.out.grow hf)
      clear H2 hf e0 e1 e2 e3 e4 e5
      go_wp2_with fail
      refine (rcheck_st (g + 1) m x B1 nx d1 _ hxo HR.out HNX.out.symm H3.out).mono ?_
      rintro e w4 ⟨rfl, h⟩
      obtain ⟨e0, e1, e2, e3, e4, e5⟩ := cells6 (h.get 1 rfl).1
      have h5 := (h.copy 1 rfl).pers1 (R' := fun w' => Ints w' .u8 (.slice B1 nx d1) x.data) (fun w' hr => hr.2)
      have H4 := hide (h5.pick (L' := intsR .u8 (.slice B1 nx d1) x.data :: imgR g m :: rimR (g + 1) m :: persR (fun w' => (∀ j u, [Value.int .i64 x.op, .int .i64 x.region, .int .i64 x.index, .int .u64 x.token, .int .u32 x.seq, .slice B1 nx d1][j]? = some u → w'.cell? ((ad.add (k * 6)).add j) = some u) ∧ Ints w' .u8 (.slice B1 nx d1) x.data) :: rowsR 6 ReqR (.slice (some ad) n c) l :: L) 5 [0, 3, 1, 2, 4])
      clear H3 h h5
      go_wp2_with fail
      refine (do_st g m x B1 nx d1 _ hxo HR.out H4.out).mono ?_
      rintro e w5 ⟨V, rfl, h⟩
      obtain ⟨e0, e1, e2, e3, e4, e5⟩ := cells6 (h.get 3 rfl).1
      have H5 := hide h
      clear H4 h
      go_wp2_with fail
      refine (doc_any x B1 nx d1 _).mono ?_
      rintro e w6 ⟨rfl, hf⟩
      have h6 := ((H5.out.grow hf).copy 3 rfl).pers1 (R' := fun w' => Ints w' .u8 (.slice B1 nx d1) x.data) (fun w' hr => hr.2)
      have H6 := hide (h6.pick (L' := intsR .u8 (.slice B1 nx d1) x.data :: rimR (g + 1) m :: rowsR 1 LogR V (doO m x) :: imgR g (doM m x) :: rowsR 6 ReqR (.slice (some ad) n c) l :: L) 6 [0, 3, 1, 2, 5])
      clear H5 hf h6 e0 e1 e2 e3 e4 e5
      go_wp2_with fail
      refine (rdo_st (g + 1) m x B1 nx d1 _ hxo HR.out H6.out).mono ?_
      rintro e w7 ⟨U, rfl, h⟩
      have H7 := hide h
      clear H6 h
      generalize (checkI m x).1 = a at *
      generalize (checkI m x).2 = z at *
      have ha : (a != a) = false := by simp
      have ha2 : decide (a = a) = true := by simp
      have hz : (z != z) = false := by simp
      go_wp2_with fail
      refine (sames_true V U (doO m x) _ (H7.out.getRows 2 rfl) (H7.out.getRows 0 rfl) H7.out).mono ?_
      rintro e w8 ⟨rfl, h⟩
      have H8 := hide (h.pick (L' := imgR g (doM m x) :: rimR (g + 1) (doM m x) :: rowsR 6 ReqR (.slice (some ad) n c) l :: L) 5 [3, 1, 4])
      clear H7 h
      go_wp2_with fail
      refine (sameI_st g (g + 1) (doM m x) _ HR2.out H8.out).mono ?_
      rintro e w9 ⟨rfl, h⟩
      have H9 := hide h
      clear H8 h
      go_wp2_with fail
      go_roundg (n - (k + 1))
      case measure => have := HG.out; omega
      case rel => exact ⟨k + 1, rfl, by omega, by go_num, by rw [HS.out]; exact H9.out⟩
    · obtain rfl : k = n := by omega
      have H := hide h
      clear h hrun
      go_wp2_with fail
      go_ret
      exact ⟨rfl, H.out.tail.tail.tail⟩

end Go.Proofs.Ytdhkklcjhbnnlaa
