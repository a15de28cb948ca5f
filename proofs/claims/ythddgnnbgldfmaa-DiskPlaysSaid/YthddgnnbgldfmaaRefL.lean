/- The law's comparing of the two disks. -/
import Derived.Test.YthddgnnbgldfmaaRefS
import Derived.Test.YthddgnnbgldfmaaDiskFuse
namespace Go.Proofs.Ythddgnnbgldfmaa
open Go.RowKit

theorem Ints.nums {w : World} {k : IntKind} {v : Value} {xs : List Int} (h : Ints w k v xs) (hl : xs.length ≤ 140737488355328) : Nums w Any k v xs := by
  obtain ⟨A, c, e, _, _, hs⟩ := h
  exact ⟨A, c, e, hl, hs⟩
theorem new_no_ds {M0 : Imm} {L : List Res} (n : Int) (w : World) (hn : n < 1 ∨ 512 < n) (h : St M0 w L) :
    Calls Try.prog 32 #[.int .i64 n] w fun e w' => e = .returned (.tuple #[.pointer none, .int .i64 1]) ∧ St M0 w' L := by
  refine (new_no n w hn).mono ?_
  rintro e w' ⟨he, rfl⟩
  exact ⟨he, h⟩

set_option maxRecDepth 100000 in
set_option maxHeartbeats 1000000 in
theorem same4_st {M0 : Imm} {L : List Res} (g g' : Nat) (D : DS) (E : RD) (w : World) (hs : Same4 D E) (ho : D.ok) (hp : D.pend.length < 1000000) (h : St M0 w (dsR g D :: rfR g' E :: L)) :
    Calls Try.prog 41 #[.pointer (some ⟨g, 0, none⟩), .pointer (some ⟨g', 0, none⟩)] w fun e w' => e = .returned (.bool true) ∧ St M0 w' (dsR g D :: rfR g' E :: L) := by
  have H0 := hide h
  have he := hs.ok ho
  have hpe : E.pend.length < 1000000 := by rw [hs.pend]; exact hp
  have HL := hide (fun w' (h : St M0 w' (dsR g D :: rfR g' E :: L)) => rlen_st g' E w' h.swap)
  rw [hs.len ho] at HL
  have n1 := ho.n1
  have n2 := ho.n2
  have HO := hide ho
  have HE := hide he
  have HS := hide hs
  clear h ho he hs
  go_enter Try.func41, Try.ntmps41
  go_wp2_with fail
  refine (len_ds H0.out).mono ?_
  rintro e w1 ⟨rfl, h⟩
  have H1 := hide h
  clear H0 h
  go_wp2_with fail
  refine (pending_ds H1.out).mono ?_
  rintro e w2 ⟨rfl, h⟩
  have H2 := hide h
  clear H1 h
  go_wp2_with fail
  refine (down_ds H2.out).mono ?_
  rintro e w3 ⟨rfl, h⟩
  obtain ⟨A, c, B, d, _, _, _, _, h'⟩ := h.swap.rf
  have c1 := (h'.blk 0 rfl).cell 1
  have c4 := (h'.blk 0 rfl).cell 4
  simp only [HS.out.pend, HS.out.down] at c1 c4
  have H3 := hide h
  clear H2 h h'
  generalize hdn : D.down = dn at *
  go_wp2_with (go_at_call 51; refine (HL.out _ H3.out).mono ?_; rintro e w' ⟨rfl, rfl⟩)
  clear c1 c4 HL
  go_loopg [8] (D.n + 2) (fun gh i wr => ∃ t : Nat, gh = D.n + 2 - t ∧ t ≤ D.n + 2 ∧ i = .int .i64 ((t : Int) - 1) ∧ St M0 wr (dsR g D :: rfR g' E :: L))
  case atStart => exact ⟨0, rfl, by omega, rfl, H3.out⟩
  case round =>
    clear H3
    obtain ⟨t, hgt, ht, rfl, h⟩ := hrel
    have HG := hide hgt
    have H := hide h
    clear hgt h
    by_cases hlt : t < D.n + 2
    · have hle : (t : Int) - 1 ≤ (D.n : Int) := by omega
      obtain ⟨s1, s2⟩ := HS.out.read HO.out ((t : Int) - 1)
      have S1 := hide s1
      have S2 := hide s2
      clear s1 s2
      go_wp2_with fail
      refine (read_ds ((t : Int) - 1) HO.out H.out).mono ?_
      rintro e w5 ⟨v, rfl, h⟩
      have H5 := hide h
      clear H h
      go_wp2_with fail
      refine (rread_st g' E D.n ((t : Int) - 1) _ HE.out hpe H5.out.up2).mono ?_
      rintro e w6 ⟨v', rfl, h⟩
      rw [S1.out] at h
      rw [S2.out]
      clear S1 S2
      have hN := h.get 2 rfl
      have hM := (h.get 0 rfl).nums (by obtain ⟨_, _, _, hl, _⟩ := hN; exact hl)
      generalize D.read ((t : Int) - 1) = xs at *
      generalize D.readE ((t : Int) - 1) = x at *
      have hxx : (x != x) = false := by simp
      have hxd : decide (x = x) = true := by simp
      have HN := hide hN
      have HM := hide hM
      have H6 := hide h
      clear hN hM h H5
      go_wp2_with (go_at_call 30; refine (same_nums v v' xs HN.out HM.out H6.out).mono ?_; rintro e w7 ⟨rfl, h⟩; have H7 := hide h; clear h)
      go_roundg (D.n + 2 - (t + 1))
      case measure => have := HG.out; omega
      case rel => exact ⟨t + 1, rfl, by omega, by go_num, H7.out.tail.pick 3 [2, 0]⟩
    · have hle : ¬ (t : Int) - 1 ≤ (D.n : Int) := by omega
      go_wp2_with fail
      go_ret
      exact ⟨rfl, H.out⟩

end Go.Proofs.Ythddgnnbgldfmaa
