/- Locks: LocksUnpacks. -/
import Derived.Test.YtbgknfdaaffeaaaLkX5
import Derived.Test.YtbgknfdaaffeaaaLkX3
import Derived.Test.YtbgknfdaaffeaaaLkP
import Derived.Test.YtbgknfdaaffeaaaEqSt
namespace Go.Proofs.Ytbgknfdaaffeaaa
open Go.RowKit Go.Shelf

theorem uTab_packOk {bs : List Int} (h : Rd.Ok ⟨bs, false⟩) : PackOk (uTab bs) := by
  have key : ∀ i, i < 4 → (∀ x ∈ ((uTab bs).r i).h, (0 ≤ x.c ∧ x.c ≤ 255) ∧ (0 ≤ x.m ∧ x.m ≤ 255) ∧ (0 ≤ x.t ∧ x.t ≤ 18446744073709551615) ∧ (0 ≤ x.u ∧ x.u ≤ 18446744073709551615)) ∧ (∀ x ∈ ((uTab bs).r i).w, (0 ≤ x.c ∧ x.c ≤ 255) ∧ (0 ≤ x.m ∧ x.m ≤ 255)) := fun i hi => by
    obtain ⟨q, hq, e⟩ := Rd.tab_at ((h.num 8).num 8) 4 i hi
    have e : (uTab bs).r i = q.lreg := e
    rw [e]
    have h1 := Rd.hos_mem (hq.num 1) (q.num 1).1.toNat
    have h2 := Rd.wos_mem (((hq.num 1).hos (q.num 1).1.toNat).num 1) q.g3.1.toNat
    refine ⟨fun x hx => ?_, fun x hx => ?_⟩
    · have := h1 x hx
      omega
    · have := h2 x hx
      omega
  exact ⟨fun i hi => (key i hi).1, fun i hi => (key i hi).2⟩
theorem uTab_regOk {bs : List Int} (he : uE bs = 0) : ∀ i, i < 4 → RegOk ((uTab bs).r i) := by
  have hok : uOk bs = true := by
    unfold uE at he
    split at he
    · rename_i h1
      exact absurd he h1
    · split at he
      · assumption
      · cases he
  unfold uOk at hok
  rw [Bool.and_eq_true] at hok
  exact fun i hi => (checkB_iff _).1 (List.all_eq_true.1 hok.2 i (List.mem_range.2 hi))
set_option maxHeartbeats 4000000 in
set_option maxRecDepth 100000 in
theorem unpacksL_st {M0 : Imm} {L : List Res} (v : Value) (bs : List Int) (w : World) (hb : Bytes bs) (h : St M0 w (intsR .u8 v bs :: L)) :
    Calls Try.prog 12 #[v] w fun e w' => e = .returned (.bool true) ∧ ∃ L', St M0 w' L' := by
  obtain ⟨A, c, rfl, hc, hm, _⟩ := h.get 0 rfl
  obtain ⟨n, hn⟩ : ∃ n, n = bs.length := ⟨_, rfl⟩
  rw [← hn] at hc h ⊢
  have HN := hide hn
  have HB := hide hb
  have H := hide h
  clear h hb hn
  go_enter Try.func12, Try.ntmps12
  go_wp2_with fail
  refine (awakeL_st _ H.out).mono ?_
  rintro e w1 ⟨rfl, h1⟩
  have H1 := hide h1
  clear h1 H
  by_cases h600 : n ≤ 600
  · have d1 : decide ((n : Int) > 600) = false := decide_eq_false (by omega)
    have d1' : decide ((600 : Int) < (n : Int)) = false := d1
    have HOK := hide (show Rd.Ok ⟨bs, false⟩ from ⟨HB.out, by show bs.length ≤ _; rw [← HN.out]; omega, fun h => by cases h⟩)
    go_wp2_with fail
    refine (unpack_st (.slice A n c) bs _ HOK.out H1.out).mono ?_
    rintro e w2 hq
    rcases hq with ⟨hE, g, rfl, h⟩ | ⟨hE, rfl, h⟩
    · have H2 := hide h.swap
      have HE := hide hE
      clear h hE H1
      go_wp2_with fail
      refine (runpack_st (.slice A n c) bs _ HOK.out H2.out).mono ?_
      rintro e w3 hq
      rcases hq with ⟨_, gd, rfl, h⟩ | ⟨hE, _⟩
      case inr => exact absurd HE.out hE
      have H3 := hide (h.sub (L' := tabR g (uTab bs) :: docR gd (uTab bs) :: intsR .u8 (.slice A n c) bs :: L) (by (repeat (first | with_reducible exact Sub.refl _ | (with_reducible apply Sub.take; focus (repeat (first | with_reducible exact At.here | with_reducible apply At.there))) | with_reducible apply Sub.drop))))
      clear h H2
      go_wp2_with fail
      refine (packL_st g (uTab bs) _ (uTab_ok HOK.out HE.out).1 (uTab_packOk HOK.out) H3.out).mono ?_
      rintro e w4 ⟨v4, rfl, h⟩
      rw [packT_uTab HOK.out HE.out] at h
      have H4 := hide ((St.ints (k := .u8) (xs := bs) h).sub (L' := tabR g (uTab bs) :: docR gd (uTab bs) :: intsR .u8 v4 bs :: intsR .u8 (.slice A n c) bs :: L) (by (repeat (first | with_reducible exact Sub.refl _ | (with_reducible apply Sub.take; focus (repeat (first | with_reducible exact At.here | with_reducible apply At.there))) | with_reducible apply Sub.drop))))
      clear h H3
      go_wp2_with fail
      refine (sameL_st g gd (uTab bs) _ (uTab_ok HOK.out HE.out).1 (uTab_regOk HE.out) H4.out).mono ?_
      rintro e w5 ⟨rfl, h⟩
      have H5 := hide h
      clear h H4
      go_wp2_with fail
      refine (same_true v4 (.slice A n c) bs _ (H5.out.get 2 rfl) (H5.out.get 3 rfl) H5.out).mono ?_
      rintro e w6 ⟨rfl, h⟩
      have H6 := hide h
      clear h H5
      go_wp2_with fail
      go_ret
      exact ⟨rfl, _, H6.out⟩
    · have H2 := hide h
      have HE := hide hE
      clear h hE H1
      go_wp2_with fail
      refine (runpack_st (.slice A n c) bs _ HOK.out H2.out).mono ?_
      rintro e w3 hq
      rcases hq with ⟨hE, _⟩ | ⟨_, rfl, h⟩
      case inl => exact absurd hE HE.out
      have H3 := hide h
      clear h H2
      obtain ⟨ev, hev⟩ : ∃ ev, ev = uE bs := ⟨_, rfl⟩
      rw [← hev]
      clear hev
      go_wp2_with fail
      go_ret
      exact ⟨rfl, _, H3.out⟩
  · have d1 : decide ((n : Int) > 600) = true := decide_eq_true (by omega)
    have d1' : decide ((600 : Int) < (n : Int)) = true := d1
    go_wp2_with fail
    go_ret
    exact ⟨rfl, _, H1.out⟩
end Go.Proofs.Ytbgknfdaaffeaaa
