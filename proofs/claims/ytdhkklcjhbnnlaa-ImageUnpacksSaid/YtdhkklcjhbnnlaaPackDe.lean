/- pack.Decode. -/
import Derived.Test.YtdhkklcjhbnnlaaRdSt
import Derived.Test.YtdhkklcjhbnnlaaPackE
namespace Go.Proofs.Ytdhkklcjhbnnlaa
open Go.RowKit

/-- one field read -/
def Rd.fld (r : Rd) (k : Int) : Fld × Rd := if k = 9 then (⟨9, 0, r.byt.1⟩, r.byt.2) else (⟨k, (r.num k).1, []⟩, (r.num k).2)
def Rd.flds (r : Rd) : List Int → List Fld × Rd
  | [] => ([], r)
  | k :: ks => ((r.fld k).1 :: ((r.fld k).2.flds ks).1, ((r.fld k).2.flds ks).2)
def okShape (shape : List Int) : Bool := shape.all isKind
def decE (shape : List Int) (bs : List Int) : Int := if okShape shape then (Rd.flds ⟨bs, false⟩ shape).2.endE else 1
def decL (shape : List Int) (bs : List Int) : List Fld := if decE shape bs = 0 then (Rd.flds ⟨bs, false⟩ shape).1 else []
theorem Rd.flds_snoc (r : Rd) (ks : List Int) (k : Int) : r.flds (ks ++ [k]) = ((r.flds ks).1 ++ [((r.flds ks).2.fld k).1], ((r.flds ks).2.fld k).2) := by
  induction ks generalizing r with
  | nil => rfl
  | cons a ks ih => simp [Rd.flds, ih]
structure Rd.Ok (r : Rd) : Prop where
  hb : Bytes r.xs
  hl : r.xs.length ≤ 1000000000
  hz : r.s = true → r.xs = []
theorem Rd.Ok.take {r : Rd} (h : r.Ok) (n : Nat) : (r.take n).2.Ok :=
  ⟨(r.take_xs n h.hb).2, Nat.le_trans (r.take_len n).2.2 h.hl, r.take_s n⟩
theorem Rd.Ok.num {r : Rd} (h : r.Ok) (size : Int) : (r.num size).2.Ok := h.take _
theorem Rd.Ok.byt {r : Rd} (h : r.Ok) : r.byt.2.Ok := (h.num 2).take _
theorem Rd.Ok.fld {r : Rd} (h : r.Ok) (k : Int) : (r.fld k).2.Ok := by
  unfold Rd.fld
  split
  · exact h.byt
  · exact h.num k
theorem Rd.Ok.flds {r : Rd} (h : r.Ok) (ks : List Int) : (r.flds ks).2.Ok := by
  induction ks generalizing r with
  | nil => exact h
  | cons k ks ih => exact ih (h.fld k)

theorem dec1_any (k : Int) (w : World) : Calls Try.prog 62 #[.int .i64 k] w fun e w' => e = .returned (.bool (!isKind k)) ∧ w = w' := by
  go_enter Try.func62, Try.ntmps62
  go_wp2_with (go_at_call 59; refine (kind_any k _).mono ?_; rintro e w' ⟨rfl, rfl⟩)
  go_ret
  exact ⟨rfl, rfl⟩

set_option maxHeartbeats 400000 in
theorem index_int {M0 : Imm} {L : List Res} (v : Value) (ks : List Int) (w : World) (h : St M0 w (intsR .i64 v ks :: L)) :
    Calls Try.prog 76 #[v, .func (.func 62) #[] #[]] w fun e w' => ∃ n : Int, e = .returned (.int .i64 n) ∧ (0 ≤ n ↔ ∃ k ∈ ks, isKind k = false) ∧ St M0 w' (intsR .i64 v ks :: L) := by
  obtain ⟨A, c, rfl, hc, hm, _⟩ := h.get 0 rfl
  have H := hide h
  clear h
  unfold maxLen at hm
  generalize hn : ks.length = n at *
  have HN := hide hn
  clear hn
  go_enter Try.func76, Try.ntmps76
  go_wp2
  go_loop [8] (fun i => ∃ k : Nat, k ≤ n ∧ i = .int .i64 k ∧ (∀ f ∈ ks.take k, isKind f = true)) (fun i => n - (intOf i).toNat)
  case atStart => exact ⟨0, Nat.zero_le _, rfl, by simp⟩
  case round =>
    obtain ⟨k, hk, rfl, he⟩ := hrel
    have HE := hide he
    clear he
    by_cases hlt : k < n
    · have hx := List.getElem?_eq_getElem (l := ks) (i := k) (by rw [HN.out]; exact hlt)
      generalize ks[k]'(by rw [HN.out]; exact hlt) = f at hx
      obtain ⟨ad, u, rfl, _, _, hu, hcu⟩ := (H.out.get 0 rfl).sl.2.2.2.at_ hlt
      rw [List.getElem?_map, hx] at hu
      obtain rfl : Value.int .i64 f = u := by simpa using hu
      have HX := hide hx
      clear hx hu
      cases hb : isKind f with
      | true =>
        have HB := hide hb
        clear hb
        go_wp2_with (go_at_call 62; refine (dec1_any f _).mono ?_; rintro e w' ⟨rfl, rfl⟩; rw [HB.out])
        go_round
        case rel => exact ⟨k + 1, by omega, by go_num, take_all HE.out HX.out HB.out⟩
        case measure => simp [intOf]; omega
      | false =>
        have HB := hide hb
        clear hb
        go_wp2_with (go_at_call 62; refine (dec1_any f _).mono ?_; rintro e w' ⟨rfl, rfl⟩; rw [HB.out])
        go_ret
        exact ⟨k, rfl, ⟨fun _ => ⟨f, List.mem_of_getElem? HX.out, HB.out⟩, fun _ => by omega⟩, H.out⟩
    · go_wp2
      go_ret
      refine ⟨-1, rfl, ⟨fun h => absurd h (by omega), fun ⟨f, hf, hk⟩ => ?_⟩, H.out⟩
      have := HE.out f (by rw [List.take_of_length_le (by rw [HN.out]; omega)]; exact hf)
      rw [this] at hk; cases hk
theorem contains_int {M0 : Imm} {L : List Res} (v : Value) (ks : List Int) (w : World) (h : St M0 w (intsR .i64 v ks :: L)) :
    Calls Try.prog 61 #[v, .func (.func 62) #[] #[]] w fun e w' => e = .returned (.bool (!okShape ks)) ∧ St M0 w' (intsR .i64 v ks :: L) := by
  have H := hide (index_int v ks w h)
  clear h
  go_enter Try.func61, Try.ntmps61
  go_wp2_with fail
  refine H.out.mono ?_
  rintro e w1 ⟨n, rfl, hn, h⟩
  clear H
  have HN := hide hn
  clear hn
  by_cases h0 : 0 ≤ n
  · have hb : okShape ks = false := by
      obtain ⟨f, hf, hk⟩ := HN.out.1 h0
      exact List.all_eq_false.2 ⟨f, hf, by simp [hk]⟩
    have HB := hide hb
    clear hb
    go_wp2_with fail
    go_ret
    exact ⟨by rw [HB.out]; first | rfl | (simp; omega), h⟩
  · have hb : okShape ks = true := by
      refine List.all_eq_true.2 (fun f hf => ?_)
      cases hk : isKind f with
      | true => rfl
      | false => exact absurd (HN.out.2 ⟨f, hf, hk⟩) h0
    have HB := hide hb
    clear hb
    go_wp2_with fail
    go_ret
    exact ⟨by rw [HB.out]; first | rfl | (simp; omega), h⟩

theorem fld_row : ElemOf Try.prog 22 41 (.agg #[.int .i64 0, .int .u64 0, .slice none 0 0]) 3 40 := ⟨Try.underlying22, by kernel_rfl, by kernel_rfl, by omega⟩

set_option maxRecDepth 100000 in
set_option maxHeartbeats 1000000 in
theorem dec_st {M0 : Imm} {L : List Res} (v u : Value) (ks bs : List Int) (w : World) (hkl : ks.length ≤ 1000) (hb : Bytes bs) (hbl : bs.length ≤ 1000000000) (h : St M0 w (intsR .i64 v ks :: intsR .u8 u bs :: L)) :
    Calls Try.prog 20 #[v, u] w fun e w' => ∃ x, e = .returned (.tuple #[x, .int .i64 (decE ks bs)]) ∧ St M0 w' (rowsR 3 FldR x (decL ks bs) :: intsR .i64 v ks :: intsR .u8 u bs :: L) := by
  have H := hide (contains_int v ks w h)
  obtain ⟨A, c, rfl, hc, hm, _⟩ := h.get 0 rfl
  obtain ⟨B, d, rfl, hc2, hm2, _⟩ := h.get 1 rfl
  clear h
  unfold maxLen at hm hm2
  have hok : Rd.Ok ⟨bs, false⟩ := ⟨hb, hbl, fun h => by cases h⟩
  have HOK := hide hok
  clear hok hb
  generalize hn : ks.length = n at *
  have HN := hide hn
  clear hn
  go_enter Try.func20, Try.ntmps20
  go_wp2_with fail
  refine H.out.mono ?_
  rintro e w1 ⟨rfl, h⟩
  clear H
  cases hb : okShape ks with
  | false =>
    have HB := hide hb
    clear hb
    go_wp2_with fail
    go_ret2
    have e1 : decE ks bs = 1 := by unfold decE; rw [HB.out]; rfl
    have e2 : decL ks bs = [] := by unfold decL; rw [e1]; rfl
    rw [e1, e2]
    exact ⟨_, rfl, (h.nilGrow 0 3 FldR).rowsGrow⟩
  | true =>
    have HB := hide hb
    have HR := hide (read_st _ bs w1 h.swap)
    clear hb h
    go_wp2_with fail
    refine HR.out.mono ?_
    rintro e w2 ⟨g, rfl, h⟩
    clear HR
    have H := hide h
    clear h
    go_wp2_with fail
    go_loopg [7, 18] n (fun gh x i wr => ∃ (k : Nat) (A' : Option Addr) (c' q : Nat), gh = n - k ∧ k ≤ n ∧ i = .int .i64 k ∧ x = .slice A' q c' ∧ q = k ∧ (Rd.flds ⟨bs, false⟩ (ks.take k)).1.length = k ∧ St M0 wr (growR 41 3 FldR (.slice A' q c') (Rd.flds ⟨bs, false⟩ (ks.take k)).1 :: rdR g (Rd.flds ⟨bs, false⟩ (ks.take k)).2 :: intsR .u8 (.slice B bs.length d) bs :: intsR .i64 (.slice A n c) ks :: L))
    case atStart => exact ⟨0, none, 0, 0, rfl, Nat.zero_le _, rfl, rfl, rfl, rfl, H.out.nilGrow _ _ _⟩
    case round =>
      clear H
      obtain ⟨k, A', c', q, hgk, hk, rfl, rfl, rfl, hfl, h⟩ := hrel
      have HGK := hide hgk
      have HFL := hide hfl
      clear hgk hfl
      by_cases hlt : q < n
      · have hx := List.getElem?_eq_getElem (l := ks) (i := q) (by rw [HN.out]; exact hlt)
        generalize ks[q]'(by rw [HN.out]; exact hlt) = f at hx
        obtain ⟨ad, y, rfl, _, _, hu, hcu⟩ := (h.get 3 rfl).sl.2.2.2.at_ hlt
        rw [List.getElem?_map, hx] at hu
        obtain rfl : Value.int .i64 f = y := by simpa using hu
        have hsn := Rd.flds_snoc ⟨bs, false⟩ (ks.take q) f
        rw [show ks.take q ++ [f] = ks.take (q + 1) by rw [List.take_add_one, hx]; rfl] at hsn
        have hokr := HOK.out.flds (ks.take q)
        generalize (Rd.flds ⟨bs, false⟩ (ks.take q)).2 = r at *
        generalize (Rd.flds ⟨bs, false⟩ (ks.take q)).1 = out at *
        have HS := hide hsn
        have HOKR := hide hokr
        have H := hide h
        clear hx hu hsn hokr h
        by_cases h9 : f = 9
        · subst h9
          go_wp2_with fail
          refine (rdbyt_st g r _ HOKR.out.hb HOKR.out.hl HOKR.out.hz (H.out.alloc 41 #[.int .i64 9, .int .u64 0, .slice none 0 0]).up2).mono ?_
          rintro e w3 ⟨v, rfl, h⟩
          generalize hp : wr.heap.size = p at *
          obtain ⟨A3, c3, rfl, _, _, _⟩ := h.get 0 rfl
          have k0 := (h.blk 2 rfl).cell 0
          have k1 := (h.blk 2 rfl).cell 1
          have k2 := (h.blk 2 rfl).cell 2
          have f2 := (h.blk 2 rfl).frozen 2
          obtain ⟨vs, hq, hvs, h2⟩ := h.up3.openGrowS
          have H2 := hide (h2.up4.set_ 2 (.slice A3 r.byt.1.length c3)).tail
          have HV := hide (And.intro hq hvs)
          have HX := hide (show r.fld 9 = (⟨9, 0, r.byt.1⟩, r.byt.2) by unfold Rd.fld; rw [if_pos rfl])
          clear H h hp h2 hq hvs
          generalize r.byt.1 = ys at *
          generalize r.byt.2 = r' at *
          go_wp2_with (at_builtin; refine St.app_step fld_row (H2.out.junk _) rfl _ _ rfl rfl (some ⟨_, 0, none⟩) 1 1 rfl [.int .i64 9, .int .u64 0, .slice A3 ys.length c3] (sl_newG (by simp [World.setCell])) (by intro u hu; simp at hu; rcases hu with rfl | rfl | rfl <;> rfl) (by omega) (by omega) ?_; intro A5 c5 w4 h4)
          go_roundg (n - (q + 1))
          case measure => have := HGK.out; omega
          case rel =>
            refine ⟨q + 1, A5, c5, q + 1, rfl, hlt, by go_num, rfl, rfl, by rw [HS.out]; simp [HFL.out], ?_⟩
            rw [HS.out, HX.out]
            exact ((h4.up2.pers1 (R' := fun w' => FldR w' [.int .i64 9, .int .u64 0, .slice A3 ys.length c3] ⟨9, 0, ys⟩) (fun w' hi => ⟨_, rfl, hi, Int.le_refl 0, (by decide : (0 : Int) < 18446744073709551616)⟩)).dn2).snocGrow HV.out.1 rfl HV.out.2
        · have h9b := isF h9
          have HX := hide (show r.fld f = (⟨f, (r.num f).1, []⟩, (r.num f).2) by unfold Rd.fld; rw [if_neg h9])
          have hnf := (r.num_facts f HOKR.out.hb HOKR.out.hl).2.2
          have HNF := hide hnf
          clear h9 hnf
          go_wp2_with fail
          refine (rdnum_st g r f _ HOKR.out.hb HOKR.out.hl HOKR.out.hz (H.out.alloc 41 #[.int .i64 f, .int .u64 0, .slice none 0 0]).up2).mono ?_
          rintro e w3 ⟨rfl, h⟩
          generalize hp : wr.heap.size = p at *
          have k0 := (h.blk 1 rfl).cell 0
          have k1 := (h.blk 1 rfl).cell 1
          have k2 := (h.blk 1 rfl).cell 2
          have f1 := (h.blk 1 rfl).frozen 1
          obtain ⟨vs, hq, hvs, h2⟩ := h.up2.openGrowS
          have H2 := hide (h2.up3.set_ 1 (.int .u64 (r.num f).1)).tail
          have HV := hide (And.intro hq hvs)
          clear H h hp h2 hq hvs
          generalize (r.num f).1 = y at *
          generalize (r.num f).2 = r' at *
          go_wp2_with (at_builtin; refine St.app_step fld_row (H2.out.junk _) rfl _ _ rfl rfl (some ⟨_, 0, none⟩) 1 1 rfl [.int .i64 f, .int .u64 y, .slice none 0 0] (sl_newG (by simp [World.setCell])) (by intro u hu; simp at hu; rcases hu with rfl | rfl | rfl <;> rfl) (by omega) (by omega) ?_; intro A5 c5 w4 h4)
          go_roundg (n - (q + 1))
          case measure => have := HGK.out; omega
          case rel =>
            refine ⟨q + 1, A5, c5, q + 1, rfl, hlt, by go_num, rfl, rfl, by rw [HS.out]; simp [HFL.out], ?_⟩
            rw [HS.out, HX.out]
            exact ((h4.pers0 (R := fun w' => FldR w' [.int .i64 f, .int .u64 y, .slice none 0 0] ⟨f, y, []⟩) (fun w' _ => ⟨_, rfl, Ints.none_ w' _, HNF.out.1, HNF.out.2⟩)).dn2).snocGrow HV.out.1 rfl HV.out.2
      · have e : ks.take q = ks := List.take_of_length_le (by rw [HN.out]; omega)
        rw [e] at h
        have HEnd := hide (rdend_st g _ wr h.swap)
        have HE2 : Hid (decE ks bs = (Rd.flds ⟨bs, false⟩ ks).2.endE) := hide (by unfold decE; rw [HB.out]; rfl)
        clear e h
        have HL2 : Hid (decL ks bs = if decE ks bs = 0 then (Rd.flds ⟨bs, false⟩ ks).1 else []) := hide rfl
        rw [HE2.out] at HL2
        generalize (Rd.flds ⟨bs, false⟩ ks).2 = r at *
        generalize (Rd.flds ⟨bs, false⟩ ks).1 = fs at *
        generalize r.endE = y at *
        go_wp2_with fail
        refine HEnd.out.mono ?_
        rintro e w3 ⟨rfl, h⟩
        have H := hide h
        clear HEnd h
        by_cases h0 : y = 0
        · subst h0
          go_wp2_with fail
          go_ret2
          rw [HE2.out, HL2.out, if_pos trivial]
          exact ⟨_, rfl, H.out.tail.rowsGrow.up2.swap⟩
        · have h0b := isN h0
          have H0 := hide h0
          clear h0
          go_wp2_with fail
          go_ret2
          rw [HE2.out, HL2.out, if_neg H0.out]
          exact ⟨_, rfl, (H.out.tail.tail.swap.nilGrow 0 3 FldR).rowsGrow⟩

end Go.Proofs.Ytdhkklcjhbnnlaa
