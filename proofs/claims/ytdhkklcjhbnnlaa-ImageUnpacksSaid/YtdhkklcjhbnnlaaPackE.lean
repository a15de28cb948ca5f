/- pack.Encode. -/
import Derived.Test.YtdhkklcjhbnnlaaPackW
import Derived.Test.YtdhkklcjhbnnlaaStRows
namespace Go.Proofs.Ytdhkklcjhbnnlaa
open Go.RowKit

structure Fld where
  k : Int
  n : Int
  b : List Int
def FldR (w : World) (cs : List Value) (f : Fld) : Prop := ∃ v, cs = [.int .i64 f.k, .int .u64 f.n, v] ∧ Ints w .u8 v f.b ∧ 0 ≤ f.n ∧ f.n < 18446744073709551616
def isKind (k : Int) : Bool := k == 1 || k == 2 || k == 4 || k == 8 || k == 9

theorem kind_any (k : Int) (w : World) : Calls Try.prog 59 #[.int .i64 k] w fun e w' => e = .returned (.bool (isKind k)) ∧ w = w' := by
  unfold isKind
  by_cases h1 : k = 1
  · subst h1; go_enter Try.func59, Try.ntmps59; go_wp2; go_ret; exact ⟨rfl, rfl⟩
  by_cases h2 : k = 2
  · subst h2; go_enter Try.func59, Try.ntmps59; go_wp2; go_ret; exact ⟨rfl, rfl⟩
  by_cases h4 : k = 4
  · subst h4; go_enter Try.func59, Try.ntmps59; go_wp2; go_ret; exact ⟨rfl, rfl⟩
  by_cases h8 : k = 8
  · subst h8; go_enter Try.func59, Try.ntmps59; go_wp2; go_ret; exact ⟨rfl, rfl⟩
  have e1 := isF h1
  have e2 := isF h2
  have e4 := isF h4
  have e8 := isF h8
  rw [e1, e2, e4, e8]
  go_enter Try.func59, Try.ntmps59
  go_wp2
  go_ret
  exact ⟨by simp, rfl⟩

theorem enc1_any (v0 v1 v2 : Value) (k : Int) (w : World) (hv : v0 = .int .i64 k) : Calls Try.prog 58 #[.agg #[v0, v1, v2]] w fun e w' => e = .returned (.bool (!isKind k)) ∧ Fr Non w w' := by
  subst hv
  go_enter Try.func58, Try.ntmps58
  go_wp2_with (go_at_call 59; refine (kind_any k _).mono ?_; rintro e w' ⟨rfl, rfl⟩)
  go_ret
  exact ⟨rfl, (Fr.refl _ _).alloc _⟩

theorem take_all {α : Type} {p : α → Prop} {l : List α} {k : Nat} {x : α} (h : ∀ f ∈ l.take k, p f) (hx : l[k]? = some x) (hp : p x) : ∀ f ∈ l.take (k + 1), p f := by
  intro f hf
  rw [List.take_add_one, hx] at hf
  rcases List.mem_append.1 hf with h1 | h1
  · exact h f h1
  · simp at h1; subst h1; exact hp

set_option maxHeartbeats 400000 in
theorem index_any {M0 : Imm} {L : List Res} (v : Value) (fs : List Fld) (w : World) (h : St M0 w (rowsR 3 FldR v fs :: L)) :
    Calls Try.prog 75 #[v, .func (.func 58) #[] #[]] w fun e w' => ∃ n : Int, e = .returned (.int .i64 n) ∧ (0 ≤ n ↔ ∃ f ∈ fs, isKind f.k = false) ∧ St M0 w' (rowsR 3 FldR v fs :: L) := by
  obtain ⟨A, c, rfl, hc, hm⟩ := (h.getRows 0 rfl).slice
  have H := hide h
  clear h
  generalize hn : fs.length = n at *
  have HN := hide hn
  clear hn
  go_enter Try.func75, Try.ntmps75
  go_wp2
  go_loopw [8] (fun i wr => ∃ k : Nat, k ≤ n ∧ i = .int .i64 k ∧ (∀ f ∈ fs.take k, isKind f.k = true) ∧ St M0 wr (rowsR 3 FldR (.slice A n c) fs :: L)) (fun i _ => n - (intOf i).toNat)
  case atStart => exact ⟨0, Nat.zero_le _, rfl, by simp, H.out⟩
  case round =>
    clear H
    obtain ⟨k, hk, rfl, he, h⟩ := hrel
    have HE := hide he
    clear he
    by_cases hlt : k < n
    · have hx := List.getElem?_eq_getElem (l := fs) (i := k) (by rw [HN.out]; exact hlt)
      generalize fs[k]'(by rw [HN.out]; exact hlt) = f at hx
      obtain ⟨ad, cs, rfl, hl, hcs, vb, rfl, hb, _, _⟩ := (h.getRows 0 rfl).at_ hx
      obtain ⟨k0, k1, k2⟩ := cells3 hcs
      have HX := hide hx
      have H := hide h
      clear hx h hcs hl hb
      go_wp2_with fail
      refine (enc1_any _ _ _ f.k _ rfl).mono ?_
      rintro e w1 ⟨rfl, hF⟩
      have h := H.out.grow hF
      clear H
      cases hb : isKind f.k with
      | true =>
        have HB := hide hb
        clear hb
        have H := hide h
        clear h
        go_wp2_with fail
        go_roundw
        case rel => exact ⟨k + 1, by omega, by go_num, take_all HE.out HX.out HB.out, H.out⟩
        case measure => simp [intOf]; omega
      | false =>
        have HB := hide hb
        clear hb
        go_wp2_with fail
        go_ret
        exact ⟨k, rfl, ⟨fun _ => ⟨f, List.mem_of_getElem? HX.out, HB.out⟩, fun _ => by omega⟩, h⟩
    · go_wp2
      go_ret
      refine ⟨-1, rfl, ⟨fun h => absurd h (by omega), fun ⟨f, hf, hk⟩ => ?_⟩, h⟩
      have := HE.out f (by rw [List.take_of_length_le (by rw [HN.out]; omega)]; exact hf)
      rw [this] at hk; cases hk

def allKinds (fs : List Fld) : Bool := fs.all fun f => isKind f.k
theorem contains_any {M0 : Imm} {L : List Res} (v : Value) (fs : List Fld) (w : World) (h : St M0 w (rowsR 3 FldR v fs :: L)) :
    Calls Try.prog 57 #[v, .func (.func 58) #[] #[]] w fun e w' => e = .returned (.bool (!allKinds fs)) ∧ St M0 w' (rowsR 3 FldR v fs :: L) := by
  have H := hide (index_any v fs w h)
  clear h
  go_enter Try.func57, Try.ntmps57
  go_wp2_with fail
  refine H.out.mono ?_
  rintro e w1 ⟨n, rfl, hn, h⟩
  clear H
  have HN := hide hn
  clear hn
  by_cases h0 : 0 ≤ n
  · have hb : allKinds fs = false := by
      obtain ⟨f, hf, hk⟩ := HN.out.1 h0
      exact List.all_eq_false.2 ⟨f, hf, by simp [hk]⟩
    have HB := hide hb
    clear hb
    go_wp2_with fail
    go_ret
    exact ⟨by rw [HB.out]; first | rfl | (simp; omega), h⟩
  · have hb : allKinds fs = true := by
      refine List.all_eq_true.2 (fun f hf => ?_)
      cases hk : isKind f.k with
      | true => rfl
      | false => exact absurd (HN.out.2 ⟨f, hf, hk⟩) h0
    have HB := hide hb
    clear hb
    go_wp2_with fail
    go_ret
    exact ⟨by rw [HB.out]; first | rfl | (simp; omega), h⟩

/-- what a field's bytes are -/
def fldB (f : Fld) : List Int := if f.k = 9 then bytB f.b else numI f.n f.k
def fldsB (fs : List Fld) : List Int := fs.flatMap fldB
/-- a field whose bytes are too many -/
def tooLong (f : Fld) : Bool := f.k == 9 && decide (1000 < f.b.length)
def encE (fs : List Fld) : Int := if allKinds fs then (if fs.any tooLong then 2 else 0) else 1
def encB (fs : List Fld) : List Int := if encE fs = 0 then fldsB fs else []

theorem fldB_length (f : Fld) : (fldB f).length ≤ 1002 := by
  unfold fldB
  split
  · exact bytB_length _
  · have := numI_length f.n f.k; omega
theorem fldsB_length (fs : List Fld) : (fldsB fs).length ≤ fs.length * 1002 := by
  induction fs with
  | nil => simp [fldsB]
  | cons f fs ih => simp only [fldsB, List.flatMap_cons, List.length_append, List.length_cons] at *; have := fldB_length f; omega
theorem fldsB_take {fs : List Fld} {k : Nat} {f : Fld} (h : fs[k]? = some f) : fldsB (fs.take (k + 1)) = fldsB (fs.take k) ++ fldB f := by
  rw [List.take_add_one, h]
  simp [fldsB]

set_option maxRecDepth 100000 in
set_option maxHeartbeats 1000000 in
theorem enc_st {M0 : Imm} {L : List Res} (v : Value) (fs : List Fld) (w : World) (hl : fs.length ≤ 100) (h : St M0 w (rowsR 3 FldR v fs :: L)) :
    Calls Try.prog 17 #[v] w fun e w' => ∃ u, e = .returned (.tuple #[u, .int .i64 (encE fs)]) ∧ St M0 w' (rowR 5 1 u (encB fs).length (bv (encB fs)) :: rowsR 3 FldR v fs :: L) := by
  have H := hide (contains_any v fs w h)
  obtain ⟨A, c, rfl, hc, hm⟩ := (h.getRows 0 rfl).slice
  clear h
  generalize hn : fs.length = n at *
  have HN := hide hn
  clear hn
  go_enter Try.func17, Try.ntmps17
  go_wp2_with fail
  refine H.out.mono ?_
  rintro e w1 ⟨rfl, h⟩
  clear H
  cases hb : allKinds fs with
  | false =>
    have HB := hide hb
    clear hb
    go_wp2_with fail
    go_ret2
    have e1 : encE fs = 1 := by unfold encE; rw [HB.out]; rfl
    have e2 : encB fs = [] := by unfold encB; rw [e1]; rfl
    rw [e1, e2]
    exact ⟨_, rfl, h.nilRow _ _⟩
  | true =>
    have HB := hide hb
    have H := hide (h.alloc 37 #[.slice none 0 0])
    clear hb h
    generalize hg : w1.heap.size = g at *
    have HG := hide hg
    go_wp2_with fail
    clear hg
    go_loopg [11] n (fun gh i wr => ∃ k : Nat, gh = n - k ∧ k ≤ n ∧ i = .int .i64 k ∧ (∀ f ∈ fs.take k, tooLong f = false) ∧ St M0 wr (wrR g (fldsB (fs.take k)) :: rowsR 3 FldR (.slice A n c) fs :: L))
    case atStart => exact ⟨0, rfl, Nat.zero_le _, rfl, by simp, St.addWr (H.out.swap.nilRow _ _).up2 rfl⟩
    case round =>
      clear H
      obtain ⟨k, hgk, hk, rfl, he, h⟩ := hrel
      have HGK := hide hgk
      have HE := hide he
      clear hgk he
      by_cases hlt : k < n
      · have hx := List.getElem?_eq_getElem (l := fs) (i := k) (by rw [HN.out]; exact hlt)
        generalize fs[k]'(by rw [HN.out]; exact hlt) = f at hx
        obtain ⟨ad, cs, rfl, hl, hcs, ⟨vb, rfl, _⟩, hf⟩ := h.elem 1 rfl hx
        obtain ⟨k0, k1, k2⟩ := cells3 hcs
        have HX := hide hx
        have H := hide (hf.pers1 (R' := fun w' => Ints w' .u8 vb f.b) (fun w' ⟨_, v', e, hi, _⟩ => by simp at e; rw [e]; exact hi))
        have hlen : (fldsB (fs.take k)).length ≤ 200000 := by
          have := fldsB_length (fs.take k)
          have h2 : (fs.take k).length ≤ k := List.length_take_le _ _
          have h3 := Nat.mul_le_mul_right 1002 h2
          omega
        have HY := hide (fldsB_take hx)
        clear hx h hcs hl hf
        obtain ⟨A2, c2, rfl, hl2, hm2, _⟩ := H.out.get 0 rfl
        unfold maxLen at hm2
        by_cases h9 : f.k = 9
        · rw [h9] at k0
          have H9 := hide h9
          clear h9
          by_cases hlo : 1000 < f.b.length
          · go_wp2_with fail
            go_ret2
            have hbad : fs.any tooLong = true := List.any_eq_true.2 ⟨f, List.mem_of_getElem? HX.out, by unfold tooLong; rw [H9.out]; simpa using hlo⟩
            have e1 : encE fs = 2 := by unfold encE; rw [HB.out, hbad]; rfl
            have e2 : encB fs = [] := by unfold encB; rw [e1]; rfl
            rw [e1, e2]
            exact ⟨_, rfl, (H.out.tail.tail.junk _).nilRow _ _⟩
          · go_wp2_with fail
            refine (byt_st g _ f.b _ _ (by omega) (H.out.swap.junk _)).mono ?_
            rintro e w2 ⟨rfl, h⟩
            have H2 := hide h
            clear H h
            go_wp2_with fail
            go_roundg (n - (k + 1))
            case measure => have := HGK.out; omega
            case rel => exact ⟨k + 1, rfl, hlt, rfl, take_all HE.out HX.out (by unfold tooLong; rw [decide_eq_false hlo, Bool.and_false]), by rw [HY.out, show fldB f = bytB f.b by unfold fldB; rw [if_pos H9.out]]; exact H2.out.del1⟩
        · have h9b := isN h9
          have H9 := hide h9
          clear h9
          go_wp2_with fail
          refine (num_st g _ _ _ _ (by omega) (H.out.tail.junk _)).mono ?_
          rintro e w2 ⟨rfl, h⟩
          have H2 := hide h
          clear H h
          go_wp2_with fail
          go_roundg (n - (k + 1))
          case measure => have := HGK.out; omega
          case rel => exact ⟨k + 1, rfl, hlt, rfl, take_all HE.out HX.out (by unfold tooLong; rw [beq_eq_false_iff_ne.2 H9.out]; rfl), by rw [HY.out, show fldB f = numI f.n f.k by unfold fldB; rw [if_neg H9.out]]; exact H2.out⟩
      · have e : fs.take k = fs := List.take_of_length_le (by rw [HN.out]; omega)
        rw [e] at h
        have hlen : (fldsB fs).length ≤ 200000 := by
          have := fldsB_length fs
          rw [HN.out] at this
          have h3 := Nat.mul_le_mul_right 1002 hl
          omega
        have HO := hide (out_st g (fldsB fs) wr (by omega) h)
        have hgood : fs.any tooLong = false := by
          have h := HE.out
          rw [e] at h
          exact List.any_eq_false.2 (fun f hf => by simp [h f hf])
        have HZ := hide hgood
        clear e h hgood
        go_wp2_with fail
        refine HO.out.mono ?_
        rintro e w2 ⟨u, rfl, h⟩
        clear HO
        go_wp2_with fail
        go_ret2
        have e1 : encE fs = 0 := by unfold encE; rw [HB.out, HZ.out]; rfl
        have e2 : encB fs = fldsB fs := by unfold encB; rw [e1]; rfl
        rw [e1, e2]
        exact ⟨_, rfl, h.del1⟩

end Go.Proofs.Ytdhkklcjhbnnlaa
