/- PackReads, the walk. -/
import Derived.Test.YtdhkklcjhbnnlaaPackAw
import Derived.Test.YtdhkklcjhbnnlaaRrSt
namespace Go.Proofs.Ytdhkklcjhbnnlaa
open Go.RowKit

def Rd.ask (r : Rd) (k : Int) : Rd := if k = 9 then r.byt.2 else (r.num k).2
def Rd.asks (r : Rd) (ks : List Int) : Rd := ks.foldl Rd.ask r
theorem Rd.Ok.ask {r : Rd} (h : r.Ok) (k : Int) : (r.ask k).Ok := by
  unfold Rd.ask
  split
  · exact h.byt
  · exact h.num k
theorem Rd.Ok.asks {r : Rd} (h : r.Ok) (ks : List Int) : (r.asks ks).Ok := by
  induction ks generalizing r with
  | nil => exact h
  | cons k ks ih => exact ih (h.ask k)

set_option maxRecDepth 100000 in
set_option maxHeartbeats 1000000 in
theorem reads_st {M0 : Imm} {L : List Res} (v u : Value) (bs ks : List Int) (w : World) (hb : Bytes bs) (h : St M0 w (intsR .u8 v bs :: intsR .i64 u ks :: L)) :
    Calls Try.prog 8 #[v, u] w fun e w' => e = .returned (.bool true) ∧ St M0 w' (intsR .u8 v bs :: intsR .i64 u ks :: L) := by
  obtain ⟨A, c, rfl, _, hm, _⟩ := h.get 0 rfl
  obtain ⟨B, d, rfl, _, hm2, _⟩ := h.get 1 rfl
  unfold maxLen at hm hm2
  have H := hide h
  have HB := hide hb
  clear h hb
  go_enter Try.func8, Try.ntmps8
  go_wp2_with fail
  refine (awake_st _ H.out).mono ?_
  rintro e w1 ⟨rfl, h⟩
  have H1 := hide h
  clear H h
  by_cases h3 : 3000 < bs.length
  · go_wp2_with fail
    go_ret
    exact ⟨rfl, H1.out⟩
  by_cases h40 : 40 < ks.length
  · go_wp2_with fail
    go_ret
    exact ⟨rfl, H1.out⟩
  · go_wp2_with fail
    refine (read_st _ bs _ H1.out).mono ?_
    rintro e w2 ⟨g, rfl, h⟩
    have hok : Rd.Ok ⟨bs, false⟩ := ⟨HB.out, by show bs.length ≤ _; omega, fun h => by cases h⟩
    have HOK := hide hok
    generalize hg2 : w2.heap.size = g2
    have h2 := St.addRr (r := ⟨bs, false⟩) (k := 0) ((h.swap.copy 0 rfl).alloc 51 #[.slice A bs.length c, .int .i64 0, .bool false]) (Nat.zero_le _) (by omega) rfl
    rw [hg2] at h2
    have H2 := hide h2.up2
    clear H1 h h2 hok
    generalize hn : ks.length = n at *
    have HN := hide hn
    clear hn
    go_wp2_with fail
    clear hg2
    go_loopg [8] n (fun gh i wr => ∃ k : Nat, gh = n - k ∧ k ≤ n ∧ i = .int .i64 k ∧ St M0 wr (rdR g (Rd.asks ⟨bs, false⟩ (ks.take k)) :: rrR g2 (Rd.asks ⟨bs, false⟩ (ks.take k)) :: intsR .u8 (.slice A bs.length c) bs :: intsR .i64 (.slice B n d) ks :: L))
    case atStart => exact ⟨0, rfl, Nat.zero_le _, rfl, H2.out⟩
    case round =>
      clear H2
      obtain ⟨k, hgk, hk, rfl, h⟩ := hrel
      have HGK := hide hgk
      clear hgk
      by_cases hlt : k < n
      · have hx := List.getElem?_eq_getElem (l := ks) (i := k) (by rw [HN.out]; exact hlt)
        generalize ks[k]'(by rw [HN.out]; exact hlt) = f at hx
        have hst : Rd.asks ⟨bs, false⟩ (ks.take (k + 1)) = (Rd.asks ⟨bs, false⟩ (ks.take k)).ask f := by
          unfold Rd.asks
          rw [List.take_add_one, hx, List.foldl_append]
          rfl
        have hokr := HOK.out.asks (ks.take k)
        generalize Rd.asks ⟨bs, false⟩ (ks.take k) = r at *
        obtain ⟨ad, y, rfl, _, _, hu, hcu⟩ := (h.get 3 rfl).sl.2.2.2.at_ hlt
        rw [List.getElem?_map, hx] at hu
        obtain rfl : Value.int .i64 f = y := by simpa using hu
        have HS := hide hst
        have HOKR := hide hokr
        have HX := hide hx
        have H := hide h
        clear hx hu hst hokr h
        by_cases h9 : f = 9
        · subst h9
          go_wp2_with fail
          refine (rdbyt_st g r _ HOKR.out.hb HOKR.out.hl HOKR.out.hz H.out).mono ?_
          rintro e w3 ⟨x, rfl, h⟩
          obtain ⟨A3, c3, rfl, _, _, _⟩ := h.get 0 rfl
          have H2 := hide h.up2
          clear H h
          go_wp2_with fail
          refine (rrbyt_st g2 r _ HOKR.out.hb HOKR.out.hl H2.out).mono ?_
          rintro e w4 ⟨y, rfl, h⟩
          obtain ⟨A4, c4, rfl, _, _, _⟩ := h.get 0 rfl
          have H := hide h
          clear H2 h
          go_wp2_with fail
          refine (same_true _ _ r.byt.1 _ (H.out.get 2 rfl) (H.out.get 0 rfl) H.out).mono ?_
          rintro e w5 ⟨rfl, h⟩
          have HS2 : Hid (Rd.asks ⟨bs, false⟩ (ks.take (k + 1)) = r.byt.2) := hide (by rw [HS.out]; unfold Rd.ask; rw [if_pos rfl])
          have H2 := hide h.tail.swap.tail
          generalize r.byt.2 = r' at *
          clear HS H h HOKR
          go_wp2_with fail
          refine (rdleft_st g r' _ H2.out.swap).mono ?_
          rintro e w6 ⟨rfl, h⟩
          have H := hide h
          clear H2 h
          go_wp2_with fail
          refine (rdend_st g r' _ H.out).mono ?_
          rintro e w7 ⟨rfl, h⟩
          have H2 := hide h.swap
          clear H h
          go_wp2_with fail
          refine (rrleft_st g2 r' _ H2.out).mono ?_
          rintro e w8 ⟨rfl, h⟩
          have H := hide h
          clear H2 h
          go_wp2_with fail
          refine (rrend_st g2 r' _ H.out).mono ?_
          rintro e w9 ⟨rfl, h⟩
          have H2 := hide h.swap
          clear H h
          go_wp2_with fail
          go_roundg (n - (k + 1))
          case measure => have := HGK.out; omega
          case rel => exact ⟨k + 1, rfl, hlt, by go_num, by rw [HS2.out]; exact H2.out⟩
        · have h9b := isF h9
          have HS2 : Hid (Rd.asks ⟨bs, false⟩ (ks.take (k + 1)) = (r.num f).2) := hide (by rw [HS.out]; unfold Rd.ask; rw [if_neg h9])
          clear h9
          go_wp2_with fail
          refine (rdnum_st g r f _ HOKR.out.hb HOKR.out.hl HOKR.out.hz H.out).mono ?_
          rintro e w3 ⟨rfl, h⟩
          have hx2 := HX.out
          obtain ⟨ad', y', e', _, _, hu, hcu⟩ := (h.get 3 rfl).sl.2.2.2.at_ hlt
          injection e' with e'
          subst e'
          rw [List.getElem?_map, hx2] at hu
          obtain rfl : Value.int .i64 f = y' := by simpa using hu
          have H2 := hide h.swap
          clear H h hu hx2
          go_wp2_with fail
          refine (rrnum_st g2 r f _ HOKR.out.hb H2.out).mono ?_
          rintro e w4 ⟨rfl, h⟩
          have H := hide h
          clear H2 h HS HOKR
          generalize (r.num f).2 = r' at *
          generalize (r.num f).1 = y at *
          have H2 := H
          clear H
          go_wp2_with fail
          refine (rdleft_st g r' _ H2.out.swap).mono ?_
          rintro e w6 ⟨rfl, h⟩
          have H := hide h
          clear H2 h
          go_wp2_with fail
          refine (rdend_st g r' _ H.out).mono ?_
          rintro e w7 ⟨rfl, h⟩
          have H2 := hide h.swap
          clear H h
          go_wp2_with fail
          refine (rrleft_st g2 r' _ H2.out).mono ?_
          rintro e w8 ⟨rfl, h⟩
          have H := hide h
          clear H2 h
          go_wp2_with fail
          refine (rrend_st g2 r' _ H.out).mono ?_
          rintro e w9 ⟨rfl, h⟩
          have H2 := hide h.swap
          clear H h
          go_wp2_with fail
          go_roundg (n - (k + 1))
          case measure => have := HGK.out; omega
          case rel => exact ⟨k + 1, rfl, hlt, by go_num, by rw [HS2.out]; exact H2.out⟩
      · go_wp2_with fail
        go_ret
        exact ⟨rfl, by rw [HN.out]; exact h.tail.tail⟩

end Go.Proofs.Ytdhkklcjhbnnlaa
