/- store: a request's message; an answer's bytes; what a message asks is done. -/
import Derived.Test.YtpaelngpmbeedaaGreatDoorCsG
namespace Go.Proofs.YtpaelngpmbeedaaGreatDoor
open Go.RowKit

theorem Blk.ten {w : World} {b : Nat} {t : TypeId} {v0 v1 v2 v3 v4 v5 v6 v7 v8 v9 : Value} (h : Blk w b t #[v0, v1, v2, v3, v4, v5, v6, v7, v8, v9]) :
    w.cell? ⟨b, 0, none⟩ = some v0 ∧ w.cell? ⟨b, 1, none⟩ = some v1 ∧ w.cell? ⟨b, 2, none⟩ = some v2 ∧ w.cell? ⟨b, 3, none⟩ = some v3 ∧ w.cell? ⟨b, 4, none⟩ = some v4 ∧ w.cell? ⟨b, 5, none⟩ = some v5 ∧ w.cell? ⟨b, 6, none⟩ = some v6 ∧ w.cell? ⟨b, 7, none⟩ = some v7 ∧ w.cell? ⟨b, 8, none⟩ = some v8 ∧ w.cell? ⟨b, 9, none⟩ = some v9 :=
  ⟨h.cell 0, h.cell 1, h.cell 2, h.cell 3, h.cell 4, h.cell 5, h.cell 6, h.cell 7, h.cell 8, h.cell 9⟩
/-- a message's cells: kind, from, to, index, whether it is OK, its bytes -/
abbrev msgC (k f t i : Int) (ok : Bool) (v : Value) : Array Value := #[.int .i64 k, .int .i64 f, .int .i64 t, .int .u64 0, .int .u64 i, .int .u64 0, .int .u64 0, .bool ok, v, .slice none 0 0]
abbrev msgV (k f t i : Int) (ok : Bool) (v : Value) : Value := .agg (msgC k f t i ok v)
theorem St.msgSet {M0 : Imm} {w : World} {L : List Res} {g : Nat} {ty : TypeId} {u0 u1 u2 u3 u4 u5 u6 u7 u8 u9 : Value} (h : St M0 w (blkR g ty #[u0, u1, u2, u3, u4, u5, u6, u7, u8, u9] :: L)) (v0 v1 v2 v3 v4 v5 v6 v7 v8 v9 : Value) :
    St M0 ((((((((((w.setCell ⟨g, 0, none⟩ v0).setCell ⟨g, 1, none⟩ v1).setCell ⟨g, 2, none⟩ v2).setCell ⟨g, 3, none⟩ v3).setCell ⟨g, 4, none⟩ v4).setCell ⟨g, 5, none⟩ v5).setCell ⟨g, 6, none⟩ v6).setCell ⟨g, 7, none⟩ v7).setCell ⟨g, 8, none⟩ v8).setCell ⟨g, 9, none⟩ v9) (blkR g ty #[v0, v1, v2, v3, v4, v5, v6, v7, v8, v9] :: L) := by
  have h0 : St M0 _ (blkR g ty #[v0, u1, u2, u3, u4, u5, u6, u7, u8, u9] :: L) := h.set_ 0 v0
  have h1 : St M0 _ (blkR g ty #[v0, v1, u2, u3, u4, u5, u6, u7, u8, u9] :: L) := h0.set_ 1 v1
  have h2 : St M0 _ (blkR g ty #[v0, v1, v2, u3, u4, u5, u6, u7, u8, u9] :: L) := h1.set_ 2 v2
  have h3 : St M0 _ (blkR g ty #[v0, v1, v2, v3, u4, u5, u6, u7, u8, u9] :: L) := h2.set_ 3 v3
  have h4 : St M0 _ (blkR g ty #[v0, v1, v2, v3, v4, u5, u6, u7, u8, u9] :: L) := h3.set_ 4 v4
  have h5 : St M0 _ (blkR g ty #[v0, v1, v2, v3, v4, v5, u6, u7, u8, u9] :: L) := h4.set_ 5 v5
  have h6 : St M0 _ (blkR g ty #[v0, v1, v2, v3, v4, v5, v6, u7, u8, u9] :: L) := h5.set_ 6 v6
  have h7 : St M0 _ (blkR g ty #[v0, v1, v2, v3, v4, v5, v6, v7, u8, u9] :: L) := h6.set_ 7 v7
  have h8 : St M0 _ (blkR g ty #[v0, v1, v2, v3, v4, v5, v6, v7, v8, u9] :: L) := h7.set_ 8 v8
  have h9 : St M0 _ (blkR g ty #[v0, v1, v2, v3, v4, v5, v6, v7, v8, v9] :: L) := h8.set_ 9 v9
  exact h9

set_option maxRecDepth 100000 in
set_option maxHeartbeats 4000000 in
theorem ask_ok {M0 : Imm} {L : List Res} (f t i : Int) (r : RQ) (A : Option Addr) (n c : Nat) (w : World) (hr : r.ok) (hw : r.wrong = 0) (h : St M0 w (intsR .u8 (.slice A n c) r.data :: L)) :
    Calls Tryz.prog 43 #[.int .i64 f, .int .i64 t, .int .u64 i, reqV r (.slice A n c)] w fun e w' => ∃ A2 c2, e = .returned (.tuple #[msgV 11 f t i false (.slice A2 (encQ r).length c2), .int .i64 0]) ∧ St M0 w' (intsR .u8 (.slice A2 (encQ r).length c2) (encQ r) :: L) := by
  have h1 := (h.alloc 42 #[.int .i64 r.op, .int .i64 r.region, .int .i64 r.index, .int .u64 r.token, .int .u32 r.seq, .slice A n c]).alloc 63 (msgC 0 0 0 0 false (.slice none 0 0))
  simp only [World.size_alloc] at h1
  obtain ⟨e0, e1, e2, e3, e4, e5⟩ := (h1.blk 1 rfl).six
  have H := hide (h1.sub (L' := intsR .u8 (.slice A n c) r.data :: blkR (w.heap.size + 1) 63 (msgC 0 0 0 0 false (.slice none 0 0)) :: L) (by (repeat (first | with_reducible exact Sub.refl _ | (with_reducible apply Sub.take; focus (repeat (first | with_reducible exact At.here | with_reducible apply At.there))) | with_reducible apply Sub.drop))))
  have HW := hide hw
  have HR := hide hr
  clear h h1 hw hr
  go_enter Tryz.func43, Tryz.ntmps43
  go_wp2_with fail
  refine (encode_st r A n c _ HR.out H.out).mono ?_
  rintro e w1 ⟨v, rfl, h⟩
  rw [HW.out]
  obtain ⟨A2, c2, rfl, _, _, _⟩ := h.get 0 rfl
  have H2 := hide h
  obtain ⟨z0, z1, z2, z3, z4, z5, z6, z7, z8, z9⟩ := (h.blk 1 rfl).ten
  have fz := (h.blk 1 rfl).frozen
  clear h H e0 e1 e2 e3 e4 e5
  go_wp2_with fail
  have h6 := H2.out.swap.msgSet (.int .i64 11) (.int .i64 f) (.int .i64 t) (.int .u64 0) (.int .u64 i) (.int .u64 0) (.int .u64 0) (.bool false) (.slice A2 (encQ r).length c2) (.slice none 0 0)
  obtain ⟨y0, y1, y2, y3, y4, y5, y6, y7, y8, y9⟩ := (h6.blk 0 rfl).ten
  refine bodyPost_ret (v := .tuple #[msgV 11 f t i false (.slice A2 (encQ r).length c2), .int .i64 0]) (results_cell2 (fn := Tryz.f43) (t := 8) (k := 9) (ty := 63) rfl _ rfl ?_) rfl ⟨A2, c2, rfl, h6.tail⟩
  go_simp
set_option maxRecDepth 100000 in
set_option maxHeartbeats 4000000 in
theorem ask_no {M0 : Imm} {L : List Res} (f t i : Int) (r : RQ) (A : Option Addr) (n c : Nat) (w : World) (hr : r.ok) (hw : ¬ r.wrong = 0) (h : St M0 w (intsR .u8 (.slice A n c) r.data :: L)) :
    Calls Tryz.prog 43 #[.int .i64 f, .int .i64 t, .int .u64 i, reqV r (.slice A n c)] w fun e w' => e = .returned (.tuple #[msgV 0 0 0 0 false (.slice none 0 0), .int .i64 r.wrong]) ∧ St M0 w' L := by
  have h1 := (h.alloc 42 #[.int .i64 r.op, .int .i64 r.region, .int .i64 r.index, .int .u64 r.token, .int .u32 r.seq, .slice A n c]).alloc 63 (msgC 0 0 0 0 false (.slice none 0 0))
  simp only [World.size_alloc] at h1
  obtain ⟨e0, e1, e2, e3, e4, e5⟩ := (h1.blk 1 rfl).six
  have H := hide (h1.sub (L' := intsR .u8 (.slice A n c) r.data :: blkR (w.heap.size + 1) 63 (msgC 0 0 0 0 false (.slice none 0 0)) :: L) (by (repeat (first | with_reducible exact Sub.refl _ | (with_reducible apply Sub.take; focus (repeat (first | with_reducible exact At.here | with_reducible apply At.there))) | with_reducible apply Sub.drop))))
  obtain ⟨ww, hww⟩ : ∃ ww, ww = r.wrong := ⟨_, rfl⟩
  rw [← hww] at hw ⊢
  have HWW := hide hww
  have hwb : (ww != 0) = true := by simp [hw]
  have HR := hide hr
  clear h h1 hw hr hww
  go_enter Tryz.func43, Tryz.ntmps43
  go_wp2_with fail
  refine (encode_st r A n c _ HR.out H.out).mono ?_
  rintro e w1 ⟨v, rfl, h⟩
  have H2 := hide h
  obtain ⟨z0, z1, z2, z3, z4, z5, z6, z7, z8, z9⟩ := (h.blk 1 rfl).ten
  have fz := (h.blk 1 rfl).frozen
  rw [← HWW.out]
  clear h H e0 e1 e2 e3 e4 e5
  go_wp2_with fail
  have h6 := H2.out.swap.msgSet (.int .i64 0) (.int .i64 0) (.int .i64 0) (.int .u64 0) (.int .u64 0) (.int .u64 0) (.int .u64 0) (.bool false) (.slice none 0 0) (.slice none 0 0)
  obtain ⟨y0, y1, y2, y3, y4, y5, y6, y7, y8, y9⟩ := (h6.blk 0 rfl).ten
  refine bodyPost_ret (v := .tuple #[msgV 0 0 0 0 false (.slice none 0 0), .int .i64 ww]) (results_cell2 (fn := Tryz.f43) (t := 8) (k := 9) (ty := 63) rfl _ rfl ?_) rfl ⟨rfl, h6.tail.tail⟩
  go_simp

/-! ### an answer's bytes -/
def ansB (code : Int) (l : List (List Int)) : List Int := numB code 1 ++ numB (l.length : Nat) 1 ++ l.flatMap bytB
theorem ans_take (l : List (List Int)) {k : Nat} {x : List Int} (h : l[k]? = some x) : (l.take (k + 1)).flatMap bytB = (l.take k).flatMap bytB ++ bytB x := by
  rw [List.take_add_one, h]
  simp
theorem ans_len : ∀ (l : List (List Int)), (l.flatMap bytB).length ≤ l.length * 1002
  | [] => by simp
  | x :: r => by
    have h1 := bytB_length x
    have h2 := ans_len r
    rw [List.flatMap_cons, List.length_append, List.length_cons]
    omega
set_option maxRecDepth 100000 in
set_option maxHeartbeats 4000000 in
theorem answer_st {M0 : Imm} {L : List Res} (code : Int) (v : Value) (l : List (List Int)) (w : World) (hc : 0 ≤ code ∧ code ≤ 1000) (hl : l.length ≤ 200) (h : St M0 w (rowsR 1 LogR v l :: L)) :
    Calls Tryz.prog 89 #[.int .i64 code, v] w fun e w' => ∃ A2 c2, e = .returned (.slice A2 (ansB code l).length c2) ∧ St M0 w' (intsR .u8 (.slice A2 (ansB code l).length c2) (ansB code l) :: L) := by
  obtain ⟨A, c, rfl, hc1, hc2⟩ := (h.getRows 0 rfl).slice
  obtain ⟨n, hn⟩ : ∃ n, n = l.length := ⟨_, rfl⟩
  rw [← hn] at h hc1 hl ⊢
  have h1 := St.addWr (xs := []) ((h.nilRow 5 1).alloc 97 #[.slice none 0 0]) rfl
  have H := hide h1
  have HN := hide hn
  have HL := hide hl
  obtain ⟨gw, hgw⟩ : ∃ gw, gw = w.heap.size := ⟨_, rfl⟩
  rw [← hgw] at H
  have HGW := hide hgw
  have w1 : IntKind.u64.wrap code = code := IntWalk.u64_in _ (by omega)
  have w2 : IntKind.u64.wrap (n : Int) = (n : Int) := IntWalk.u64_in _ (by omega)
  clear h h1 hn hl hgw
  go_enter Tryz.func89, Tryz.ntmps89
  go_wp2_with fail
  rw [← HGW.out]
  refine (num_st gw code 1 [] _ (by simp) H.out).mono ?_
  rintro e w3 ⟨rfl, h⟩
  have H3 := hide h
  clear h H
  go_wp2_with fail
  refine (num_st gw (n : Int) 1 _ _ (by simp [numI, numB_length]) H3.out).mono ?_
  rintro e w4 ⟨rfl, h⟩
  have h : St M0 w4 (wrR gw (numB code 1 ++ numB (n : Nat) 1 ++ (l.take 0).flatMap bytB) :: rowsR 1 LogR (.slice A n c) l :: L) := by
    have e : ([] ++ numI code 1 ++ numI (n : Int) 1) = numB code 1 ++ numB (n : Nat) 1 ++ (l.take 0).flatMap bytB := by
      rw [List.take_zero, List.flatMap_nil, List.append_nil, List.nil_append]
      rfl
    rw [← e]
    exact h
  have H4 := hide h
  clear h H3
  go_wp2_with fail
  go_loopg [17] n (fun gh i wr => ∃ k, gh = n - k ∧ k ≤ n ∧ i = .int .i64 (k : Nat) ∧ St M0 wr (wrR gw (numB code 1 ++ numB (n : Nat) 1 ++ (l.take k).flatMap bytB) :: rowsR 1 LogR (.slice A n c) l :: L))
  case atStart => exact ⟨0, rfl, by omega, rfl, H4.out⟩
  case round =>
    obtain ⟨k, hg, hk, rfl, h⟩ := hrel
    have HG := hide hg
    clear hg H4
    by_cases hlt : k < n
    · have hx := List.getElem?_eq_getElem (l := l) (i := k) (by rw [← HN.out]; exact hlt)
      generalize l[k]'(by rw [← HN.out]; exact hlt) = x at hx
      obtain ⟨ad, cs, rfl, _, hcs, ⟨vb, rfl, hvb⟩, h1⟩ := h.swap.elem 0 rfl hx
      obtain ⟨A2, c2, rfl, hc2, hm2, hs2⟩ := hvb
      have k0 : wr.cell? (ad.add k) = some (.slice A2 x.length c2) := by simpa [Addr.add] using hcs 0 _ rfl
      have HSN := hide (ans_take l hx)
      have h2 := h1.pers1 (R' := fun w' => Ints w' .u8 (.slice A2 x.length c2) x) (fun w' hi => by obtain ⟨_, v9, e9, hi⟩ := hi; injection e9 with e9 _; rw [e9]; exact hi)
      have H1 := hide (h2.sub (L' := wrR gw (numB code 1 ++ numB (n : Nat) 1 ++ (l.take k).flatMap bytB) :: intsR .u8 (.slice A2 x.length c2) x :: rowsR 1 LogR (.slice (some ad) n c) l :: L) (by (repeat (first | with_reducible exact Sub.refl _ | (with_reducible apply Sub.take; focus (repeat (first | with_reducible exact At.here | with_reducible apply At.there))) | with_reducible apply Sub.drop))))
      generalize hnx : x.length = nx at *
      have HB := hide (show (numB code 1 ++ numB (n : Nat) 1 ++ (l.take k).flatMap bytB).length ≤ 900000000 by
        have h5 := ans_len (l.take k)
        have h6 := HN.out
        have h7 := HL.out
        rw [List.length_take] at h5
        simp only [List.length_append, numB_length]
        omega)
      clear hx hcs h hs2 h1 h2 hnx hc2 hm2
      go_wp2_with fail
      refine (byt_st gw _ x _ _ HB.out H1.out).mono ?_
      rintro e w5 ⟨rfl, h⟩
      have H5 := hide h
      clear h H1 k0
      go_wp2_with fail
      go_roundg (n - (k + 1))
      case measure => have := HG.out; omega
      case rel =>
        refine ⟨k + 1, rfl, by omega, by go_num, ?_⟩
        rw [HSN.out, ← List.append_assoc]
        exact H5.out.sub (by (repeat (first | with_reducible exact Sub.refl _ | (with_reducible apply Sub.take; focus (repeat (first | with_reducible exact At.here | with_reducible apply At.there))) | with_reducible apply Sub.drop)))
    · obtain rfl : k = n := by omega
      have hfull : (l.take k).flatMap bytB = l.flatMap bytB := by rw [List.take_of_length_le (by rw [← HN.out]; omega)]
      rw [hfull] at h
      have E := hide (show ansB code l = numB code 1 ++ numB (k : Nat) 1 ++ l.flatMap bytB by unfold ansB; rw [← HN.out])
      rw [← E.out] at h
      have HB := hide (show (ansB code l).length ≤ 1000000000 by
        have h5 := ans_len l
        have h6 := HN.out
        have h7 := HL.out
        rw [E.out]
        simp only [List.length_append, numB_length]
        omega)
      have H1 := hide h
      clear h hfull hk hlt HG E
      go_wp2_with fail
      refine (out_st gw _ _ HB.out H1.out).mono ?_
      rintro e w6 ⟨v6, rfl, h⟩
      have h7 := h.ints
      obtain ⟨A6, c6, rfl, _, _, _⟩ := h7.get 0 rfl
      have H6 := hide h7
      clear h h7 H1
      go_wp2_with fail
      go_ret
      exact ⟨A6, c6, rfl, H6.out.sub (by (repeat (first | with_reducible exact Sub.refl _ | (with_reducible apply Sub.take; focus (repeat (first | with_reducible exact At.here | with_reducible apply At.there))) | with_reducible apply Sub.drop)))⟩
end Go.Proofs.YtpaelngpmbeedaaGreatDoor
