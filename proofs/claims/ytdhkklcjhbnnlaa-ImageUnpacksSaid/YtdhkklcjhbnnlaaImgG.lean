/- Encode and Decode (plain); one. -/
import Derived.Test.YtdhkklcjhbnnlaaImgF
import Derived.Test.YtdhkklcjhbnnlaaImgD
namespace Go.Proofs.Ytdhkklcjhbnnlaa
open Go.RowKit

theorem num_back (n : Int) (k : Nat) (h1 : 1 ≤ k) (h8 : k ≤ 8) (h0 : 0 ≤ n) (hn : n < 256 ^ k) (rest : List Int) : Rd.num ⟨numI n k ++ rest, false⟩ (k : Int) = (n, ⟨rest, false⟩) := by
  obtain ⟨m, rfl⟩ := Int.eq_ofNat_of_zero_le h0
  have e : numI (m : Int) (k : Int) = numB m k := by
    unfold numI
    rw [if_neg (by omega), Int.toNat_natCast]
  have hm : m < 256 ^ k := by
    have : ((256 ^ k : Nat) : Int) = (256 : Int) ^ k := by simp
    omega
  rw [e, Rd.num_append m k h1 h8, Nat.mod_eq_of_lt hm]
theorem byt_back (b : List Int) (h : b.length ≤ 1000) (rest : List Int) : Rd.byt ⟨bytB b ++ rest, false⟩ = (b, ⟨rest, false⟩) := by
  have h1 := Rd.fld_back ⟨9, 0, b⟩ (Int.le_refl 0) rfl (by unfold tooLong; simp; omega) rest
  have e : fldB ⟨9, 0, b⟩ = bytB b := if_pos rfl
  rw [e] at h1
  unfold Rd.fld at h1
  rw [if_pos rfl] at h1
  have h2 := congrArg (fun p => p.1.b) h1
  have h3 := congrArg Prod.snd h1
  simp only at h2 h3
  exact Prod.ext (h2.trans (by simp [Fld.norm])) h3
theorem dec_enc_req {r : RQ} (hr : r.ok) (hw : r.wrong = 0) : decQe (reqB r) = 0 ∧ decQ (reqB r) = r := by
  obtain ⟨z0, z1, z2, z3, z4, z5, z6⟩ := RQ.wrong_zero hw
  obtain ⟨t0, t1, s0, s1⟩ := hr
  have e : Rd.reqs ⟨reqB r, false⟩ = (r, ⟨[], false⟩) := by
    unfold reqB Rd.reqs
    have e1 : ∀ rest, Rd.num ⟨numI r.op 1 ++ rest, false⟩ 1 = (r.op, ⟨rest, false⟩) := num_back r.op 1 (by omega) (by omega) (by omega) (by omega)
    have e2 : ∀ rest, Rd.num ⟨numI r.region 1 ++ rest, false⟩ 1 = (r.region, ⟨rest, false⟩) := num_back r.region 1 (by omega) (by omega) (by omega) (by omega)
    have e3 : ∀ rest, Rd.num ⟨numI r.index 1 ++ rest, false⟩ 1 = (r.index, ⟨rest, false⟩) := num_back r.index 1 (by omega) (by omega) (by omega) (by omega)
    have e4 : ∀ rest, Rd.num ⟨numI r.token 8 ++ rest, false⟩ 8 = (r.token, ⟨rest, false⟩) := num_back r.token 8 (by omega) (by omega) (by omega) (by simpa using t1)
    have e5 : ∀ rest, Rd.num ⟨numI r.seq 4 ++ rest, false⟩ 4 = (r.seq, ⟨rest, false⟩) := num_back r.seq 4 (by omega) (by omega) (by omega) (by simpa using s1)
    have e6 := byt_back r.data (by omega) []
    rw [List.append_nil] at e6
    simp only [List.append_assoc, e1, e2, e3, e4, e5, e6]
  have e0 : decQe (reqB r) = 0 := by
    unfold decQe
    rw [e]
    show (if Rd.endE ⟨[], false⟩ = 0 then r.wrong else _) = 0
    rw [if_pos (by decide), hw]
  refine ⟨e0, ?_⟩
  unfold decQ
  rw [if_pos e0, e]
theorem bytB_bytes {b : List Int} (h : Bytes b) : Bytes (bytB b) := (numB_bytes _ _).append (h.take _)
theorem encQ_bytes {r : RQ} (h : Bytes r.data) : Bytes (encQ r) := by
  unfold encQ
  split
  · exact (((((numI_bytes _ _).append (numI_bytes _ _)).append (numI_bytes _ _)).append (numI_bytes _ _)).append (numI_bytes _ _)).append (bytB_bytes h)
  · exact Bytes.nil
theorem encQ_length (r : RQ) : (encQ r).length ≤ 1100 := by
  unfold encQ
  split
  · exact reqB_length r
  · simp

def OneP (x y : RQ) (w : World) (M0 : Imm) (L : List Res) (e : Ending) : Prop := ∃ b, e = .returned (.bool b) ∧ (x = y → b = true) ∧ St M0 w L
set_option maxRecDepth 100000 in
set_option maxHeartbeats 2000000 in
theorem one_st {M0 : Imm} {L : List Res} (x y : RQ) (A B : Option Addr) (n c m d : Nat) (w : World) (h : St M0 w (intsR .u8 (.slice A n c) x.data :: intsR .u8 (.slice B m d) y.data :: L)) :
    Calls Try.prog 53 #[reqV x (.slice A n c), reqV y (.slice B m d)] w fun e w' => OneP x y w' M0 L e := by
  have h1 := (h.alloc 69 #[.int .i64 x.op, .int .i64 x.region, .int .i64 x.index, .int .u64 x.token, .int .u32 x.seq, .slice A n c]).alloc 86 #[.int .i64 y.op, .int .i64 y.region, .int .i64 y.index, .int .u64 y.token, .int .u32 y.seq, .slice B m d]
  obtain ⟨xo, xr, xi, xt, xs, xd⟩ := x
  obtain ⟨yo, yr, yi, yt, ys, yd⟩ := y
  have H := hide h1
  clear h h1
  by_cases c0 : xo = yo
  · have b0 := isT c0
    by_cases c1 : xr = yr
    · have b1 := isT c1
      by_cases c2 : xi = yi
      · have b2 := isT c2
        by_cases c3 : xt = yt
        · have b3 := isT c3
          by_cases c4 : xs = ys
          · have b4 := isT c4
            clear c0 c1 c2 c3 c4
            go_enter Try.func53, Try.ntmps53
            go_wp2_with fail
            refine (same_st _ _ xd yd _ (H.out.get 2 rfl) (H.out.get 3 rfl) H.out).mono ?_
            rintro e w2 ⟨rfl, h⟩
            have H2 := hide h
            clear h H
            go_wp2_with fail
            go_ret
            exact ⟨_, rfl, fun h => by injection h with _ _ _ _ _ h; exact decide_eq_true h, H2.out.tail.tail.tail.tail⟩
          · have b4 := isF c4
            have C := hide c4
            clear c0 c1 c2 c3 c4
            go_enter Try.func53, Try.ntmps53
            go_wp2_with fail
            go_ret
            exact ⟨_, rfl, fun h => by injection h with _ _ _ _ h _; exact absurd h C.out, H.out.tail.tail.tail.tail⟩
        · have b3 := isF c3
          have C := hide c3
          clear c0 c1 c2 c3
          go_enter Try.func53, Try.ntmps53
          go_wp2_with fail
          go_ret
          exact ⟨_, rfl, fun h => by injection h with _ _ _ h _ _; exact absurd h C.out, H.out.tail.tail.tail.tail⟩
      · have b2 := isF c2
        have C := hide c2
        clear c0 c1 c2
        go_enter Try.func53, Try.ntmps53
        go_wp2_with fail
        go_ret
        exact ⟨_, rfl, fun h => by injection h with _ _ h _ _ _; exact absurd h C.out, H.out.tail.tail.tail.tail⟩
    · have b1 := isF c1
      have C := hide c1
      clear c0 c1
      go_enter Try.func53, Try.ntmps53
      go_wp2_with fail
      go_ret
      exact ⟨_, rfl, fun h => by injection h with _ h _ _ _ _; exact absurd h C.out, H.out.tail.tail.tail.tail⟩
  · have b0 := isF c0
    have C := hide c0
    clear c0
    go_enter Try.func53, Try.ntmps53
    go_wp2_with fail
    go_ret
    exact ⟨_, rfl, fun h => by injection h with h _ _ _ _ _; exact absurd h C.out, H.out.tail.tail.tail.tail⟩

end Go.Proofs.Ytdhkklcjhbnnlaa
