/- slices.Delete at the journal's records: all of them. -/
import Derived.Test.YtpaelngpmbeedaaGreatDoorCkAZ
import Derived.Lib.SliceRun
import Derived.Deep.RegionLaw
import Derived.Shelf.RegionOpenPlain
namespace Go.Proofs.YtpaelngpmbeedaaGreatDoor
open Go.RowKit Go.Shelf Go.Lib

section
variable {M0 : Imm} {w : World} {L : List Res} {e : TypeId} {size : Nat}
/-- part of a row written over -/
theorem St.rowSplJ {b n c : Nat} {xs : List Value} (h : St M0 w (rowR e size (.slice (some ⟨b, 0, none⟩) n c) n xs :: L)) (o : Nat) (ys : List Value) (ho : o + ys.length ≤ n * size) :
    St M0 (w.setCells b o ys) (rowR e size (.slice (some ⟨b, 0, none⟩) n c) n (splice xs o ys) :: L) :=
  h.app (own_setCells (h.row 0 rfl) o ho) (fr_setCells b ys o w (Fr.refl _ _) (fun _ => rfl)) (.inl rfl)
/-- less of a row -/
theorem St.rowLesJ {A : Option Addr} {n c m : Nat} {xs : List Value} (h : St M0 w (rowR e size (.slice A n c) n xs :: L)) (hm : m ≤ n) :
    St M0 w (rowR e size (.slice A m c) m (xs.take (m * size)) :: L) := by
  refine h.app (w' := w) ?_ (Fr.refl _ _) (.inl (by cases A <;> rfl))
  have hle : m * size ≤ n * size := Nat.mul_le_mul_right _ hm
  obtain ⟨hl, h2⟩ := h.row 0 rfl
  refine ⟨by rw [List.length_take]; omega, ?_⟩
  rcases h2 with ⟨e1, e2⟩ | ⟨g, cap, cur, e1, hg, hh, hn, hc, hs, ht⟩
  · injection e1 with a1 a2 a3
    exact .inl ⟨by rw [a1, a3, show m = 0 by omega], by omega⟩
  · injection e1 with a1 a2 a3
    exact .inr ⟨g, cap, cur, by rw [a1, a3], hg, hh, by omega, hc, hs, by rw [← ht, List.take_take, Nat.min_eq_left hle]⟩
theorem run_clear_cells {P : Program} (w : World) (t e ty : TypeId) (z : Value) (ht : P.underlying t = some (.slice e)) (hv : ∀ w, (zeroValue e).run P w = .ok z w) (b n c : Nat) (zs : List Value) (hz : (Builtin.zeroCells z.cells n).toList = zs) (h1 : ∀ u ∈ zs, u.oneCell' = true) (hn : 0 < n)
    (hc : ∀ j, j < zs.length → (w.cell? ⟨b, 0 + j, none⟩).isSome = true) (hf : ∀ j, j < zs.length → w.frozen? ⟨b, 0 + j, none⟩ = false) :
    (Builtin.clear_ #[t] ty #[.slice (some ⟨b, 0, none⟩) n c]).run P w = .ok (.tuple #[]) (w.setCells b 0 zs) := by
  have hst := run_storeCells_cells (P := P) b 0 zs 0 w (by simpa using hc) (by simpa using hf) h1
  simp only [Nat.add_zero] at hst
  obtain ⟨m, rfl⟩ : ∃ m, n = m + 1 := ⟨n - 1, by omega⟩
  simp [Builtin.clear_, run_underlying ht, hv, hz, hst]
end
set_option maxHeartbeats 4000000 in
set_option maxRecDepth 1000000 in
theorem del_st {M0 : Imm} {L : List Res} (A : Option Addr) (k c : Nat) (hl : List RecJ) (w : World) (hk : k ≤ 100) (h : St M0 w (growR 158 2 RecJR (.slice A k c) hl :: L)) :
    Calls Tryz.prog 86 #[.slice A k c, .int .i64 0, .int .i64 (k : Nat)] w fun e w' => e = .returned (.slice A 0 c) ∧ St M0 w' (growR 158 2 RecJR (.slice A 0 c) [] :: L) := by
  obtain ⟨vs, hq, hl2, h1⟩ := h.openGrowS
  have hown := h1.row 0 rfl
  have hz : ∀ w, (zeroValue 158).run Tryz.prog w = .ok (.agg #[.int .u32 0, .slice none 0 0]) w := fun w => by kernel_rfl
  by_cases h0 : k = 0
  · subst h0
    have hnil : hl = [] := List.eq_nil_of_length_eq_zero hq.symm
    subst hnil
    have hcm : 0 ≤ c := Nat.zero_le _
    have H := hide h
    clear h h1 hown hz hl2 hq
    go_enter Tryz.func86, Tryz.ntmps86
    go_wp2
    all_goals
      go_ret
      exact ⟨rfl, H.out⟩
  · obtain ⟨b, rfl⟩ := own_form hown (by omega)
    obtain ⟨cur, hb, ht, hs, hkc, hcm, _⟩ := own_blk hown
    have hcm : c ≤ 9223372036854775807 := hcm
    obtain ⟨A, hA⟩ : ∃ A : Addr, (if c = k then some (⟨b, 0, none⟩ : Addr) else some ⟨b, k * 2, none⟩) = some A := by split <;> exact ⟨_, rfl⟩
    obtain ⟨zs, hzs⟩ : ∃ zs, (Builtin.zeroCells (Value.agg #[.int .u32 0, .slice none 0 0]).cells k).toList = zs := ⟨_, rfl⟩
    have hzl : zs.length = k * 2 := by rw [← hzs]; simp [Builtin.zeroCells, Value.cells]
    have hz1 : ∀ u ∈ zs, u.oneCell' = true := by
      rw [← hzs]
      intro u hu
      simp only [Builtin.zeroCells, Array.toList_map, List.mem_map] at hu
      obtain ⟨i, _, rfl⟩ := hu
      have : i % 2 = 0 ∨ i % 2 = 1 := by omega
      rcases this with h | h <;> simp [Value.cells, h, Value.oneCell']
    have h2 := h1.drew
    have hth := own_there (h2.row 0 rfl) 0 (k * 2) (by omega)
    have hcl : ∀ ty, (Builtin.clear_ #[135] ty #[.slice (some ⟨b, 0, none⟩) k c]).run Tryz.prog w.drew = .ok (.tuple #[]) (w.drew.setCells b 0 zs) :=
      fun ty => run_clear_cells w.drew _ _ ty _ Tryz.underlying135 hz b k c zs hzs hz1 (by omega) (fun j hj => (hth j (by omega)).1) (fun j hj => (hth j (by omega)).2)
    have h3 := (h2.rowSplJ 0 zs (by omega)).rowLesJ (m := 0) (Nat.zero_le _)
    have H3 := hide h3
    clear hth h h1 h2 h3 hown hb ht hs hz hzs hz1 hq hl2 hzl
    have mixed : Tryz.prog.follows Departure.mixedOrders = true := by kernel_rfl
    have d0 : ((0 : Int) == (k : Int)) = false := isF (by omega)
    have d1 : ((k : Int) == (0 : Int)) = false := isF (by omega)
    go_enter Tryz.func86, Tryz.ntmps86
    go_wp2_with fail
    go_region_law_o (refine step_append_room rfl (.tmp 22) (.tmp 25) 135 rfl 158 _ 2 Tryz.underlying135 rfl rfl b 0 0 c (by simp [Act.eval, Act.put]) A 0 (c - k) [] (by simp [Act.eval, Act.put]) rfl (by simp) (by simp) (by omega) (by simp) ?_; rw [World.setCells])
    go_wp2
    go_ret
    refine ⟨rfl, ?_⟩
    have h4 : St M0 (w.drew.setCells b 0 zs) (rowR 158 2 (.slice (some ⟨b, 0, none⟩) 0 c) 0 [] :: L) := H3.out.swap.tail
    exact St.addEx (f := fun vs => starR (rowR 158 2 (.slice (some ⟨b, 0, none⟩) 0 c) ([] : List RecJ).length vs) (persR (fun w => ∀ (i : Nat) x, ([] : List RecJ)[i]? = some x → RecJR w ((vs.drop (i * 2)).take 2) x))) [] ((h4.pers0 (fun w' _ i x hi => by simp at hi)).swap).addStar
end Go.Proofs.YtpaelngpmbeedaaGreatDoor
/- journal.Trim: of all that is held. -/
namespace Go.Proofs.YtpaelngpmbeedaaGreatDoor
open Go.RowKit Go.Shelf

def JM.lowT (J : JM) : Int := ((J.held.getLast?).map Prod.fst).getD J.low
def JM.trim (J : JM) : JM := { J with first := J.first + (J.held.length : Nat), low := J.lowT, held := [] }
theorem JOk.trim {J : JM} (h : JOk J) (hf : J.first + (J.held.length : Nat) ≤ 4000000000) : JOk J.trim where
  a0 := h.a0
  n0 := h.n0
  f0 := ⟨by have := h.f0; show 0 ≤ J.first + _; omega, hf⟩
  e0 := h.e0
  l0 := by
    show 0 ≤ J.lowT ∧ J.lowT < _
    unfold JM.lowT
    cases hx : J.held.getLast? with
    | none => exact h.l0
    | some x => exact (h.b0 x (List.mem_of_getLast? hx)).2.2
  h0 := Nat.zero_le _
  b0 := fun x hx => by simp [JM.trim] at hx
set_option maxHeartbeats 4000000 in
set_option maxRecDepth 100000 in
theorem jTrim_st {M0 : Imm} {L : List Res} (hT : Tbl M0) (g gd kk : Nat) (D : DS) (J : JM) (n : Nat) (w : World) (hn0 : n = J.held.length) (hD : DsOk D kk) (hkk : kk ≤ 900000) (hJ : JOk J) (hf : J.first + (J.held.length : Nat) ≤ 4000000000) (ha : 0 ≤ J.at_ ∧ J.at_ + 1 < (D.n : Int)) (h : St M0 w (jR g gd J :: dsR gd D :: L)) :
    Calls Tryz.prog 40 #[.pointer (some ⟨g, 0, none⟩), .int .i64 (n : Nat)] w fun e w' => e = .returned (.int .i64 (saveE D J.at_ J.trim.slot)) ∧ St M0 w' (jR g gd J.trim :: dsR gd (saveD D J.at_ J.trim.slot) :: L) := by
  obtain ⟨A, c, h1⟩ := h.jO
  have hJ2 := hJ.trim hf
  obtain ⟨ja, jn, jf, je, jl, hl⟩ := J
  have hf : jf + (hl.length : Nat) ≤ 4000000000 := hf
  have hjf : 0 ≤ jf ∧ jf ≤ 4000000000 := hJ.f0
  have hlt : hl.length ≤ 100 := by have h1 : hl.length ≤ jn := hJ.h0; have h2 : 1 ≤ jn ∧ jn ≤ 100 := hJ.n0; omega
  have hn : n = hl.length := hn0
  clear hn0
  have h1 : St M0 w (blkR g 137 #[.pointer (some ⟨gd, 0, none⟩), .int .i64 ja, .int .i64 (jn : Nat), .int .u32 jf, .int .u32 je, .int .u32 jl, .slice A hl.length c] :: growR 158 2 RecJR (.slice A hl.length c) hl :: dsR gd D :: L) := h1
  obtain ⟨jl2, hjl2⟩ : ∃ x, x = JM.lowT ⟨ja, jn, jf, je, jl, hl⟩ := ⟨_, rfl⟩
  obtain ⟨jf2, hjf2⟩ : ∃ x, x = jf + (hl.length : Nat) := ⟨_, rfl⟩
  have ET : JM.trim ⟨ja, jn, jf, je, jl, hl⟩ = ⟨ja, jn, jf2, je, jl2, []⟩ := by rw [hjl2, hjf2]; rfl
  rw [ET] at hJ2 ⊢
  rw [← hn] at h1 hjf2 hlt
  have HS := hide (fun (w' : World) (h' : St M0 w' (jR g gd ⟨ja, jn, jf2, je, jl2, []⟩ :: dsR gd D :: L)) => jSave_st hT g gd kk D ⟨ja, jn, jf2, je, jl2, []⟩ w' hD hkk hJ2 ha h')
  have w1 : IntKind.u32.wrap (n : Int) = (n : Int) := u64_u32 (by omega)
  have w2 : IntKind.u32.wrap (jf + (n : Int)) = jf2 := by rw [← hjf2]; exact u64_u32 (by omega)
  have HDl := hide (fun (A' : Option Addr) (w' : World) (h' : St M0 w' (growR 158 2 RecJR (.slice A' n c) hl :: blkR g 137 #[.pointer (some ⟨gd, 0, none⟩), .int .i64 ja, .int .i64 (jn : Nat), .int .u32 jf2, .int .u32 je, .int .u32 jl2, .slice A' n c] :: dsR gd D :: L)) => del_st A' n c hl w' hlt h')
  by_cases h0 : n = 0
  · have hnil : hl = [] := List.eq_nil_of_length_eq_zero (hn.symm.trans h0)
    subst hnil
    subst h0
    have e2 : jl2 = jl := hjl2
    subst e2
    have e3 : jf2 = jf := by rw [hjf2]; exact Int.add_zero _
    subst e3
    clear w2 w1
    have w1 : IntKind.u32.wrap jf2 = jf2 := u64_u32 (by omega)
    have f := (h1.blk 0 rfl).frozen
    have c3 := (h1.blk 0 rfl).cell 3
    have c6 := (h1.blk 0 rfl).cell 6
    have h2 := h1.put_ 3 (.int .u32 jf2) #[.pointer (some ⟨gd, 0, none⟩), .int .i64 ja, .int .i64 (jn : Nat), .int .u32 jf2, .int .u32 je, .int .u32 jl2, .slice A 0 c]
    have y6 := (h2.blk 0 rfl).cell 6
    have H2 := hide h2.swap
    clear h h1 h2 hJ hJ2 hD ha hn hjf2 hjl2 ET hf hjf
    go_enter Tryz.func40, Tryz.ntmps40
    go_wp2_with fail
    clear y6 c3 c6 f
    refine (HDl.out A _ H2.out).mono ?_
    rintro e w2 ⟨rfl, h⟩
    have h3 := h.swap
    have f := (h3.blk 0 rfl).frozen
    have c6 := (h3.blk 0 rfl).cell 6
    have h4 := h3.put_ 6 (.slice A 0 c) #[.pointer (some ⟨gd, 0, none⟩), .int .i64 ja, .int .i64 (jn : Nat), .int .u32 jf2, .int .u32 je, .int .u32 jl2, .slice A 0 c]
    have H4 := hide (St.addJk (hl := []) rfl h4)
    clear h h3 h4 H2 HDl
    go_wp2_with fail
    refine (HS.out _ H4.out).mono ?_
    rintro e w3 ⟨rfl, h⟩
    have H5 := hide h
    clear h H4 HS f c6
    go_wp2_with fail
    go_ret
    exact ⟨rfl, H5.out⟩
  · have hx := List.getElem?_eq_getElem (l := hl) (i := n - 1) (by omega)
    generalize hl[n - 1]'(by omega) = x at hx
    obtain ⟨ad, cs, hA, _, hcs, ⟨A2, c2, rfl, hs2⟩, hz, h2⟩ := h1.swap.elemJ (by decide) hx
    subst hA
    obtain ⟨xe, xb⟩ := x
    have e2 : jl2 = xe := by rw [hjl2]; show ((hl.getLast?).map Prod.fst).getD jl = xe; rw [List.getLast?_eq_getElem?, ← hn, hx]; rfl
    subst e2
    obtain ⟨m, hm⟩ : ∃ m : Nat, m = n - 1 := ⟨_, rfl⟩
    rw [← hm] at hcs
    have k0 : w.cell? (ad.add (m * 2)) = some (.int .u32 jl2) := hcs 0 _ rfl
    have n1 : IntKind.i64.wrap ((n : Int) - 1) = (m : Int) := (IntWalk.i64_in _ (by omega)).trans (by omega)
    have n2 : (m : Int) < (n : Int) := by omega
    have n2' : m < n := by omega
    have n3 : (0 : Int) ≤ (m : Int) := by omega
    have d0 : decide ((n : Int) > 0) = true := decide_eq_true (by omega)
    have d0' : decide (0 < n) = true := decide_eq_true (by omega)
    have f := (h1.blk 0 rfl).frozen
    have c3 := (h1.blk 0 rfl).cell 3
    have c5 := (h1.blk 0 rfl).cell 5
    have c6 := (h1.blk 0 rfl).cell 6
    have h2 := h1.put_ 5 (.int .u32 jl2) #[.pointer (some ⟨gd, 0, none⟩), .int .i64 ja, .int .i64 (jn : Nat), .int .u32 jf, .int .u32 je, .int .u32 jl2, .slice (some ad) n c]
    have x3 := (h2.blk 0 rfl).cell 3
    have f2 := (h2.blk 0 rfl).frozen
    have h3 := h2.put_ 3 (.int .u32 jf2) #[.pointer (some ⟨gd, 0, none⟩), .int .i64 ja, .int .i64 (jn : Nat), .int .u32 jf2, .int .u32 je, .int .u32 jl2, .slice (some ad) n c]
    have y6 := (h3.blk 0 rfl).cell 6
    have H2 := hide h3.swap
    clear h h1 h2 h3 hJ hJ2 hD ha hn hjf2 hjl2 ET hf hjf hx hcs hz hs2 hm h0
    go_enter Tryz.func40, Tryz.ntmps40
    go_wp2_with fail
    clear y6 c3 c5 x3 c6 f f2 k0 n1 n2 n2' n3 d0 d0' w1 w2
    refine (HDl.out (some ad) _ H2.out).mono ?_
    rintro e w2 ⟨rfl, h⟩
    have h3 := h.swap
    have f := (h3.blk 0 rfl).frozen
    have c6 := (h3.blk 0 rfl).cell 6
    have h4 := h3.put_ 6 (.slice (some ad) 0 c) #[.pointer (some ⟨gd, 0, none⟩), .int .i64 ja, .int .i64 (jn : Nat), .int .u32 jf2, .int .u32 je, .int .u32 jl2, .slice (some ad) 0 c]
    have H4 := hide (St.addJk (hl := []) rfl h4)
    clear h h3 h4 H2 HDl
    go_wp2_with fail
    refine (HS.out _ H4.out).mono ?_
    rintro e w3 ⟨rfl, h⟩
    have H5 := hide h
    clear h H4 HS f c6
    go_wp2_with fail
    go_ret
    exact ⟨rfl, H5.out⟩
end Go.Proofs.YtpaelngpmbeedaaGreatDoor
/- journal.Open: the good road. -/
namespace Go.Proofs.YtpaelngpmbeedaaGreatDoor
open Go.RowKit Go.Shelf

/-! ### plain -/
theorem scanL_all {D : DS} {k : Nat} (hD : DsOk D k) {a : Int} {n : Nat} {first ep : Int} : ∀ (f : Nat) (low : Int) (acc : List RecJ), (∀ x ∈ acc, x.2.length ≤ 43 ∧ Bytes x.2 ∧ 0 ≤ x.1 ∧ x.1 < 4294967296) →
    (scanL D a n first ep f low acc).length ≤ acc.length + f ∧ ∀ x ∈ scanL D a n first ep f low acc, x.2.length ≤ 43 ∧ Bytes x.2 ∧ 0 ≤ x.1 ∧ x.1 < 4294967296
  | 0, _, acc, h => ⟨Nat.le_refl _, h⟩
  | f + 1, low, acc, h => by
    cases hs : scanOk (scanP D a n first acc.length) (first + (acc.length : Nat)) low ep with
    | false => rw [scanL_no hs]; exact ⟨by omega, h⟩
    | true =>
      rw [scanL_go hs]
      have hb : Bytes (D.read (a + 2 + (first + (acc.length : Nat)) % (n : Nat))) := DS.read_bytes hD.b _
      have hr := parseM_range hb
      have hy := parseM_bytes hb
      have ih := scanL_all hD (a := a) (n := n) (first := first) (ep := ep) f (scanP D a n first acc.length).e (acc ++ [((scanP D a n first acc.length).e, (scanP D a n first acc.length).b)]) (fun x hx => by
        rcases List.mem_append.1 hx with hx | hx
        · exact h x hx
        · obtain rfl := List.mem_singleton.1 hx
          exact ⟨hr.2.2.2.2, hy, hr.2.2.1, hr.2.2.2.1⟩)
      refine ⟨?_, ih.2⟩
      have := ih.1
      rw [List.length_append] at this
      simp only [List.length_cons, List.length_nil] at this
      omega
def jNew (at_ : Int) (n : Nat) : JM := ⟨at_, n, 1, 0, 0, []⟩
def jMetaJ (D : DS) (at_ : Int) (n : Nat) : JM := if loadE D at_ = 0 then ⟨at_, n, (metaA (loadB D at_)).1, (metaB (loadB D at_)).1, (metaC (loadB D at_)).1, []⟩ else jNew at_ n
def jScanJ (D : DS) (at_ : Int) (n : Nat) : JM := { jMetaJ D at_ n with held := (jMetaJ D at_ n).scan D }
def jOpenJ (D : DS) (at_ : Int) (n : Nat) : JM := { jScanJ D at_ n with ep := (jMetaJ D at_ n).ep + 1 }
def jOpenD (D : DS) (at_ : Int) (n : Nat) : DS := saveD D at_ (jOpenJ D at_ n).slot
/-- what makes it go well -/
structure JoOk (D : DS) (at_ : Int) (n : Nat) : Prop where
  a0 : 0 ≤ at_ ∧ at_ + 2 + (n : Int) ≤ (D.n : Int) ∧ at_ ≤ 1000
  n0 : 1 ≤ n ∧ n ≤ 100
  m : loadE D at_ = 0 → metaOk (loadB D at_) = true
  f : 0 ≤ (jMetaJ D at_ n).first ∧ (jMetaJ D at_ n).first ≤ 4000000000
  e : 0 ≤ (jMetaJ D at_ n).ep ∧ (jMetaJ D at_ n).ep < 4294967295
  l : 0 ≤ (jMetaJ D at_ n).low ∧ (jMetaJ D at_ n).low < 4294967296
  s : saveE D at_ (jOpenJ D at_ n).slot = 0
theorem jMetaJ_at (D : DS) (at_ : Int) (n : Nat) : (jMetaJ D at_ n).at_ = at_ ∧ (jMetaJ D at_ n).n = n ∧ (jMetaJ D at_ n).held = [] := by
  unfold jMetaJ
  split <;> exact ⟨rfl, rfl, rfl⟩
theorem JoOk.meta {D : DS} {at_ : Int} {n : Nat} (h : JoOk D at_ n) : JOk (jMetaJ D at_ n) where
  a0 := by rw [(jMetaJ_at D at_ n).1]; exact ⟨h.a0.1, h.a0.2.2⟩
  n0 := by rw [(jMetaJ_at D at_ n).2.1]; exact h.n0
  f0 := h.f
  e0 := by have := h.e; omega
  l0 := h.l
  h0 := by rw [(jMetaJ_at D at_ n).2.2]; exact Nat.zero_le _
  b0 := fun x hx => by rw [(jMetaJ_at D at_ n).2.2] at hx; simp at hx
theorem JoOk.open {D : DS} {at_ : Int} {n k : Nat} (hD : DsOk D k) (h : JoOk D at_ n) : JOk (jOpenJ D at_ n) where
  a0 := h.meta.a0
  n0 := h.meta.n0
  f0 := h.f
  e0 := by have := h.e; show 0 ≤ (jMetaJ D at_ n).ep + 1 ∧ (jMetaJ D at_ n).ep + 1 < _; omega
  l0 := h.l
  h0 := by
    have := (scanL_all hD (jMetaJ D at_ n).n (jMetaJ D at_ n).low [] (fun x hx => by simp at hx) (a := (jMetaJ D at_ n).at_) (n := (jMetaJ D at_ n).n) (first := (jMetaJ D at_ n).first) (ep := (jMetaJ D at_ n).ep)).1
    simp only [List.length_nil, Nat.zero_add] at this
    exact this
  b0 := (scanL_all hD (jMetaJ D at_ n).n (jMetaJ D at_ n).low [] (fun x hx => by simp at hx)).2
set_option maxHeartbeats 8000000 in
set_option maxRecDepth 100000 in
theorem jOpen_st {M0 : Imm} {L : List Res} (hT : Tbl M0) (gd kk : Nat) (D : DS) (at_ : Int) (n : Nat) (w : World) (hD : DsOk D kk) (hkk : kk ≤ 900000) (hO : JoOk D at_ n) (h : St M0 w (dsR gd D :: L)) :
    Calls Tryz.prog 33 #[.pointer (some ⟨gd, 0, none⟩), .int .i64 at_, .int .i64 (n : Nat)] w fun e w' => ∃ g V, e = .returned (.tuple #[.pointer (some ⟨g, 0, none⟩), V, .int .i64 0]) ∧ St M0 w' (rowsR 1 LogR V (jOpenJ D at_ n).all :: jR g gd (jOpenJ D at_ n) :: dsR gd (jOpenD D at_ n) :: L) := by
  have HD := hide hD
  have HO := hide hO
  have hn := hO.n0
  have ha := hO.a0
  have hdn := hD.ok.n2
  have v1 : IntKind.i64.wrap (D.n - 2) = D.n - 2 := IntWalk.i64_in _ (by omega)
  have v2 : IntKind.i64.wrap (D.n - 2 - (n : Int)) = D.n - 2 - (n : Int) := IntWalk.i64_in _ (by omega)
  have d1 : decide ((n : Int) < 1) = false := decide_eq_false (by omega)
  have d2 : decide ((n : Int) > 100) = false := decide_eq_false (by omega)
  have d2' : decide (100 < n) = false := decide_eq_false (by omega)
  have d2'' : decide (n < 1) = false := decide_eq_false (by omega)
  have d3 : decide (at_ < 0) = false := decide_eq_false (by omega)
  have d4 : decide (at_ > D.n - 2 - (n : Int)) = false := decide_eq_false (by omega)
  have d4' : decide (D.n - 2 - (n : Int) < at_) = false := d4
  have HA := hide (show 0 ≤ at_ ∧ at_ + 1 < (D.n : Int) by omega)
  have H := hide h
  clear h hD hO hn ha hdn
  go_enter Tryz.func33, Tryz.ntmps33
  go_wp2_with (go_at_call 69; refine (len_ds H.out).mono ?_; rintro e w1 ⟨rfl, h⟩; have H1 := hide h; clear h H)
  have h2 := (H1.out.alloc 137 #[.pointer (some ⟨gd, 0, none⟩), .int .i64 at_, .int .i64 (n : Nat), .int .u32 1, .int .u32 0, .int .u32 0, .slice none 0 0]).nilGrow 158 2 RecJR
  have h3 := (St.addJk (hl := []) rfl h2.swap).swap
  obtain ⟨g, hg⟩ : ∃ g, g = w1.heap.size := ⟨_, rfl⟩
  rw [← hg] at h3 ⊢
  clear v1 v2 d1 d2 d2' d2'' d3 d4 d4' H1 hg h2
  refine (slLoad_st hT gd kk D at_ _ HD.out HA.out h3).mono ?_
  rintro e w2 ⟨A1, c1, rfl, h⟩
  clear h3
  have hE : loadE D at_ = 41 ∨ loadE D at_ = 0 := by unfold loadE; split <;> simp
  have hLB := loadB_len HD.out.b at_
  obtain ⟨je, hje⟩ : ∃ je, je = (jMetaJ D at_ n).ep := ⟨_, rfl⟩
  have de : (je == 4294967295) = false := isF (by rw [hje]; have := HO.out.e; omega)
  have we : IntKind.u32.wrap (je + 1) = je + 1 := u64_u32 (by rw [hje]; have := HO.out.e; omega)
  have HJE := hide hje
  have HS := hide (fun (w' : World) (h' : St M0 w' (jR g gd (jMetaJ D at_ n) :: dsR gd D :: L)) => jScan_st hT g gd kk D (jMetaJ D at_ n) w' HD.out HO.out.meta (jMetaJ_at D at_ n).2.2 h')
  have HSC := hide (fun (w' : World) (h' : St M0 w' (jR g gd (jMetaJ D at_ n) :: dsR gd D :: L)) => (by obtain ⟨A, c, h1⟩ := h'.jO; rw [hje]; exact (h1.blk 0 rfl).cell 4 : w'.cell? ⟨g, 4, none⟩ = some (.int .u32 je)))
  rcases hE with hE | hE
  case' inr =>
    have HJ := hide (show jMetaJ D at_ n = ⟨at_, n, (metaA (loadB D at_)).1, (metaB (loadB D at_)).1, (metaC (loadB D at_)).1, []⟩ from if_pos hE)
    have HM := hide (HO.out.m hE)
    have HH := hide (h.sub (L' := jR g gd ⟨at_, n, 1, 0, 0, []⟩ :: intsR .u8 (.slice A1 (loadB D at_).length c1) (loadB D at_) :: dsR gd D :: L) (by (repeat (first | with_reducible exact Sub.refl _ | (with_reducible apply Sub.take; focus (repeat (first | with_reducible exact At.here | with_reducible apply At.there))) | with_reducible apply Sub.drop))))
    have HLB := hide hLB
    rw [hE]
    clear h hE hLB hje
    go_wp2_with (go_at_call 71; refine (jMeta_st g gd _ _ _ _ HLB.out.2 (by have := HLB.out.1; omega) HH.out).mono ?_; rintro e w3 ⟨rfl, h⟩; rw [HM.out]; have H3 : Hid (St M0 w3 (jR g gd (jMetaJ D at_ n) :: dsR gd D :: L)) := (by rw [HJ.out]; exact h); have c4 := HSC.out _ H3.out; clear h HH)
  case' inl =>
    have HJ := hide (show jMetaJ D at_ n = ⟨at_, n, 1, 0, 0, []⟩ from if_neg (by rw [hE]; decide))
    have H3 : Hid (St M0 w2 (jR g gd (jMetaJ D at_ n) :: dsR gd D :: L)) := by rw [HJ.out]; exact h.sub (by (repeat (first | with_reducible exact Sub.refl _ | (with_reducible apply Sub.take; focus (repeat (first | with_reducible exact At.here | with_reducible apply At.there))) | with_reducible apply Sub.drop)))
    have c4 := HSC.out _ H3.out
    rw [hE]
    clear h hE hLB hje
    go_wp2_with fail
  all_goals
    refine (HS.out _ H3.out).mono ?_
    rintro e w4 ⟨rfl, h⟩
    clear c4 H3 HS HSC
    have h : St M0 w4 (jR g gd (jScanJ D at_ n) :: dsR gd D :: L) := h
    have hop : jOpenJ D at_ n = { jScanJ D at_ n with ep := je + 1 } := by rw [HJE.out]; rfl
    have hep : (jScanJ D at_ n).ep = je := HJE.out.symm
    generalize jScanJ D at_ n = JS at h hop hep
    obtain ⟨ja, jn, jf, je2, jl, hl⟩ := JS
    have hep : je2 = je := hep
    subst hep
    obtain ⟨A, c, h1⟩ := h.jO
    have c4 := (h1.blk 0 rfl).cell 4
    have f := (h1.blk 0 rfl).frozen
    have h2 := h1.put_ 4 (.int .u32 (je2 + 1)) #[.pointer (some ⟨gd, 0, none⟩), .int .i64 ja, .int .i64 (jn : Nat), .int .u32 jf, .int .u32 (je2 + 1), .int .u32 jl, .slice A hl.length c]
    have H4 := hide (St.addJk rfl h2)
    have hop : jOpenJ D at_ n = ⟨ja, jn, jf, je2 + 1, jl, hl⟩ := hop
    rw [← hop] at H4
    clear h h1 h2 hop
    have HAT := hide (jMetaJ_at D at_ n).1
    go_wp2_with fail
    refine (jSave_st hT g gd kk D (jOpenJ D at_ n) _ HD.out hkk (HO.out.open HD.out) (by show 0 ≤ (jMetaJ D at_ n).at_ ∧ (jMetaJ D at_ n).at_ + 1 < _; rw [HAT.out]; exact HA.out) H4.out).mono ?_
    rintro e w5 ⟨rfl, h⟩
    have h : St M0 w5 (jR g gd (jOpenJ D at_ n) :: dsR gd (saveD D (jMetaJ D at_ n).at_ (jOpenJ D at_ n).slot) :: L) := h
    rw [HAT.out] at h
    rw [show saveE D (jOpenJ D at_ n).at_ (jOpenJ D at_ n).slot = 0 from by show saveE D (jMetaJ D at_ n).at_ _ = 0; rw [HAT.out]; exact HO.out.s]
    have H5 := hide h
    clear h H4 c4 f
    go_wp2_with fail
    refine (jAll_st g gd (jOpenJ D at_ n) _ (HO.out.open HD.out) H5.out).mono ?_
    rintro e w6 ⟨V, rfl, h⟩
    have H6 := hide h
    clear h H5
    go_wp2_with fail
    ((try simp only [Exit.inBlock, Exit.then]); refine bodyPost_ret (results_three rfl _ _ _) rfl ?_)
    exact ⟨g, V, rfl, H6.out⟩
end Go.Proofs.YtpaelngpmbeedaaGreatDoor
