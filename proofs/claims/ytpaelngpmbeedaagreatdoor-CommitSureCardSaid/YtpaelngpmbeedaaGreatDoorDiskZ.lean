/- What a disk is, in plain words: sectors that are seen, that are sure, writes that are pending, a fuse. No program in sight. -/
import Derived.Test.YtpaelngpmbeedaaGreatDoorBaseZ
import Derived.Test.YtpaelngpmbeedaaGreatDoorRows
import Derived.Deep.WholeRow
import Derived.Deep.LoopGhost
import Derived.Deep.DeepCutAuto
import Derived.Laws.OwnMore
import Derived.Test.YtpaelngpmbeedaaGreatDoorStZ
namespace Go.Proofs.YtpaelngpmbeedaaGreatDoor
open Go.RowKit

structure DS where
  n : Nat
  seen : List Int
  sure : List Int
  pend : List (Nat × List Int)
  fuse : Int
  down : Bool

def wv (p : Nat × List Int) : List Value := Value.int .i64 p.1 :: bv p.2
def pv (l : List (Nat × List Int)) : List Value := l.flatMap wv
def zeros (k : Nat) : List Int := List.replicate k 0

theorem wv_one (p : Nat × List Int) : ∀ u ∈ wv p, u.oneCell' = true := by
  intro u hu
  rcases List.mem_cons.1 hu with rfl | h
  · rfl
  · exact bv_one _ u h

structure DS.ok (D : DS) : Prop where
  n1 : 1 ≤ D.n
  n2 : D.n ≤ 512
  hs : D.seen.length = D.n * 64
  hu : D.sure.length = D.n * 64
  hp : ∀ p ∈ D.pend, p.1 < D.n ∧ p.2.length = 64
  f1 : -9223372036854775808 ≤ D.fuse
  f2 : D.fuse ≤ 9223372036854775807

theorem pv_length {l : List (Nat × List Int)} (h : ∀ p ∈ l, p.2.length = 64) : (pv l).length = l.length * 65 := by
  induction l with
  | nil => rfl
  | cons p l ih =>
    have := ih (fun q hq => h q (List.mem_cons_of_mem _ hq))
    have h1 := h p (List.mem_cons_self ..)
    simp only [pv, List.flatMap_cons, List.length_append, List.length_cons] at this ⊢
    simp only [wv, List.length_cons, bv_length, h1]
    omega
theorem pv_append (l m : List (Nat × List Int)) : pv (l ++ m) = pv l ++ pv m := by simp [pv]
theorem pv_one (p : Nat × List Int) : pv [p] = wv p := by simp [pv]
/-- the cells of write number k -/
theorem pv_at {l : List (Nat × List Int)} (h : ∀ p ∈ l, p.2.length = 64) (k : Nat) (hk : k < l.length) : ((pv l).drop (k * 65)).take 65 = wv l[k] := by
  induction l generalizing k with
  | nil => simp at hk
  | cons p l ih =>
    have h1 := h p (List.mem_cons_self ..)
    have hw : (wv p).length = 65 := by simp [wv, h1]
    cases k with
    | zero =>
      simp only [pv, List.flatMap_cons, Nat.zero_mul, List.drop_zero, List.getElem_cons_zero]
      rw [List.take_append_of_le_length (by omega), List.take_of_length_le (by omega)]
    | succ k =>
      have := ih (fun q hq => h q (List.mem_cons_of_mem _ hq)) k (by simpa using hk)
      simp only [pv, List.flatMap_cons, List.getElem_cons_succ] at this ⊢
      rw [show (k + 1) * 65 = (wv p).length + k * 65 by omega, List.drop_append, List.drop_eq_nil_of_le (by omega)]
      simpa using this

/-- one thing more: is it done? -/
def DS.goes (D : DS) : Bool := !(D.down || D.fuse == 0)
def DS.after (D : DS) : DS := { D with down := D.down || D.fuse == 0, fuse := if 0 < D.fuse then D.fuse - 1 else D.fuse }

def full (b : List Int) : List Int := b ++ zeros (64 - b.length)
theorem full_length {b : List Int} (h : b.length ≤ 64) : (full b).length = 64 := by simp [full, zeros]; omega

def DS.put (D : DS) (i : Nat) (b : List Int) : DS := { D with seen := splice D.seen (i * 64) (full b), pend := D.pend ++ [(i, full b)] }

def DS.writeE (D : DS) (i : Int) (b : List Int) : Int :=
  if i < 0 ∨ (D.n : Int) ≤ i then 40 else if 64 < b.length then 2 else if D.goes then 0 else 43
def DS.write (D : DS) (i : Int) (b : List Int) : DS :=
  if i < 0 ∨ (D.n : Int) ≤ i then D else if 64 < b.length then D else if D.goes then D.after.put i.toNat b else D.after

def DS.at_ (D : DS) (i : Nat) : List Int := (D.seen.drop (i * 64)).take 64
def DS.readE (D : DS) (i : Int) : Int := if i < 0 ∨ (D.n : Int) ≤ i then 40 else 0
def DS.read (D : DS) (i : Int) : List Int := if i < 0 ∨ (D.n : Int) ≤ i then [] else D.at_ i.toNat

/-- all that is pending, on top of sectors -/
def onto (s : List Int) : List (Nat × List Int) → List Int
  | [] => s
  | p :: r => onto (splice s (p.1 * 64) p.2) r
def DS.sync (D : DS) : DS := if D.goes then { D.after with sure := onto D.sure D.pend, pend := [] } else D.after

/-- how many bytes of write number k are kept -/
def keeps (picks : List Int) (k : Nat) : Nat := if k < picks.length then (max 0 (min (picks.getD k 0) 64)).toNat else 0
theorem keeps_le (picks : List Int) (k : Nat) : keeps picks k ≤ 64 := by unfold keeps; split <;> omega
def tear (picks : List Int) (s : List Int) : Nat → List (Nat × List Int) → List Int
  | _, [] => s
  | k, p :: r => tear picks (splice s (p.1 * 64) (p.2.take (keeps picks k))) (k + 1) r
def DS.crash (D : DS) (picks : List Int) : DS :=
  { n := D.n, seen := tear picks D.sure 0 D.pend, sure := tear picks D.sure 0 D.pend, pend := [], fuse := -1, down := false }

theorem onto_length (l : List (Nat × List Int)) : ∀ (s : List Int) (n : Nat), s.length = n * 64 → (∀ p ∈ l, p.1 < n ∧ p.2.length = 64) → (onto s l).length = n * 64 := by
  induction l with
  | nil => intro s n h _; exact h
  | cons p r ih =>
    intro s n h hp
    have h1 := hp p (List.mem_cons_self ..)
    exact ih _ n (by rw [splice_length _ _ _ (by omega)]; exact h) (fun q hq => hp q (List.mem_cons_of_mem _ hq))
theorem tear_length (picks : List Int) (l : List (Nat × List Int)) : ∀ (s : List Int) (k n : Nat), s.length = n * 64 → (∀ p ∈ l, p.1 < n ∧ p.2.length = 64) → (tear picks s k l).length = n * 64 := by
  induction l with
  | nil => intro s k n h _; exact h
  | cons p r ih =>
    intro s k n h hp
    have h1 := hp p (List.mem_cons_self ..)
    exact ih _ _ n (by rw [splice_length _ _ _ (by simp only [List.length_take]; omega)]; exact h) (fun q hq => hp q (List.mem_cons_of_mem _ hq))
theorem onto_append (s : List Int) (l m : List (Nat × List Int)) : onto s (l ++ m) = onto (onto s l) m := by
  induction l generalizing s with
  | nil => rfl
  | cons p r ih => exact ih _
theorem tear_append (picks s : List Int) (k : Nat) (l m : List (Nat × List Int)) : tear picks s k (l ++ m) = tear picks (tear picks s k l) (k + l.length) m := by
  induction l generalizing s k with
  | nil => rfl
  | cons p r ih =>
    simp only [List.cons_append, tear, List.length_cons]
    rw [ih, show k + 1 + r.length = k + (r.length + 1) by omega]

theorem DS.ok.after {D : DS} (h : D.ok) : D.after.ok := by
  have f1 := h.f1
  have f2 := h.f2
  exact ⟨h.n1, h.n2, h.hs, h.hu, h.hp, by unfold DS.after; simp only; split <;> omega, by unfold DS.after; simp only; split <;> omega⟩
theorem DS.ok.put {D : DS} (h : D.ok) (i : Nat) (b : List Int) (hi : i < D.n) (hb : b.length ≤ 64) : (D.put i b).ok := by
  have hf := full_length hb
  have hs := h.hs
  refine ⟨h.n1, h.n2, ?_, h.hu, ?_, h.f1, h.f2⟩
  · show (splice D.seen (i * 64) (full b)).length = D.n * 64
    rw [splice_length _ _ _ (by omega), hs]
  · intro p hp
    rcases List.mem_append.1 hp with hp | hp
    · exact h.hp p hp
    · obtain rfl := List.mem_singleton.1 hp
      exact ⟨hi, hf⟩
theorem DS.ok.write {D : DS} (h : D.ok) (i : Int) (b : List Int) : (D.write i b).ok := by
  unfold DS.write
  split; · exact h
  split; · exact h
  split
  · exact h.after.put _ _ (by show _ < D.n; omega) (by omega)
  · exact h.after
theorem DS.ok.sync {D : DS} (h : D.ok) : D.sync.ok := by
  unfold DS.sync
  split
  · have h' := h.after
    exact ⟨h.n1, h.n2, h.hs, onto_length _ _ _ h.hu h.hp, fun p hp => (List.not_mem_nil hp).elim, h'.f1, h'.f2⟩
  · exact h.after
theorem DS.ok.crash {D : DS} (h : D.ok) (picks : List Int) : (D.crash picks).ok :=
  ⟨h.n1, h.n2, tear_length _ _ _ _ _ h.hu h.hp, tear_length _ _ _ _ _ h.hu h.hp, fun p hp => (List.not_mem_nil hp).elim, by show (-9223372036854775808 : Int) ≤ -1; omega, by show (-1 : Int) ≤ _; omega⟩

def DS.new (n : Nat) : DS := ⟨n, zeros (n * 64), zeros (n * 64), [], -1, false⟩
theorem DS.new_ok {n : Nat} (h1 : 1 ≤ n) (h2 : n ≤ 512) : (DS.new n).ok :=
  ⟨h1, h2, by simp [DS.new, zeros], by simp [DS.new, zeros], fun p hp => (List.not_mem_nil hp).elim, by show (-9223372036854775808 : Int) ≤ -1; omega, by show (-1 : Int) ≤ _; omega⟩

end Go.Proofs.YtpaelngpmbeedaaGreatDoor
/- How a disk lies in memory; the methods that only ask. -/
namespace Go.Proofs.YtpaelngpmbeedaaGreatDoor
open Go.RowKit

def dcells (b1 c1 b2 c2 : Nat) (v3 : Value) (D : DS) : Array Value :=
  #[.slice (some ⟨b1, 0, none⟩) D.n c1, .slice (some ⟨b2, 0, none⟩) D.n c2, v3, .int .i64 D.fuse, .bool D.down]

/-- a disk lies in block g; its rows are b1, b2, and that of the pending writes; all of these are in F -/
structure DiskIn (w : World) (g : Nat) (D : DS) (F : Nat → Prop) (b1 c1 b2 c2 : Nat) (A : Option Addr) (c3 : Nat) : Prop where
  blk : Blk w g 85 (dcells b1 c1 b2 c2 (.slice A D.pend.length c3) D)
  seen : w.ownsRow 0 87 64 (.slice (some ⟨b1, 0, none⟩) D.n c1) D.n (bv D.seen)
  sure : w.ownsRow 0 87 64 (.slice (some ⟨b2, 0, none⟩) D.n c2) D.n (bv D.sure)
  pend : w.ownsRow 0 89 65 (.slice A D.pend.length c3) D.pend.length (pv D.pend)
  ne : b1 ≠ b2
  fg : F g
  f1 : F b1
  f2 : F b2
  f3 : ∀ b, (Value.slice A D.pend.length c3).ownBlock = some b → F b
  lt : ∀ b, F b → b < w.heap.size
def DiskAt (w : World) (g : Nat) (D : DS) (F : Nat → Prop) : Prop := ∃ b1 c1 b2 c2 A c3, DiskIn w g D F b1 c1 b2 c2 A c3

/-- what is in F, and what has come since -/
def Plus (F : Nat → Prop) (w w' : World) : Nat → Prop := fun b => F b ∨ (w.heap.size ≤ b ∧ b < w'.heap.size)

section
variable {w w' : World} {g : Nat} {D : DS} {F S : Nat → Prop} {b1 c1 b2 c2 c3 : Nat} {A : Option Addr}
theorem DiskIn.fr (h : DiskIn w g D F b1 c1 b2 c2 A c3) (hf : Fr S w w') (hd : ∀ b, F b → ¬ S b) : DiskIn w' g D F b1 c1 b2 c2 A c3 :=
  ⟨h.blk.fr hf (hd _ h.fg), own_fr1 h.seen hf (hd _ h.f1), own_fr1 h.sure hf (hd _ h.f2), own_fr h.pend hf (fun b hb => hd _ (h.f3 b hb)),
    h.ne, h.fg, h.f1, h.f2, h.f3, fun b hb => Nat.lt_of_lt_of_le (h.lt b hb) hf.size⟩
theorem DiskAt.fr (h : DiskAt w g D F) (hf : Fr S w w') (hd : ∀ b, F b → ¬ S b) : DiskAt w' g D F := by
  obtain ⟨b1, c1, b2, c2, A, c3, h⟩ := h
  exact ⟨b1, c1, b2, c2, A, c3, h.fr hf hd⟩
theorem DiskAt.non (h : DiskAt w g D F) (hf : Fr Non w w') : DiskAt w' g D F := h.fr hf (fun _ _ x => x)
theorem DiskAt.lt (h : DiskAt w g D F) : ∀ b, F b → b < w.heap.size := by
  obtain ⟨b1, c1, b2, c2, A, c3, h⟩ := h
  exact h.lt
theorem DiskAt.fg (h : DiskAt w g D F) : F g := by
  obtain ⟨b1, c1, b2, c2, A, c3, h⟩ := h
  exact h.fg
theorem DiskAt.mono (h : DiskAt w g D F) (hs : ∀ b, F b → S b) (hl : ∀ b, S b → b < w.heap.size) : DiskAt w g D S := by
  obtain ⟨b1, c1, b2, c2, A, c3, h⟩ := h
  exact ⟨b1, c1, b2, c2, A, c3, h.blk, h.seen, h.sure, h.pend, h.ne, hs _ h.fg, hs _ h.f1, hs _ h.f2, fun b hb => hs _ (h.f3 b hb), hl⟩
theorem DiskIn.ne1 (h : DiskIn w g D F b1 c1 b2 c2 A c3) : g ≠ b1 := by
  obtain ⟨cur, hb, _⟩ := own_blk h.seen
  exact h.blk.ne_ hb (by decide)
theorem DiskIn.ne2 (h : DiskIn w g D F b1 c1 b2 c2 A c3) : g ≠ b2 := by
  obtain ⟨cur, hb, _⟩ := own_blk h.sure
  exact h.blk.ne_ hb (by decide)
theorem own_ne {e : TypeId} {size n : Nat} {v : Value} {xs : List Value} {t : TypeId} {cs : Array Value} (h : w.ownsRow 0 e size v n xs) (hg : Blk w g t cs) (hne : e ≠ t) : ∀ b, v.ownBlock = some b → b ≠ g := by
  intro b hb
  rcases h.2 with ⟨rfl, _⟩ | ⟨g', cap, cur, rfl, _, hh, _⟩
  · simp [Value.ownBlock] at hb
  · simp [Value.ownBlock] at hb
    subst hb
    exact Blk.ne_ (t := e) hh hg hne
theorem DiskIn.ne3 (h : DiskIn w g D F b1 c1 b2 c2 A c3) : ∀ b, (Value.slice A D.pend.length c3).ownBlock = some b → b ≠ g ∧ b ≠ b1 ∧ b ≠ b2 := by
  obtain ⟨cur1, hb1, _⟩ := own_blk h.seen
  obtain ⟨cur2, hb2, _⟩ := own_blk h.sure
  intro b hb
  exact ⟨own_ne h.pend h.blk (by decide) b hb, own_ne h.pend hb1 (by decide) b hb, own_ne h.pend hb2 (by decide) b hb⟩
end
set_option maxHeartbeats 400000 in
theorem len_any (g : Nat) (D : DS) (F : Nat → Prop) (w : World) (hb : DiskAt w g D F) :
    Calls Tryz.prog 69 #[.pointer (some ⟨g, 0, none⟩)] w fun e w' => e = .returned (.int .i64 D.n) ∧ w = w' := by
  obtain ⟨b1, c1, b2, c2, A, c3, h⟩ := hb
  have h2 : w.cell? ⟨g, 0, none⟩ = some (.slice (some ⟨b1, 0, none⟩) D.n c1) := (h.blk.cell 0).trans rfl
  clear h
  go_enter Tryz.func69, Tryz.ntmps69
  go_wp2
  go_ret
  exact ⟨rfl, rfl⟩

set_option maxHeartbeats 400000 in
theorem down_any (g : Nat) (D : DS) (F : Nat → Prop) (w : World) (hb : DiskAt w g D F) :
    Calls Tryz.prog 59 #[.pointer (some ⟨g, 0, none⟩)] w fun e w' => e = .returned (.bool D.down) ∧ w = w' := by
  obtain ⟨b1, c1, b2, c2, A, c3, h⟩ := hb
  have h2 : w.cell? ⟨g, 4, none⟩ = some (.bool D.down) := (h.blk.cell 4).trans rfl
  clear h
  go_enter Tryz.func59, Tryz.ntmps59
  go_wp2
  go_ret
  exact ⟨rfl, rfl⟩

set_option maxHeartbeats 400000 in
theorem has_any (g : Nat) (i : Int) (D : DS) (F : Nat → Prop) (w : World) (hb : DiskAt w g D F) :
    Calls Tryz.prog 107 #[.pointer (some ⟨g, 0, none⟩), .int .i64 i] w fun e w' => e = .returned (.bool (decide (0 ≤ i ∧ i < D.n))) ∧ w = w' := by
  obtain ⟨b1, c1, b2, c2, A, c3, h⟩ := hb
  have h2 : w.cell? ⟨g, 0, none⟩ = some (.slice (some ⟨b1, 0, none⟩) D.n c1) := (h.blk.cell 0).trans rfl
  clear h
  by_cases h0 : 0 ≤ i
  · go_enter Tryz.func107, Tryz.ntmps107
    go_wp2
    go_ret
    exact ⟨by simp [h0], rfl⟩
  · rw [decide_eq_false (fun h => h0 h.1)]
    go_enter Tryz.func107, Tryz.ntmps107
    go_wp2
    go_ret
    exact ⟨rfl, rfl⟩

set_option maxHeartbeats 400000 in
theorem fuse_any (g : Nat) (n : Int) (D : DS) (F : Nat → Prop) (w : World) (hb : DiskAt w g D F) :
    Calls Tryz.prog 16 #[.pointer (some ⟨g, 0, none⟩), .int .i64 n] w fun e w' => e = .returned (.tuple #[]) ∧ Fr F w w' ∧ DiskAt w' g { D with fuse := n } F := by
  obtain ⟨b1, c1, b2, c2, A, c3, h⟩ := hb
  have h2 : w.cell? ⟨g, 3, none⟩ = some (.int .i64 D.fuse) := (h.blk.cell 3).trans rfl
  have h3 := h.blk.frozen 3
  have H := hide h
  clear h
  go_enter Tryz.func16, Tryz.ntmps16
  go_wp2
  go_end0
  have h := H.out
  have hf : Fr (· = g) w (w.setCell ⟨g, 3, none⟩ (.int .i64 n)) := Fr.setCell (S := (· = g)) (p := ⟨g, 3, none⟩) (Fr.refl _ _) (fun _ => rfl) _
  refine ⟨rfl, hf.mono (by rintro i _ rfl; exact h.fg), b1, c1, b2, c2, A, c3, ?_⟩
  exact ⟨h.blk.set_ 3 _, own_fr1 h.seen hf (fun e => h.ne1 e.symm), own_fr1 h.sure hf (fun e => h.ne2 e.symm), own_fr h.pend hf (fun b hb => (h.ne3 b hb).1), h.ne, h.fg, h.f1, h.f2, h.f3,
    fun b hb => Nat.lt_of_lt_of_le (h.lt b hb) hf.size⟩

end Go.Proofs.YtpaelngpmbeedaaGreatDoor
/- How a disk lies in memory; the methods that only ask. -/
namespace Go.Proofs.YtpaelngpmbeedaaGreatDoor
open Go.RowKit

theorem DiskIn.set43 {w : World} {g : Nat} {D : DS} {F : Nat → Prop} {b1 c1 b2 c2 c3 : Nat} {A : Option Addr} (h : DiskIn w g D F b1 c1 b2 c2 A c3) (dn : Bool) (x : Int) :
    DiskIn (((w.setCell ⟨g, 4, none⟩ (.bool dn)).drew).setCell ⟨g, 3, none⟩ (.int .i64 x)) g { D with down := dn, fuse := x } F b1 c1 b2 c2 A c3 := by
  have hf : Fr (· = g) w (((w.setCell ⟨g, 4, none⟩ (.bool dn)).drew).setCell ⟨g, 3, none⟩ (.int .i64 x)) :=
    Fr.setCell (S := (· = g)) (p := ⟨g, 3, none⟩) (Fr.drew (Fr.setCell (S := (· = g)) (p := ⟨g, 4, none⟩) (Fr.refl _ _) (fun _ => rfl) _)) (fun _ => rfl) _
  exact ⟨((h.blk.set_ 4 _).drew).set_ 3 _, own_fr1 h.seen hf (fun e => h.ne1 e.symm), own_fr1 h.sure hf (fun e => h.ne2 e.symm), own_fr h.pend hf (fun b hb => (h.ne3 b hb).1), h.ne, h.fg, h.f1, h.f2, h.f3,
    fun b hb => Nat.lt_of_lt_of_le (h.lt b hb) hf.size⟩

set_option maxHeartbeats 400000 in
set_option maxRecDepth 100000 in
theorem done_core (g : Nat) (dn : Bool) (x : Int) (w : World) (hl : -9223372036854775808 ≤ x) (hu : x ≤ 9223372036854775807)
    (h3 : w.cell? ⟨g, 3, none⟩ = some (.int .i64 x)) (h4 : w.cell? ⟨g, 4, none⟩ = some (.bool dn)) (f3 : w.frozen? ⟨g, 3, none⟩ = false) (f4 : w.frozen? ⟨g, 4, none⟩ = false) :
    Calls Tryz.prog 108 #[.pointer (some ⟨g, 0, none⟩)] w fun e w' => e = .returned (.bool (!(dn || x == 0))) ∧
      w' = ((w.setCell ⟨g, 4, none⟩ (.bool (dn || x == 0))).drew).setCell ⟨g, 3, none⟩ (.int .i64 (if 0 < x then x - 1 else x)) := by
  have hc : (0 < x) ∨ x = 0 ∨ x < 0 := by omega
  rcases hc with hc | rfl | hc
  all_goals cases dn
  all_goals
    first
    | have hn := isF (Int.ne_of_gt hc); rw [if_pos hc]
    | have hn := isF (Int.ne_of_lt hc); rw [if_neg (by omega)]
    | rw [if_neg (by omega)]
    try simp only [hn, Bool.true_or, Bool.false_or, Bool.not_true, Bool.not_false]
  all_goals
    go_enter Tryz.func108, Tryz.ntmps108
    go_wp2
    refine region_tail 13 (by kernel_rfl) (by kernel_rfl) (fun W hW => ?_)
    have k3 : W.cell? ⟨g, 3, none⟩ = w.cell? ⟨g, 3, none⟩ := by rw [hW, drew_cell, World.cell?_setCell_other _ _ _ _ (by simp)]
    rw [h3] at k3
    have k4 := congrArg (fun z : World => z.cell? ⟨g, 4, none⟩) hW
    simp only [drew_cell, World.cell?_setCell_same _ _ _ h4] at k4
    have j3 : W.frozen? ⟨g, 3, none⟩ = false := by rw [hW, drew_frozen, World.frozen?_setCell]; exact f3
    have HW := hide hW
    clear hW h3 h4 f3 f4
    simp only [List.take_succ_cons, List.take_zero, List.drop_succ_cons, List.drop_zero]
    repeat still_step
    try refine wpStill_nil ?_
    go_wp2
    go_ret
    exact ⟨rfl, by rw [HW.out]; rfl⟩

set_option maxRecDepth 100000 in
theorem done_any (g : Nat) (D : DS) (F : Nat → Prop) (w : World) (ho : D.ok) (hb : DiskAt w g D F) :
    Calls Tryz.prog 108 #[.pointer (some ⟨g, 0, none⟩)] w fun e w' => e = .returned (.bool D.goes) ∧ Fr (· = g) w w' ∧ w'.heap.size = w.heap.size ∧ DiskAt w' g D.after F := by
  obtain ⟨b1, c1, b2, c2, A, c3, h⟩ := hb
  have h3 : w.cell? ⟨g, 3, none⟩ = some (.int .i64 D.fuse) := (h.blk.cell 3).trans rfl
  have h4 : w.cell? ⟨g, 4, none⟩ = some (.bool D.down) := (h.blk.cell 4).trans rfl
  refine (done_core g D.down D.fuse w ho.f1 ho.f2 h3 h4 (h.blk.frozen 3) (h.blk.frozen 4)).mono fun e w' ⟨he, hw⟩ => ⟨he, ?_, ?_, b1, c1, b2, c2, A, c3, ?_⟩
  · rw [hw]
    exact Fr.setCell (S := (· = g)) (p := ⟨g, 3, none⟩) (Fr.drew (Fr.setCell (S := (· = g)) (p := ⟨g, 4, none⟩) (Fr.refl _ _) (fun _ => rfl) _)) (fun _ => rfl) _
  · rw [hw]; simp [World.setCell]
  · rw [hw]; exact h.set43 _ _

end Go.Proofs.YtpaelngpmbeedaaGreatDoor
/- slices.Clone at one type: what it answers lies in new memory and reads as the old one did. -/
namespace Go.Proofs.YtpaelngpmbeedaaGreatDoor
open Go.RowKit

theorem info_write : (Tryz.prog.info? 89).map (fun i => (i.zero, i.size, i.bytes)) = some (some (.agg (Value.int .i64 0 :: List.replicate 64 (.int .u8 0)).toArray), 65, 72) := by kernel_rfl
theorem empty_write (w : World) : (Instr.buildSlice 83 0 #[]).run Tryz.prog w = .ok (.slice (some ⟨w.heap.size, 0, none⟩) 0 0) (w.alloc (.cells #[] 89)) := by kernel_rfl

end Go.Proofs.YtpaelngpmbeedaaGreatDoor
/- (*Disk).Write: what it answers, and how the disk lies behind it. -/
namespace Go.Proofs.YtpaelngpmbeedaaGreatDoor
open Go.RowKit

theorem build_write (k : Nat) (w : World) : (Instr.build 89 #[(0, .int .i64 k)]).run Tryz.prog w = .ok (.agg (wv (k, zeros 64)).toArray) w := by kernel_rfl
theorem alloc_write (w : World) : (Instr.alloc 89 true (.tuple #[])).run Tryz.prog w = .ok (.pointer (some ⟨w.heap.size, 0, none⟩)) (w.alloc (.cells (wv (0, zeros 64)).toArray 89)) := by kernel_rfl
theorem size_write : (Tryz.prog.info? 89).map (·.size) = some 65 := by kernel_rfl
theorem size_sector : (Tryz.prog.info? 87).map (·.size) = some 64 := by kernel_rfl
theorem size_byte : (Tryz.prog.info? 5).map (·.size) = some 1 := by kernel_rfl

theorem buildSlice_write (w : World) (cs : Array Value) (h : cs.size = 65) :
    (Instr.buildSlice 83 1 #[(0, .agg cs)]).run Tryz.prog w = .ok (.slice (some ⟨w.heap.size, 0, none⟩) 1 1) (w.alloc (.cells cs 89)) :=
  run_buildSlice_one (P := Tryz.prog) w 83 89 cs _ 72 Tryz.underlying83 (by rw [h]; exact info_write) (by omega) (by omega)

theorem wv_size {k : Nat} {b : List Int} (h : b.length = 64) : (wv (k, b)).toArray.size = 65 := by simp [wv, h]
theorem full_splice {b : List Int} (k : Nat) : splice (wv (k, zeros 64)) 1 (bv b) = wv (k, full b) := by
  simp only [splice, wv, bv_length, List.take_succ_cons, List.take_zero, List.cons_append, List.nil_append, show 1 + b.length = b.length + 1 by omega, List.drop_succ_cons]
  simp only [bv, zeros, full, List.map_append, List.map_replicate, List.drop_replicate]

set_option maxHeartbeats 400000 in
theorem write_no (g : Nat) (i : Int) (v : Value) (D : DS) (F : Nat → Prop) (w : World) (hi : i < 0 ∨ (D.n : Int) ≤ i) (hb : DiskAt w g D F) :
    Calls Tryz.prog 82 #[.pointer (some ⟨g, 0, none⟩), .int .i64 i, v] w fun e w' => e = .returned (.int .i64 40) ∧ w = w' := by
  have H := hide (has_any g i D F w hb)
  rw [decide_eq_false (by omega)] at H
  go_enter Tryz.func82, Tryz.ntmps82
  go_wp2_with (go_at_call 107; refine H.out.mono ?_; rintro e w' ⟨rfl, rfl⟩)
  go_ret
  exact ⟨rfl, rfl⟩

set_option maxHeartbeats 400000 in
theorem write_long (g : Nat) (i : Int) (a : Option Addr) (n c : Nat) (D : DS) (F : Nat → Prop) (w : World) (hi : 0 ≤ i) (hi' : i < (D.n : Int)) (hn : 64 < n) (hb : DiskAt w g D F) :
    Calls Tryz.prog 82 #[.pointer (some ⟨g, 0, none⟩), .int .i64 i, .slice a n c] w fun e w' => e = .returned (.int .i64 2) ∧ w = w' := by
  have H := hide (has_any g i D F w hb)
  rw [decide_eq_true ⟨hi, hi'⟩] at H
  go_enter Tryz.func82, Tryz.ntmps82
  go_wp2_with (go_at_call 107; refine H.out.mono ?_; rintro e w' ⟨rfl, rfl⟩)
  go_ret
  exact ⟨rfl, rfl⟩

set_option maxHeartbeats 400000 in
theorem write_down (g : Nat) (i : Int) (a : Option Addr) (n c : Nat) (D : DS) (F : Nat → Prop) (w : World) (ho : D.ok) (hi : 0 ≤ i) (hi' : i < (D.n : Int)) (hn : n ≤ 64) (hd : D.goes = false) (hb : DiskAt w g D F) :
    Calls Tryz.prog 82 #[.pointer (some ⟨g, 0, none⟩), .int .i64 i, .slice a n c] w fun e w' => e = .returned (.int .i64 43) ∧ Fr (· = g) w w' ∧ w'.heap.size = w.heap.size ∧ DiskAt w' g D.after F := by
  have H := hide (has_any g i D F w hb)
  rw [decide_eq_true ⟨hi, hi'⟩] at H
  have H2 := hide (done_any g D F w ho hb)
  rw [hd] at H2
  clear hd
  go_enter Tryz.func82, Tryz.ntmps82
  go_wp2_with (first | (go_at_call 107; refine H.out.mono ?_; rintro e w' ⟨rfl, rfl⟩) | (go_at_call 108; refine H2.out.mono ?_; rintro e w' ⟨rfl, h1, h2, h3⟩))
  go_ret
  exact ⟨rfl, h1, h2, h3⟩

set_option maxRecDepth 100000 in
set_option maxHeartbeats 1000000 in
theorem write_ok (g k : Nat) (A : Option Addr) (n c : Nat) (bs : List Int) (Q : Nat → Prop) (D : DS) (F : Nat → Prop) (w : World) (ho : D.ok) (hi' : k < D.n) (hn : n = bs.length) (hl : bs.length ≤ 64) (hd : D.goes = true) (hp : D.pend.length < 1000000)
    (hq : ∀ b, Q b → b ≠ g) (hv : Sl w Q 1 A n (bv bs)) (hb : DiskAt w g D F) :
    Calls Tryz.prog 82 #[.pointer (some ⟨g, 0, none⟩), .int .i64 k, .slice A n c] w fun e w' => e = .returned (.int .i64 0) ∧ Fr F w w' ∧ DiskAt w' g (D.after.put k bs) (Plus F w w') := by
  have H := hide (has_any g k D F w hb)
  rw [decide_eq_true (show 0 ≤ (k : Int) ∧ (k : Int) < (D.n : Int) by omega)] at H
  have H2 := hide (done_any g D F w ho hb)
  rw [hd] at H2
  have HN := hide hn
  have hnl : n ≤ 64 := by omega
  have HV := hide hv
  have HF := hide hb.fg
  have okA := ho.after
  clear hd hn hv hb
  generalize hDa : D.after = Da at *
  go_enter Tryz.func82, Tryz.ntmps82
  go_wp2_with fail
  refine H.out.mono ?_
  rintro e w' ⟨rfl, rfl⟩
  go_wp2_with fail
  refine H2.out.mono ?_
  rintro e w1 ⟨rfl, f1, hz, hb1⟩
  have HZ := hide hz
  clear hz
  have hst : (Instr.storeAt 89 (.pointer (some ⟨w1.heap.size, 0, none⟩)) (.agg (wv (k, zeros 64)).toArray)).run Tryz.prog (w1.alloc (.cells (wv (0, zeros 64)).toArray 89)) = .ok () (w1.alloc (.cells (wv (k, zeros 64)).toArray 89)) :=
    run_storeAt_new w1 89 _ _ (by rw [size_write, wv_size (by simp [zeros])]) (by rw [wv_size (by simp [zeros]), wv_size (by simp [zeros])]) (all_oneCell_toArray (wv_one _))
  have hcp : (Builtin.copy_ #[34, 34] 3 #[.slice (some ⟨w1.heap.size, 1, none⟩) 64 64, .slice A n c]).run Tryz.prog (w1.alloc (.cells (wv (k, zeros 64)).toArray 89)) = .ok (goInt n) (w1.alloc (.cells (wv (k, full bs)).toArray 89)) := by
    have hfr : Fr Non w1 (w1.alloc (.cells (wv (k, zeros 64)).toArray 89)) := (Fr.refl _ _).alloc _
    have hV : Sl (w1.alloc (.cells (wv (k, zeros 64)).toArray 89)) Q 1 A n (bv bs) := (HV.out.fr f1 (fun b h _ e => hq b h e)).non hfr
    rw [copy_run 34 34 3 5 w1.heap.size 1 64 64 A n c (bv bs) Q Tryz.underlying34 size_byte hV hnl ?_ (bv_one bs),
      setCells_alloc _ _ _ _ _ (by rw [wv_size (by simp [zeros])]; simp; omega), full_splice]
    refine (Blk.new _ _ _).there 1 n (by rw [wv_size (by simp [zeros])]; omega)
  go_wp2_with (first
    | ((with_reducible apply at_build1 (t := 89)); (focus rfl); (focus rfl); (focus rfl); (focus exact build_write k _))
    | ((with_reducible apply at_alloc (t := 89)); (focus rfl); (focus rfl); (focus exact alloc_write _))
    | ((with_reducible apply at_store (t := 89)); (focus rfl); (focus rfl); (focus rfl); (focus rfl); (focus exact hst))
    | ((with_reducible apply at_copy (tx := 34)); (focus rfl); (focus rfl); (focus rfl); (focus rfl); (focus exact hcp)))
  clear hst hcp
  obtain ⟨b1, c1, b2, c2, A3, c3, hD⟩ := hb1
  have hnk : (0 : Int) ≤ (k : Int) ∧ (k : Int) < (Da.n : Int) := by rw [← hDa]; show (0 : Int) ≤ (k : Int) ∧ (k : Int) < (D.n : Int); omega
  have hpl : Da.pend.length < 1000000 := by rw [← hDa]; exact hp
  refine region_tail 8 (by kernel_rfl) (by kernel_rfl) (fun W hW => ?_)
  have hFW : Fr Non w1 W := by rw [hW]; exact ((Fr.refl _ _).alloc _).drew
  have hDW := hD.fr hFW (fun _ _ x => x)
  have hblk : Blk W w1.heap.size 89 (wv (k, full bs)).toArray := by rw [hW]; exact (Blk.new _ _ _).drew
  have HW := hide hW
  clear hW
  have k0 : W.cell? ⟨g, 0, none⟩ = some (.slice (some ⟨b1, 0, none⟩) Da.n c1) := (hDW.blk.cell 0).trans rfl
  have hrg : W.rangeAt w1.heap.size 1 (bv (full bs)) := by
    have := hblk.range 1 64
    rwa [List.take_of_length_le (by simp [wv, full_length hl])] at this
  have hl81 := run_loadAt_mid (P := Tryz.prog) W w1.heap.size 1 87 (bv (full bs)) _ hrg Tryz.underlying87 rfl (by rw [size_sector]; simp [full_length hl])
  simp only [List.take_succ_cons, List.take_zero, List.drop_succ_cons, List.drop_zero]
  iterate 6 still_step
  (with_reducible apply still_load (t := 87))
  focus rfl
  focus rfl
  focus rfl
  focus exact hl81
  repeat still_step
  try refine wpStill_nil ?_
  have hfl := full_length hl
  have hin : k * 64 + 64 ≤ Da.n * 64 := by have : k < Da.n := by omega
                                           omega
  have hst2 : (Instr.storeAt 87 (.pointer (some ⟨b1, k * 64, none⟩)) (.agg (bv (full bs)).toArray)).run Tryz.prog W = .ok () (W.setCells b1 (k * 64) (bv (full bs))) :=
    run_storeAt_mid (P := Tryz.prog) W b1 (k * 64) 87 (bv (full bs)).toArray (by simpa [hfl] using own_there hDW.seen (k * 64) 64 hin) (by rw [size_sector]; simp [hfl]) (all_oneCell_toArray (bv_one _))
  have hseen := own_setCells (vs := bv (full bs)) hDW.seen (k * 64) (by simpa [hfl] using hin)
  have hF2 : Fr (· = b1) W (W.setCells b1 (k * 64) (bv (full bs))) := fr_setCells b1 _ _ _ (Fr.refl _ _) (fun _ => rfl)
  generalize W.setCells b1 (k * 64) (bv (full bs)) = w2 at hst2 hseen hF2
  (with_reducible apply at_store (t := 87))
  focus rfl
  focus rfl
  focus rfl
  focus rfl
  focus exact hst2
  clear hst2 hl81 hrg k0
  -- the disk's struct and the new write, in the world behind the store
  have hblk2 : Blk w2 w1.heap.size 89 (wv (k, full bs)).toArray := hblk.fr hF2 (fun e => by have := hD.lt _ hD.f1; omega)
  have hg2 : Blk w2 g 85 (dcells b1 c1 b2 c2 (.slice A3 Da.pend.length c3) Da) := hDW.blk.fr hF2 hDW.ne1
  have hsure2 := own_fr1 hDW.sure hF2 hDW.ne.symm
  have hpend2 := own_fr hDW.pend hF2 (fun b hb => (hDW.ne3 b hb).2.1)
  have k2 : w2.cell? ⟨g, 2, none⟩ = some (.slice A3 Da.pend.length c3) := (hg2.cell 2).trans rfl
  have j2 := hg2.frozen 2
  simp only [Act.put]
  go_wp2_with fail
  refine region_mix (fun W => W.cell? ⟨g, 2, none⟩ = some (.slice A3 Da.pend.length c3) ∧ W.rangeAt w1.heap.size 0 (wv (k, full bs))) 8 [0, 1, 2, 3, 4, 5] [6, 7, 8, 9, 10] (by kernel_rfl) (by kernel_rfl)
    (fun d => by cases d <;> exact fun _ _ _ _ h => h) (fun W3 hW3 => ?_)
  refine ⟨⟨by rw [hW3]; exact k2, ?_⟩, ?_⟩
  · rw [hW3]
    have := hblk2.range 0 65
    rw [List.drop_zero, List.take_of_length_le (by simp [wv, hfl])] at this
    exact this
  iterate 5 (refine take_run rfl rfl (fun W hW => by (rcases hW with ⟨_, _⟩; go_simp; try rfl)) ?_; simp only [Act.put, List.setIfInBounds_toArray, List.set_cons_succ, List.set_cons_zero])
  have hld (W : World) (hW : W.cell? ⟨g, 2, none⟩ = some (.slice A3 Da.pend.length c3) ∧ W.rangeAt w1.heap.size 0 (wv (k, full bs))) := run_loadAt_mid (P := Tryz.prog) W w1.heap.size 0 89 (wv (k, full bs)) _ hW.2 Tryz.underlying89 rfl (by rw [size_write]; simp [wv, hfl])
  refine take_load rfl rfl 89 _ (.pointer (some ⟨w1.heap.size, 0, none⟩)) rfl rfl hld ?_
  (simp only [Act.put, List.setIfInBounds_toArray, List.set_cons_succ, List.set_cons_zero])
  have hBlk3 : Blk W3 w1.heap.size 89 (wv (k, full bs)).toArray := by rw [hW3]; exact hblk2.drew
  have hg3 : Blk W3 g 85 (dcells b1 c1 b2 c2 (.slice A3 Da.pend.length c3) Da) := by rw [hW3]; exact hg2.drew
  have hF3 : Fr Non w2 W3 := by rw [hW3]; exact (Fr.refl _ _).drew
  have hz3 : W3.heap.size = w2.heap.size := by rw [hW3]; rfl
  clear hW3
  have hbs := buildSlice_write W3 (wv (k, full bs)).toArray (by simp [wv, hfl])
  refine seq_buildSlice1 rfl rfl 83 1 0 _ (.agg (wv (k, full bs)).toArray) rfl rfl hbs (fun _ => ⟨?_, ?_⟩) ?_
  · rw [World.cell?_alloc_lt _ _ _ (by have := hg3.lt; exact this)]; exact hg3.cell 2
  · have := (hBlk3.alloc (.cells (wv (k, full bs)).toArray 89)).range 0 65
    rwa [List.drop_zero, List.take_of_length_le (by simp [wv, hfl])] at this
  (simp only [Act.put, List.setIfInBounds_toArray, List.set_cons_succ, List.set_cons_zero])
  have hF4 : Fr Non w2 (W3.alloc (.cells (wv (k, full bs)).toArray 89)) := hF3.alloc _
  have hnew := Blk.new W3 89 (wv (k, full bs)).toArray
  have hpend4 := own_fr hpend2 hF4 (fun _ _ x => x)
  have hg4 := hg3.alloc (.cells (wv (k, full bs)).toArray 89)
  have hB4 := hBlk3.alloc (.cells (wv (k, full bs)).toArray 89)
  have hz4 : (W3.alloc (.cells (wv (k, full bs)).toArray 89)).heap.size = w2.heap.size + 1 := by rw [World.size_alloc, hz3]
  generalize W3.alloc (.cells (wv (k, full bs)).toArray 89) = W4 at hF4 hnew hpend4 hg4 hB4 hz4
  have hgo : ¬ (Value.slice A3 Da.pend.length c3).ownBlock = some g := fun e => (hD.ne3 g e).1 rfl
  have hwo : ¬ (Value.slice A3 Da.pend.length c3).ownBlock = some w1.heap.size := fun e => Nat.lt_irrefl _ (hD.lt _ (hD.f3 _ e))
  refine seq_append rfl rfl _ _ 83 rfl 0 89 _ 65 72 Tryz.underlying83 info_write (by kernel_rfl) (by omega) (.slice A3 Da.pend.length c3) Da.pend.length (pv Da.pend) rfl hpend4 ⟨W3.heap.size, 0, none⟩ 1 1 rfl (wv (k, full bs)) (by simp [wv, hfl]) ?_ (wv_one _) (by omega) (by omega) (Nat.zero_le _) (fun v' W5 hown5 hF5 hb5 => ⟨fun _ => ⟨?_, ?_⟩, ?_⟩)
  · intro j u hu
    rw [show (⟨W3.heap.size, 0, none⟩ : Addr).add j = ⟨W3.heap.size, j, none⟩ by simp [Addr.add]; exact Eq.symm, hnew.cell]
    simpa using hu
  · exact (hg4.fr hF5 hgo).cell 2
  · have := (hB4.fr hF5 hwo).range 0 65
    rwa [List.drop_zero, List.take_of_length_le (by simp [wv, hfl])] at this
  (simp only [Act.put, List.setIfInBounds_toArray, List.set_cons_succ, List.set_cons_zero])
  (refine seq_read rfl rfl (by (go_simp; try rfl)) (fun h => absurd h (by decide)) ?_; simp only [Act.put, List.setIfInBounds_toArray, List.set_cons_succ, List.set_cons_zero])
  (refine seq_read rfl rfl (by (go_simp; try rfl)) (fun h => absurd h (by decide)) ?_; simp only [Act.put, List.setIfInBounds_toArray, List.set_cons_succ, List.set_cons_zero])
  have hg5 := hg4.fr hF5 hgo
  obtain ⟨A5, c5, rfl⟩ : ∃ A5 c5, v' = .slice A5 (Da.pend.length + 1) c5 := by
    rcases hown5.2 with ⟨rfl, _⟩ | ⟨b5, cap5, cur5, rfl, _⟩
    · exact ⟨_, _, by rw [show Da.pend.length + 1 = 0 from by assumption]⟩
    · exact ⟨_, _, rfl⟩
  have hst3 : (Instr.storeAt 83 (.pointer (some ⟨g, 2, none⟩)) (.slice A5 (Da.pend.length + 1) c5)).run Tryz.prog W5 = .ok () (W5.setCell ⟨g, 2, none⟩ (.slice A5 (Da.pend.length + 1) c5)) := by
    have h1 : W5.cell? ⟨g, 2, none⟩ = some (.slice A3 Da.pend.length c3) := (hg5.cell 2).trans rfl
    have h2 := hg5.frozen 2
    go_simp
  refine seq_store rfl rfl 83 _ _ (.pointer (some ⟨g, 2, none⟩)) (.slice A5 (Da.pend.length + 1) c5) rfl rfl rfl hst3 (fun h => absurd h (by decide)) ?_
  (simp only [Act.put])
  refine seq_nil ?_
  go_wp2_with fail
  go_ret
  have hsz5 : W.heap.size + 1 ≤ W5.heap.size := by
    have h1 := hF2.size
    have h2 := hF5.size
    omega
  have hsz1 := hFW.size
  have hz := HZ.out
  have hFall : Fr F w (W5.setCell ⟨g, 2, none⟩ (.slice A5 (Da.pend.length + 1) c5)) := by
    have e1 : Fr F w w1 := f1.mono (by rintro i _ rfl; exact HF.out)
    have e2 : Fr F w W := e1.step hFW (fun _ x _ => x.elim)
    have e3 : Fr F w w2 := e2.step hF2 (by rintro i rfl _; exact hD.f1)
    have e4 : Fr F w W4 := e3.step hF4 (fun _ x _ => x.elim)
    have e5 : Fr F w W5 := e4.step hF5 (fun i x _ => hD.f3 i x)
    exact e5.setCell (fun _ => HF.out) _
  have hf6 : Fr (· = g) W5 (W5.setCell ⟨g, 2, none⟩ (.slice A5 (Da.pend.length + 1) c5)) := Fr.setCell (S := (· = g)) (p := ⟨g, 2, none⟩) (Fr.refl _ _) (fun _ => rfl) _
  have hs6 : (W5.setCell ⟨g, 2, none⟩ (.slice A5 (Da.pend.length + 1) c5)).heap.size = W5.heap.size := by simp [World.setCell]
  have hS1 : ¬ (Value.slice A3 Da.pend.length c3).ownBlock = some b1 := fun e => (hD.ne3 b1 e).2.1 rfl
  have hS2 : ¬ (Value.slice A3 Da.pend.length c3).ownBlock = some b2 := fun e => (hD.ne3 b2 e).2.2 rfl
  have hgl := hD.lt _ hD.fg
  have hownb : ∀ b, (Value.slice A5 (Da.pend.length + 1) c5).ownBlock = some b → (Value.slice A3 Da.pend.length c3).ownBlock = some b ∨ b = W4.heap.size := by
    intro b e
    rcases hb5 with h | h
    · exact .inl (h ▸ e)
    · exact .inr (by rw [h] at e; injection e with e; exact e.symm)
  refine ⟨rfl, hFall, b1, c1, b2, c2, A5, c5, ?_⟩
  have hpl5 : (Da.put k bs).pend.length = Da.pend.length + 1 := by simp [DS.put]
  have hlt : ∀ b, F b → b < w.heap.size := fun b hb => by have := hD.lt b hb; omega
  refine ⟨?_, ?_, ?_, ?_, hD.ne, .inl hD.fg, .inl hD.f1, .inl hD.f2, ?_, ?_⟩
  · have := hg5.set_ 2 (.slice A5 (Da.pend.length + 1) c5)
    rw [hpl5]
    exact this
  · have := own_fr1 (own_fr1 (own_fr1 hseen hF4 (fun x => x)) hF5 hS1) hf6 (fun e => hD.ne1 e.symm)
    rw [← bv_splice] at this
    exact this
  · exact own_fr1 (own_fr1 (own_fr1 hsure2 hF4 (fun x => x)) hF5 hS2) hf6 (fun e => hD.ne2 e.symm)
  · rw [hpl5]
    have hpv : pv (Da.put k bs).pend = pv Da.pend ++ wv (k, full bs) := by
      show pv (Da.pend ++ [(k, full bs)]) = _
      rw [pv_append, pv_one]
    rw [hpv]
    refine own_fr hown5 hf6 (fun b e => ?_)
    rcases hownb b e with h | rfl
    · exact (hD.ne3 b h).1
    · have := hg4.lt; omega
  · rw [hpl5]
    intro b e
    rcases hownb b e with h | rfl
    · exact .inl (hD.f3 b h)
    · refine .inr ⟨?_, ?_⟩
      · have h1 := hF2.size
        omega
      · rw [hs6]; exact (hown5.lt _ e).2
  · rintro b (h | h)
    · have := hlt b h; omega
    · exact h.2

theorem Plus.sub {F : Nat → Prop} {w w' : World} (b : Nat) (h : F b) : Plus F w w' b := .inl h
theorem DiskAt.plus {w w' : World} {g : Nat} {D : DS} {F : Nat → Prop} (h : DiskAt w' g D F) : DiskAt w' g D (Plus F w w') := by
  refine h.mono Plus.sub ?_
  rintro b (hb | hb)
  · exact h.lt b hb
  · exact hb.2

theorem write_any (g : Nat) (i : Int) (A : Option Addr) (n c : Nat) (bs : List Int) (Q : Nat → Prop) (D : DS) (F : Nat → Prop) (w : World) (ho : D.ok) (hn : n = bs.length) (hp : D.pend.length < 1000000)
    (hq : ∀ b, Q b → b ≠ g) (hv : Sl w Q 1 A n (bv bs)) (hb : DiskAt w g D F) :
    Calls Tryz.prog 82 #[.pointer (some ⟨g, 0, none⟩), .int .i64 i, .slice A n c] w fun e w' => e = .returned (.int .i64 (D.writeE i bs)) ∧ Fr F w w' ∧ DiskAt w' g (D.write i bs) (Plus F w w') := by
  unfold DS.writeE DS.write
  by_cases hi : i < 0 ∨ (D.n : Int) ≤ i
  · rw [if_pos hi, if_pos hi]
    refine (write_no g i _ D F w hi hb).mono ?_
    rintro e w' ⟨rfl, rfl⟩
    exact ⟨rfl, Fr.refl _ _, hb.plus⟩
  · rw [if_neg hi, if_neg hi]
    by_cases hl : 64 < bs.length
    · rw [if_pos hl, if_pos hl]
      refine (write_long g i A n c D F w (by omega) (by omega) (by omega) hb).mono ?_
      rintro e w' ⟨rfl, rfl⟩
      exact ⟨rfl, Fr.refl _ _, hb.plus⟩
    · rw [if_neg hl, if_neg hl]
      cases hd : D.goes with
      | false =>
        refine (write_down g i A n c D F w ho (by omega) (by omega) (by omega) hd hb).mono ?_
        rintro e w' ⟨rfl, h1, _, h2⟩
        exact ⟨rfl, h1.mono (by rintro b _ rfl; exact hb.fg), h2.plus⟩
      | true =>
        obtain ⟨k, rfl⟩ := Int.eq_ofNat_of_zero_le (show 0 ≤ i by omega)
        exact write_ok g k A n c bs Q D F w ho (by omega) hn (by omega) hd hp hq hv hb

end Go.Proofs.YtpaelngpmbeedaaGreatDoor
/- slices.Clone at one type: what it answers lies in new memory and reads as the old one did. -/
namespace Go.Proofs.YtpaelngpmbeedaaGreatDoor
open Go.RowKit

theorem info_byte : (Tryz.prog.info? 5).map (fun i => (i.zero, i.size, i.bytes)) = some (some (.int .u8 0), 1, 1) := by kernel_rfl
theorem empty_byte (w : World) : (Instr.buildSlice 34 0 #[]).run Tryz.prog w = .ok (.slice (some ⟨w.heap.size, 0, none⟩) 0 0) (w.alloc (.cells #[] 5)) := by kernel_rfl

set_option maxHeartbeats 400000 in
theorem clone_byte (a : Addr) (n c : Nat) (news : List Value) (w : World) (hl : news.length = n * 1) (hc : ∀ j u, news[j]? = some u → w.cell? (a.add j) = some u) (h1 : ∀ u ∈ news, u.oneCell' = true) (hn : n * 1 ≤ 140737488355328) :
    Calls Tryz.prog 76 #[.slice (some a) n c] w fun e w' => ∃ v g, e = .returned v ∧ w'.ownsRow 0 5 1 v n news ∧ v.ownBlock = some g ∧ w.heap.size ≤ g ∧ g < w'.heap.size ∧ Fr Non w w' := by
  have hnil := fun w => Lib.run_eql_slice_nil (P := Tryz.prog) w 34 5 (some a) n c 0 0 Tryz.underlying34
  have hemp := empty_byte
  have HL := hide hl
  have HC := hide (fun j u h => (World.cell?_alloc_lt w (.cells #[] 5) (a.add j) (World.block_lt_of_cell? _ _ (hc j u h))).trans (hc j u h))
  have H1 := hide h1
  have hown : (w.alloc (.cells #[] 5)).ownsRow 0 5 1 (.slice (some ⟨w.heap.size, 0, none⟩) 0 0) 0 [] := World.ownsRow_made w #[] 0 (Nat.zero_le _) (Nat.zero_le _) (by simp)
  have HO := hide hown
  clear hl hc h1 hown
  go_enter Tryz.func76, Tryz.ntmps76
  go_wp2_with (at_builtin; refine append_at rfl _ _ 34 rfl 0 5 (.int .u8 0) 1 1 Tryz.underlying34 info_byte (by kernel_rfl) (by omega) (.slice (some ⟨w.heap.size, 0, none⟩) 0 0) 0 [] rfl HO.out a n c rfl news HL.out HC.out H1.out (by omega) (by omega) (Nat.zero_le _) ?_; intro v w1 hown1 hf1 hb1)
  go_ret
  have hg : v.ownBlock = some w.heap.size ∨ v.ownBlock = some (w.heap.size + 1) := by
    rcases hb1 with h | h
    · exact .inl h
    · exact .inr (by rw [h]; simp)
  have hF : Fr Non w w1 := ((Fr.refl _ _).alloc _).step hf1 (by intro i hi hlt; simp [Value.ownBlock] at hi; omega)
  have hown2 : w1.ownsRow 0 5 1 v n news := by simpa using hown1
  rcases hg with h | h
  · exact ⟨v, _, rfl, hown2, h, Nat.le_refl _, (hown2.lt _ h).2, hF⟩
  · exact ⟨v, _, rfl, hown2, h, by omega, (hown2.lt _ h).2, hF⟩

theorem clone_byte_nil (n c : Nat) (w : World) :
    Calls Tryz.prog 76 #[.slice none n c] w fun e w' => e = .returned (.slice none 0 0) ∧ w = w' := by
  have hnil := fun w => Lib.run_eql_slice_nil (P := Tryz.prog) w 34 5 none n c 0 0 Tryz.underlying34
  go_enter Tryz.func76, Tryz.ntmps76
  go_wp2
  go_ret
  exact ⟨rfl, rfl⟩

end Go.Proofs.YtpaelngpmbeedaaGreatDoor
/- (*Disk).Read, Sync, Crash: what they answer, and how the disk lies behind them. -/
namespace Go.Proofs.YtpaelngpmbeedaaGreatDoor
open Go.RowKit

theorem DS.at_length {D : DS} (ho : D.ok) {k : Nat} (hk : k < D.n) : (D.at_ k).length = 64 := by
  have := ho.hs
  have h2 : (k + 1) * 64 ≤ D.n * 64 := Nat.mul_le_mul_right _ hk
  unfold DS.at_
  rw [List.length_take, List.length_drop]
  omega

set_option maxHeartbeats 400000 in
theorem read_no (g : Nat) (i : Int) (D : DS) (F : Nat → Prop) (w : World) (hi : i < 0 ∨ (D.n : Int) ≤ i) (hb : DiskAt w g D F) :
    Calls Tryz.prog 98 #[.pointer (some ⟨g, 0, none⟩), .int .i64 i] w fun e w' => e = .returned (.tuple #[.slice none 0 0, .int .i64 40]) ∧ w = w' := by
  have H := hide (has_any g i D F w hb)
  rw [decide_eq_false (by omega)] at H
  go_enter Tryz.func98, Tryz.ntmps98
  go_wp2_with (go_at_call 107; refine H.out.mono ?_; rintro e w' ⟨rfl, rfl⟩)
  go_ret2
  exact ⟨rfl, rfl⟩

set_option maxHeartbeats 400000 in
theorem read_yes (g k : Nat) (D : DS) (F : Nat → Prop) (w : World) (ho : D.ok) (hk : k < D.n) (hb : DiskAt w g D F) :
    Calls Tryz.prog 98 #[.pointer (some ⟨g, 0, none⟩), .int .i64 k] w fun e w' => ∃ A c, e = .returned (.tuple #[.slice A 64 c, .int .i64 0]) ∧ 64 ≤ c ∧ Sl w' (fun b => w.heap.size ≤ b) 1 A 64 (bv (D.at_ k)) ∧ Fr Non w w' := by
  have H := hide (has_any g k D F w hb)
  rw [decide_eq_true (show 0 ≤ (k : Int) ∧ (k : Int) < (D.n : Int) by omega)] at H
  obtain ⟨b1, c1, b2, c2, A, c3, h⟩ := hb
  have h2 : w.cell? ⟨g, 0, none⟩ = some (.slice (some ⟨b1, 0, none⟩) D.n c1) := (h.blk.cell 0).trans rfl
  have hl := DS.at_length ho hk
  have hnk : (0 : Int) ≤ (k : Int) ∧ (k : Int) < (D.n : Int) := by omega
  have HC := hide (clone_byte ⟨b1, k * 64, none⟩ 64 64 (bv (D.at_ k)) w (by simp [hl]) (by
    intro j u hu
    have := own_range h.seen (k * 64) 64
    rw [show (⟨b1, k * 64, none⟩ : Addr).add j = ⟨b1, k * 64 + j, none⟩ by unfold Addr.add; split <;> simp_all]
    refine this j u ?_
    rw [← hu]
    simp [DS.at_, bv, List.map_take, List.map_drop]) (bv_one _) (by omega))
  have HL := hide hl
  clear h hl
  go_enter Tryz.func98, Tryz.ntmps98
  go_wp2_with (first | (go_at_call 107; refine H.out.mono ?_; rintro e w' ⟨rfl, rfl⟩) | (go_at_call 76; refine HC.out.mono ?_; rintro e w' ⟨v, g1, rfl, h1, h3, h4, h5, h6⟩))
  go_ret2
  rcases h1.2 with ⟨rfl, h0⟩ | ⟨g', cap, cur, rfl, _, hh, hc, _⟩
  · simp [Value.ownBlock] at h3
  · obtain rfl : g' = g1 := by simpa [Value.ownBlock] using h3
    exact ⟨_, _, rfl, hc, ⟨h1.1, fun _ => ⟨_, rfl, h4, h5, h1.cells (g := g') rfl⟩⟩, h6⟩

theorem read_any (g : Nat) (i : Int) (D : DS) (F : Nat → Prop) (w : World) (ho : D.ok) (hb : DiskAt w g D F) :
    Calls Tryz.prog 98 #[.pointer (some ⟨g, 0, none⟩), .int .i64 i] w fun e w' => ∃ A c, e = .returned (.tuple #[.slice A (D.read i).length c, .int .i64 (D.readE i)]) ∧ (D.read i).length ≤ c ∧ (D.read i).length ≤ 64 ∧
      Sl w' (fun b => w.heap.size ≤ b) 1 A (D.read i).length (bv (D.read i)) ∧ Fr Non w w' := by
  unfold DS.readE DS.read
  by_cases hi : i < 0 ∨ (D.n : Int) ≤ i
  · rw [if_pos hi, if_pos hi]
    refine (read_no g i D F w hi hb).mono ?_
    rintro e w' ⟨rfl, rfl⟩
    exact ⟨none, 0, rfl, Nat.le_refl _, by simp, Sl.nil_ _ _ _ _, Fr.refl _ _⟩
  · rw [if_neg hi, if_neg hi]
    obtain ⟨k, rfl⟩ := Int.eq_ofNat_of_zero_le (show 0 ≤ i by omega)
    have hl := DS.at_length ho (k := k) (by omega)
    refine (read_yes g k D F w ho (by omega) hb).mono ?_
    rintro e w' ⟨A, c, rfl, h1, h2, h3⟩
    have hk : D.at_ (Int.ofNat k).toNat = D.at_ k := rfl
    refine ⟨A, c, by rw [show ((k : Int).toNat) = k by omega, hl], ?_, ?_, ?_, h3⟩
    · rw [show ((k : Int).toNat) = k by omega, hl]; exact h1
    · rw [show ((k : Int).toNat) = k by omega, hl]; omega
    · rw [show ((k : Int).toNat) = k by omega, hl]; exact h2

end Go.Proofs.YtpaelngpmbeedaaGreatDoor
/- (*Disk).Sync: how the disk lies behind it. -/
namespace Go.Proofs.YtpaelngpmbeedaaGreatDoor
open Go.RowKit


/-- the load of one pending write -/
theorem load_pend {w : World} {g3 c3 n k : Nat} {l : List (Nat × List Int)} (h : w.ownsRow 0 89 65 (.slice (some ⟨g3, 0, none⟩) n c3) n (pv l)) (hl : ∀ p ∈ l, p.2.length = 64) (hk : k < l.length) :
    (Instr.loadAt 89 (.pointer (some ⟨g3, k * 65, none⟩))).run Tryz.prog w = .ok (.agg (wv l[k]).toArray) w := by
  have hr := own_range h (k * 65) 65
  rw [pv_at hl k hk] at hr
  have h1 := hl _ (List.getElem_mem hk)
  exact run_loadAt_mid (P := Tryz.prog) w g3 (k * 65) 89 (wv l[k]) _ hr Tryz.underlying89 rfl (by rw [size_write]; simp [wv, h1])
theorem store_write {w : World} (p : Nat × List Int) (h : p.2.length = 64) : (Instr.storeAt 89 (.pointer (some ⟨w.heap.size, 0, none⟩)) (.agg (wv p).toArray)).run Tryz.prog (w.alloc (.cells (wv (0, zeros 64)).toArray 89)) = .ok () (w.alloc (.cells (wv p).toArray 89)) :=
  run_storeAt_new w 89 _ _ (by rw [size_write, wv_size h]) (by rw [wv_size h, wv_size (by simp [zeros])]) (all_oneCell_toArray (wv_one _))
/-- the bytes of a write that lies in a block -/
theorem load_b {w : World} {b : Nat} {p : Nat × List Int} (h : Blk w b 89 (wv p).toArray) (hp : p.2.length = 64) : (Instr.loadAt 87 (.pointer (some ⟨b, 1, none⟩))).run Tryz.prog w = .ok (.agg (bv p.2).toArray) w := by
  have hr := h.range 1 64
  rw [show (((wv p).toArray.toList.drop 1).take 64) = bv p.2 by simp only [wv, List.drop_succ_cons, List.drop_zero]; exact List.take_of_length_le (by simp [hp])] at hr
  exact run_loadAt_mid (P := Tryz.prog) w b 1 87 (bv p.2) _ hr Tryz.underlying87 rfl (by rw [size_sector]; simp [hp])
theorem store_sector {w : World} {b c n i : Nat} {xs : List Value} {v : List Int} (h : w.ownsRow 0 87 64 (.slice (some ⟨b, 0, none⟩) n c) n xs) (hi : i < n) (hv : v.length = 64) :
    (Instr.storeAt 87 (.pointer (some ⟨b, i * 64, none⟩)) (.agg (bv v).toArray)).run Tryz.prog w = .ok () (w.setCells b (i * 64) (bv v)) ∧
    (w.setCells b (i * 64) (bv v)).ownsRow 0 87 64 (.slice (some ⟨b, 0, none⟩) n c) n (splice xs (i * 64) (bv v)) ∧ Fr (· = b) w (w.setCells b (i * 64) (bv v)) := by
  have hin : (i + 1) * 64 ≤ n * 64 := Nat.mul_le_mul_right _ hi
  refine ⟨?_, own_setCells h (i * 64) (by simp [hv]; omega), fr_setCells b _ _ _ (Fr.refl _ _) (fun _ => rfl)⟩
  exact run_storeAt_mid (P := Tryz.prog) w b (i * 64) 87 (bv v).toArray (by simpa [hv] using own_there h (i * 64) 64 (by omega)) (by rw [size_sector]; simp [hv]) (all_oneCell_toArray (bv_one _))

theorem onto_take {s : List Int} {l : List (Nat × List Int)} {k : Nat} (hk : k < l.length) : onto s (l.take (k + 1)) = splice (onto s (l.take k)) (l[k].1 * 64) l[k].2 := by
  rw [List.take_succ_eq_append_getElem hk, onto_append]
  rfl

set_option maxHeartbeats 400000 in
theorem sync_down (g : Nat) (D : DS) (F : Nat → Prop) (w : World) (ho : D.ok) (hd : D.goes = false) (hb : DiskAt w g D F) :
    Calls Tryz.prog 83 #[.pointer (some ⟨g, 0, none⟩)] w fun e w' => e = .returned (.tuple #[]) ∧ Fr (· = g) w w' ∧ DiskAt w' g D.after F := by
  have H2 := hide (done_any g D F w ho hb)
  rw [hd] at H2
  clear hd
  go_enter Tryz.func83, Tryz.ntmps83
  go_wp2_with (go_at_call 108; refine H2.out.mono ?_; rintro e w' ⟨rfl, h1, h2, h3⟩)
  ((try simp only [Exit.inBlock, Exit.then]); refine bodyPost_ret (results_none rfl _ _ _) rfl ?_)
  exact ⟨rfl, h1, h3⟩

set_option maxRecDepth 100000 in
set_option maxHeartbeats 1000000 in
theorem sync_ok (g : Nat) (D : DS) (F : Nat → Prop) (w : World) (ho : D.ok) (hd : D.goes = true) (hp : D.pend.length < 1000000) (hb : DiskAt w g D F) :
    Calls Tryz.prog 83 #[.pointer (some ⟨g, 0, none⟩)] w fun e w' => e = .returned (.tuple #[]) ∧ Fr F w w' ∧ DiskAt w' g { D.after with sure := onto D.sure D.pend, pend := [] } F := by
  have H2 := hide (done_any g D F w ho hb)
  rw [hd] at H2
  have HF := hide hb.fg
  have okA := ho.after
  have hpl : D.after.pend.length < 1000000 := hp
  have hlt := hide hb.lt
  rw [show onto D.sure D.pend = onto D.after.sure D.after.pend from rfl]
  clear hd hb hp ho
  generalize D.after = Da at *
  go_enter Tryz.func83, Tryz.ntmps83
  go_wp2_with fail
  refine H2.out.mono ?_
  rintro e w1 ⟨rfl, f1, hz, hb1⟩
  have HZ := hide hz
  clear hz H2
  obtain ⟨b1, c1, b2, c2, A3, c3, hD⟩ := hb1
  have k2 : w1.cell? ⟨g, 2, none⟩ = some (.slice A3 Da.pend.length c3) := (hD.blk.cell 2).trans rfl
  go_wp2_with fail
  have f1' : Fr F w w1 := f1.mono (by rintro i _ rfl; exact HF.out)
  have HO := hide okA
  clear f1 okA k2
  go_loopg [12] Da.pend.length (fun gh i wr => ∃ k : Nat, gh = Da.pend.length - k ∧ k ≤ Da.pend.length ∧ i = .int .i64 k ∧ Fr F w wr ∧ DiskIn wr g { Da with sure := onto Da.sure (Da.pend.take k) } F b1 c1 b2 c2 A3 c3)
  case atStart => exact ⟨0, by omega, Nat.zero_le _, rfl, f1', hD⟩
  case round =>
    clear f1' hD
    obtain ⟨k, hgk, hk, rfl, hF, hD⟩ := hrel
    by_cases hkn : k < Da.pend.length
    · obtain ⟨g3, rfl⟩ := own_form hD.pend (by show 0 < Da.pend.length; omega)
      have hp1 := HO.out.hp _ (List.getElem_mem hkn)
      have hld := load_pend (w := wr) (k := k) hD.pend (fun p h => (HO.out.hp p h).2) hkn
      have HG := hide hgk
      have HD := hide hD
      have HFR := hide hF
      have HK := hide hk
      have hs1 := fun w => store_write (w := w) Da.pend[k] hp1.2
      have HT := hide (onto_take (s := Da.sure) hkn)
      change (Instr.loadAt 89 (.pointer (some ⟨g3, k * 65, none⟩))).run Tryz.prog wr = .ok (.agg (wv Da.pend[k]).toArray) wr at hld
      generalize Da.pend[k] = p at hp1 hld hs1 HT
      obtain ⟨pi, pb⟩ := p
      simp only at hp1
      have hpi := hp1.1
      have hpb := hp1.2
      clear hp1 hgk hk hD hF
      go_wp2_with (first
        | ((with_reducible apply at_load (t := 89)); (focus rfl); (focus rfl); (focus rfl); (focus exact hld))
        | ((with_reducible apply at_alloc (t := 89)); (focus rfl); (focus rfl); (focus exact alloc_write _))
        | ((with_reducible apply at_store (t := 89)); (focus rfl); (focus rfl); (focus rfl); (focus rfl); (focus exact hs1 _)))
      refine region_tail 9 (by kernel_rfl) (by kernel_rfl) (fun W hW => ?_)
      have hFW : Fr Non wr W := by rw [hW]; exact ((Fr.refl _ _).alloc _).drew
      have hDW := HD.out.fr hFW (fun _ _ x => x)
      have hblk : Blk W wr.heap.size 89 (wv (pi, pb)).toArray := by rw [hW]; exact (Blk.new _ _ _).drew
      have hzW : W.heap.size = wr.heap.size + 1 := by rw [hW]; exact World.size_alloc _ _
      have HZW := hide hzW
      clear hW hzW
      have q1 : W.cell? ⟨g, 1, none⟩ = some (.slice (some ⟨b2, 0, none⟩) Da.n c2) := (hDW.blk.cell 1).trans rfl
      have q2 : W.cell? ⟨wr.heap.size, 0, none⟩ = some (.int .i64 pi) := (hblk.cell 0).trans rfl
      have hlb := load_b hblk hpb
      have hnk : (0 : Int) ≤ (pi : Int) ∧ (pi : Int) < (Da.n : Int) := by omega
      have HDW := hide hDW
      obtain ⟨hst, hown, hfr⟩ := store_sector hDW.sure (show pi < Da.n from hpi) hpb
      clear hDW hblk
      generalize W.setCells b2 (pi * 64) (bv pb) = W2 at hst hown hfr
      simp only [List.take_succ_cons, List.take_zero, List.drop_succ_cons, List.drop_zero]
      iterate 7 still_step
      (with_reducible apply still_load (t := 87))
      focus rfl
      focus rfl
      focus rfl
      focus exact hlb
      repeat still_step
      try refine wpStill_nil ?_
      (with_reducible apply at_store (t := 87))
      focus rfl
      focus rfl
      focus rfl
      focus rfl
      focus exact hst
      simp only [Act.put]
      clear hst hlb q1 q2
      go_wp2_with fail
      go_roundg (Da.pend.length - (k + 1))
      case measure => have := HG.out; omega
      case rel =>
        have hDW := HDW.out
        refine ⟨k + 1, rfl, by omega, rfl, ?_, ?_⟩
        · exact (HFR.out.step hFW (fun _ x _ => x.elim)).step hfr (by rintro i rfl _; exact hDW.f2)
        · refine ⟨?_, ?_, ?_, ?_, hDW.ne, hDW.fg, hDW.f1, hDW.f2, hDW.f3, fun b hb => Nat.lt_of_lt_of_le (hDW.lt b hb) hfr.size⟩
          · exact hDW.blk.fr hfr hDW.ne2
          · exact own_fr1 hDW.seen hfr hDW.ne
          · rw [HT.out, bv_splice]; exact hown
          · exact own_fr hDW.pend hfr (fun b hb => (hDW.ne3 b hb).2.2)
    · obtain rfl : k = Da.pend.length := by omega
      have HD := hide hD
      have k2 : wr.cell? ⟨g, 2, none⟩ = some (.slice A3 Da.pend.length c3) := (hD.blk.cell 2).trans rfl
      have j2 := hD.blk.frozen 2
      clear hD hgk hk
      have HFR := hide hF
      go_wp2_with fail
      go_end0
      have hD := HD.out
      rw [List.take_length] at hD
      have hf : Fr (· = g) wr (wr.setCell ⟨g, 2, none⟩ (.slice none 0 0)) := Fr.setCell (S := (· = g)) (p := ⟨g, 2, none⟩) (Fr.refl _ _) (fun _ => rfl) _
      refine ⟨rfl, HFR.out.setCell (fun _ => hD.fg) _, b1, c1, b2, c2, none, 0, ?_⟩
      refine ⟨hD.blk.set_ 2 _, own_fr1 hD.seen hf (fun e => hD.ne1 e.symm), own_fr1 hD.sure hf (fun e => hD.ne2 e.symm), World.ownsRow_nil _ _ _ _, hD.ne, hD.fg, hD.f1, hD.f2, fun b e => by simp [Value.ownBlock] at e, fun b hb => Nat.lt_of_lt_of_le (hD.lt b hb) hf.size⟩

theorem sync_any (g : Nat) (D : DS) (F : Nat → Prop) (w : World) (ho : D.ok) (hp : D.pend.length < 1000000) (hb : DiskAt w g D F) :
    Calls Tryz.prog 83 #[.pointer (some ⟨g, 0, none⟩)] w fun e w' => e = .returned (.tuple #[]) ∧ Fr F w w' ∧ DiskAt w' g D.sync F := by
  unfold DS.sync
  cases hd : D.goes with
  | false =>
    refine (sync_down g D F w ho hd hb).mono ?_
    rintro e w' ⟨rfl, h1, h2⟩
    exact ⟨rfl, h1.mono (by rintro b _ rfl; exact hb.fg), h2⟩
  | true => exact sync_ok g D F w ho hd hp hb

end Go.Proofs.YtpaelngpmbeedaaGreatDoor
/- slices.Clone at one type: what it answers lies in new memory and reads as the old one did. -/
namespace Go.Proofs.YtpaelngpmbeedaaGreatDoor
open Go.RowKit

theorem info_sector : (Tryz.prog.info? 87).map (fun i => (i.zero, i.size, i.bytes)) = some (some (.agg (List.replicate 64 (.int .u8 0)).toArray), 64, 64) := by kernel_rfl
theorem empty_sector (w : World) : (Instr.buildSlice 82 0 #[]).run Tryz.prog w = .ok (.slice (some ⟨w.heap.size, 0, none⟩) 0 0) (w.alloc (.cells #[] 87)) := by kernel_rfl

set_option maxHeartbeats 400000 in
theorem clone_sector (a : Addr) (n c : Nat) (news : List Value) (w : World) (hl : news.length = n * 64) (hc : ∀ j u, news[j]? = some u → w.cell? (a.add j) = some u) (h1 : ∀ u ∈ news, u.oneCell' = true) (hn : n * 64 ≤ 140737488355328) :
    Calls Tryz.prog 31 #[.slice (some a) n c] w fun e w' => ∃ v g, e = .returned v ∧ w'.ownsRow 0 87 64 v n news ∧ v.ownBlock = some g ∧ w.heap.size ≤ g ∧ g < w'.heap.size ∧ Fr Non w w' := by
  have hnil := fun w => Lib.run_eql_slice_nil (P := Tryz.prog) w 82 87 (some a) n c 0 0 Tryz.underlying82
  have hemp := empty_sector
  have HL := hide hl
  have HC := hide (fun j u h => (World.cell?_alloc_lt w (.cells #[] 87) (a.add j) (World.block_lt_of_cell? _ _ (hc j u h))).trans (hc j u h))
  have H1 := hide h1
  have hown : (w.alloc (.cells #[] 87)).ownsRow 0 87 64 (.slice (some ⟨w.heap.size, 0, none⟩) 0 0) 0 [] := World.ownsRow_made w #[] 0 (Nat.zero_le _) (Nat.zero_le _) (by simp)
  have HO := hide hown
  clear hl hc h1 hown
  go_enter Tryz.func31, Tryz.ntmps31
  go_wp2_with (at_builtin; refine append_at rfl _ _ 82 rfl 0 87 (.agg (List.replicate 64 (.int .u8 0)).toArray) 64 64 Tryz.underlying82 info_sector (by kernel_rfl) (by omega) (.slice (some ⟨w.heap.size, 0, none⟩) 0 0) 0 [] rfl HO.out a n c rfl news HL.out HC.out H1.out (by omega) (by omega) (Nat.zero_le _) ?_; intro v w1 hown1 hf1 hb1)
  go_ret
  have hg : v.ownBlock = some w.heap.size ∨ v.ownBlock = some (w.heap.size + 1) := by
    rcases hb1 with h | h
    · exact .inl h
    · exact .inr (by rw [h]; simp)
  have hF : Fr Non w w1 := ((Fr.refl _ _).alloc _).step hf1 (by intro i hi hlt; simp [Value.ownBlock] at hi; omega)
  have hown2 : w1.ownsRow 0 87 64 v n news := by simpa using hown1
  rcases hg with h | h
  · exact ⟨v, _, rfl, hown2, h, Nat.le_refl _, (hown2.lt _ h).2, hF⟩
  · exact ⟨v, _, rfl, hown2, h, by omega, (hown2.lt _ h).2, hF⟩

theorem clone_sector_nil (n c : Nat) (w : World) :
    Calls Tryz.prog 31 #[.slice none n c] w fun e w' => e = .returned (.slice none 0 0) ∧ w = w' := by
  have hnil := fun w => Lib.run_eql_slice_nil (P := Tryz.prog) w 82 87 none n c 0 0 Tryz.underlying82
  go_enter Tryz.func31, Tryz.ntmps31
  go_wp2
  go_ret
  exact ⟨rfl, rfl⟩

end Go.Proofs.YtpaelngpmbeedaaGreatDoor
/- (*Disk).Crash: how the disk lies behind it. -/
namespace Go.Proofs.YtpaelngpmbeedaaGreatDoor
open Go.RowKit

theorem tear_take {picks s : List Int} {l : List (Nat × List Int)} {k : Nat} (hk : k < l.length) :
    tear picks s 0 (l.take (k + 1)) = splice (tear picks s 0 (l.take k)) (l[k].1 * 64) (l[k].2.take (keeps picks k)) := by
  rw [List.take_succ_eq_append_getElem hk, tear_append, List.length_take, Nat.min_eq_left (by omega), Nat.zero_add]
  rfl

set_option maxRecDepth 100000 in
set_option maxHeartbeats 1000000 in
theorem crash_any (g : Nat) (A : Option Addr) (n c : Nat) (picks : List Int) (Q : Nat → Prop) (D : DS) (F : Nat → Prop) (w : World) (ho : D.ok) (hp : D.pend.length < 1000000)
    (hn : n = picks.length) (hq : ∀ b, Q b → ¬ F b) (hv : Sl w Q 1 A n (picks.map (Value.int .i64))) (hb : DiskAt w g D F) :
    Calls Tryz.prog 12 #[.pointer (some ⟨g, 0, none⟩), .slice A n c] w fun e w' => e = .returned (.tuple #[]) ∧ Fr F w w' ∧ DiskAt w' g (D.crash picks) (Plus F w w') := by
  have HF := hide hb.fg
  have HN := hide hn
  have HV := hide hv
  have hlt := hide hb.lt
  obtain ⟨b1, c1, b2, c2, A3, c3, hD⟩ := hb
  have k2 : w.cell? ⟨g, 2, none⟩ = some (.slice A3 D.pend.length c3) := (hD.blk.cell 2).trans rfl
  have HO := hide ho
  clear ho hn hv
  go_enter Tryz.func12, Tryz.ntmps12
  go_wp2_with fail
  clear k2
  go_loopg [12] D.pend.length (fun gh i wr => ∃ k : Nat, gh = D.pend.length - k ∧ k ≤ D.pend.length ∧ i = .int .i64 k ∧ Fr F w wr ∧ DiskIn wr g { D with sure := tear picks D.sure 0 (D.pend.take k) } F b1 c1 b2 c2 A3 c3)
  case atStart => exact ⟨0, by omega, Nat.zero_le _, rfl, Fr.refl _ _, hD⟩
  case round =>
    clear hD
    obtain ⟨k, hgk, hk, rfl, hF, hD⟩ := hrel
    by_cases hkn : k < D.pend.length
    · obtain ⟨g3, rfl⟩ := own_form hD.pend (by show 0 < D.pend.length; omega)
      have hp1 := HO.out.hp _ (List.getElem_mem hkn)
      have hld := load_pend (w := wr) (k := k) hD.pend (fun p h => (HO.out.hp p h).2) hkn
      have HG := hide hgk
      have HD := hide hD
      have HFR := hide hF
      have HK := hide hk
      have hs1 := fun w => store_write (w := w) D.pend[k] hp1.2
      have HT := hide (tear_take (picks := picks) (s := D.sure) hkn)
      change (Instr.loadAt 89 (.pointer (some ⟨g3, k * 65, none⟩))).run Tryz.prog wr = .ok (.agg (wv D.pend[k]).toArray) wr at hld
      generalize D.pend[k] = p at hp1 hld hs1 HT
      obtain ⟨pi, pb⟩ := p
      simp only at hp1
      have hpi := hp1.1
      have hpb := hp1.2
      clear hp1 hgk hk hD hF
      go_upto_if 20 with (first
        | ((with_reducible apply at_load (t := 89)); (focus rfl); (focus rfl); (focus rfl); (focus exact hld))
        | ((with_reducible apply at_alloc (t := 89)); (focus rfl); (focus rfl); (focus exact alloc_write _))
        | ((with_reducible apply at_store (t := 89)); (focus rfl); (focus rfl); (focus rfl); (focus rfl); (focus exact hs1 _)))
      have hkc : ((k : Int) < (n : Int)) = (k < picks.length) := by rw [HN.out]; simp
      go_cut [6] (fun t wx => t = .int .i64 (keeps picks k) ∧ wx = wr.alloc (.cells (wv (pi, pb)).toArray 89))
      case first =>
        by_cases hkp : k < picks.length
        · have hVW : Sl wr Q 1 A n (picks.map (Value.int .i64)) := HV.out.fr HFR.out (fun b h _ => hq b h)
          obtain ⟨ad, u, rfl, hqa, hab, hxu, hcu⟩ := hVW.at_ (k := k) (by rw [HN.out]; exact hkp)
          obtain rfl : u = .int .i64 picks[k] := by
            rw [List.getElem?_map, List.getElem?_eq_getElem hkp] at hxu
            simpa using hxu.symm
          have hck : (wr.alloc (.cells (wv (pi, pb)).toArray 89)).cell? (ad.add k) = some (.int .i64 picks[k]) := (World.cell?_alloc_lt _ _ _ (by rw [addr_block]; exact hab)).trans hcu
          clear hVW hxu hcu
          have hkn' : (k : Int) < (n : Int) := by rw [HN.out]; omega
          have hkeep : ((keeps picks k : Nat) : Int) = max 0 (min picks[k] 64) := by
            unfold keeps
            rw [if_pos hkp, List.getD_eq_getElem?_getD, List.getElem?_eq_getElem hkp]
            simp only [Option.getD_some]
            omega
          have HKE := hide hkeep
          clear hkeep
          go_wp2_with fail
          all_goals
            go_meet
            refine ⟨?_, rfl⟩
            have := HKE.out
            congr 1
            omega
        · have hkn' : ¬ (k : Int) < (n : Int) := by rw [HN.out]; omega
          have HKE : Hid (keeps picks k = 0) := by unfold keeps; rw [if_neg hkp]; exact hide rfl
          go_wp2_with fail
          all_goals
            go_meet
            refine ⟨?_, rfl⟩
            have := HKE.out
            congr 1
            omega
      case rest =>
        obtain ⟨rfl, rfl⟩ := hcut
        have hkl : keeps picks k ≤ 64 := keeps_le picks k
        generalize keeps picks k = kp at HT hkl
        go_wp2_with fail
        refine region_tail 11 (by kernel_rfl) (by kernel_rfl) (fun W hW => ?_)
        have hFW : Fr Non wr W := by rw [hW]; exact ((Fr.refl _ _).alloc _).drew
        have hDW := HD.out.fr hFW (fun _ _ x => x)
        have hblk : Blk W wr.heap.size 89 (wv (pi, pb)).toArray := by rw [hW]; exact (Blk.new _ _ _).drew
        clear hW
        have q1 : W.cell? ⟨g, 1, none⟩ = some (.slice (some ⟨b2, 0, none⟩) D.n c2) := (hDW.blk.cell 1).trans rfl
        have q2 : W.cell? ⟨wr.heap.size, 0, none⟩ = some (.int .i64 pi) := (hblk.cell 0).trans rfl
        have hnk : (0 : Int) ≤ (pi : Int) ∧ (pi : Int) < (D.n : Int) := by omega
        have hin : (pi + 1) * 64 ≤ D.n * 64 := Nat.mul_le_mul_right _ hpi
        have HDW := hide hDW
        have hcp : (Builtin.copy_ #[34, 34] 3 #[.slice (some ⟨b2, pi * 64, none⟩) 64 64, .slice (some ⟨wr.heap.size, 1, none⟩) kp 64]).run Tryz.prog W = .ok (goInt kp) (W.setCells b2 (pi * 64) (bv (pb.take kp))) := by
          refine copy_run 34 34 3 5 b2 (pi * 64) 64 64 (some ⟨wr.heap.size, 1, none⟩) kp 64 (bv (pb.take kp)) (fun _ => True) Tryz.underlying34 size_byte ?_ hkl ?_ (bv_one _)
          · refine ⟨by simp [hpb]; omega, fun _ => ⟨_, rfl, trivial, hblk.lt, fun j u hu => ?_⟩⟩
            rw [show (⟨wr.heap.size, 1, none⟩ : Addr).add j = ⟨wr.heap.size, 1 + j, none⟩ by unfold Addr.add; split <;> simp_all, hblk.cell]
            rw [show 1 + j = j + 1 by omega]
            simp only [wv, List.getElem?_toArray, List.getElem?_cons_succ]
            rw [show bv (pb.take kp) = (bv pb).take kp by simp [bv, List.map_take], List.getElem?_take] at hu
            split at hu
            · exact hu
            · cases hu
          · exact fun j hj => own_there hDW.sure (pi * 64) 64 (by show pi * 64 + 64 ≤ D.n * 64; omega) j (by omega)
        have hown := own_setCells (vs := bv (pb.take kp)) hDW.sure (pi * 64) (by show pi * 64 + (bv (pb.take kp)).length ≤ D.n * 64; simp; omega)
        have hfr : Fr (· = b2) W (W.setCells b2 (pi * 64) (bv (pb.take kp))) := fr_setCells b2 _ _ _ (Fr.refl _ _) (fun _ => rfl)
        clear hDW hblk
        have hkz : (kp : Int) ≤ 64 := by omega
        have hkz2 : kp ≤ 64 := hkl
        generalize W.setCells b2 (pi * 64) (bv (pb.take kp)) = W2 at hcp hown hfr
        simp only [List.take_succ_cons, List.take_zero, List.drop_succ_cons, List.drop_zero]
        repeat still_step
        try refine wpStill_nil ?_
        (with_reducible apply at_copy (tx := 34))
        focus rfl
        focus rfl
        focus rfl
        focus rfl
        focus exact hcp
        simp only [Act.put]
        clear hcp q1 q2
        go_wp2_with fail
        go_roundg (D.pend.length - (k + 1))
        case measure => have := HG.out; omega
        case rel =>
          have hDW := HDW.out
          refine ⟨k + 1, rfl, by omega, rfl, ?_, ?_⟩
          · exact (HFR.out.step hFW (fun _ x _ => x.elim)).step hfr (by rintro i rfl _; exact hDW.f2)
          · refine ⟨?_, ?_, ?_, ?_, hDW.ne, hDW.fg, hDW.f1, hDW.f2, hDW.f3, fun b hb => Nat.lt_of_lt_of_le (hDW.lt b hb) hfr.size⟩
            · exact hDW.blk.fr hfr hDW.ne2
            · exact own_fr1 hDW.seen hfr hDW.ne
            · rw [HT.out, bv_splice]; exact hown
            · exact own_fr hDW.pend hfr (fun b hb => (hDW.ne3 b hb).2.2)
    · obtain rfl : k = D.pend.length := by omega
      have HFR := hide hF
      rw [List.take_length] at hD
      have HTL := hide (tear_length picks D.pend D.sure 0 D.n HO.out.hu HO.out.hp)
      generalize hTT : tear picks D.sure 0 D.pend = T at *
      have HTT := hide hTT
      clear hTT
      have HD := hide hD
      have q2 : wr.cell? ⟨g, 2, none⟩ = some (.slice A3 D.pend.length c3) := (hD.blk.cell 2).trans rfl
      have q3 : wr.cell? ⟨g, 3, none⟩ = some (.int .i64 D.fuse) := (hD.blk.cell 3).trans rfl
      have q4 : wr.cell? ⟨g, 4, none⟩ = some (.bool D.down) := (hD.blk.cell 4).trans rfl
      have q1 : wr.cell? ⟨g, 1, none⟩ = some (.slice (some ⟨b2, 0, none⟩) D.n c2) := (hD.blk.cell 1).trans rfl
      have j0 := hD.blk.frozen 0
      have j2 := hD.blk.frozen 2
      have j3 := hD.blk.frozen 3
      have j4 := hD.blk.frozen 4
      clear hD hgk hk hF
      go_wp2_with fail
      have hfr : Fr (· = g) wr (((wr.setCell ⟨g, 2, none⟩ (.slice none 0 0)).setCell ⟨g, 3, none⟩ (.int .i64 (-1))).setCell ⟨g, 4, none⟩ (.bool false)) :=
        Fr.setCell (S := (· = g)) (p := ⟨g, 4, none⟩) (Fr.setCell (S := (· = g)) (p := ⟨g, 3, none⟩) (Fr.setCell (S := (· = g)) (p := ⟨g, 2, none⟩) (Fr.refl _ _) (fun _ => rfl) _) (fun _ => rfl) _) (fun _ => rfl) _
      have hblk := ((HD.out.blk.set_ 2 (.slice none 0 0)).set_ 3 (.int .i64 (-1))).set_ 4 (.bool false)
      generalize ((wr.setCell ⟨g, 2, none⟩ (.slice none 0 0)).setCell ⟨g, 3, none⟩ (.int .i64 (-1))).setCell ⟨g, 4, none⟩ (.bool false) = W3 at hfr hblk
      have hD := HD.out
      have hseen3 := own_fr1 hD.seen hfr (fun e => hD.ne1 e.symm)
      have hsure3 := own_fr1 hD.sure hfr (fun e => hD.ne2 e.symm)
      have hlt3 : ∀ b, F b → b < W3.heap.size := fun b hb => Nat.lt_of_lt_of_le (hD.lt b hb) hfr.size
      have n1 := HO.out.n1
      have n2 := HO.out.n2
      have HD2 := hide hD
      clear hD q1 q2 q3 q4 j0 j2 j3 j4
      refine (clone_sector ⟨b2, 0, none⟩ D.n c2 (bv T) W3 (by simpa using HTL.out) (hsure3.cells (g := b2) rfl) (bv_one _) (by omega)).mono ?_
      rintro e w5 ⟨v, g5, rfl, hown5, hob, hge, hlt5, hF5⟩
      obtain ⟨A5, c5, rfl⟩ : ∃ A5 c5, v = .slice A5 D.n c5 := by
        rcases hown5.2 with ⟨rfl, h0⟩ | ⟨b5, cap5, cur5, rfl, _⟩
        · omega
        · exact ⟨_, _, rfl⟩
      obtain ⟨g5', rfl⟩ := own_form hown5 (by omega)
      obtain rfl : g5' = g5 := by simpa [Value.ownBlock] using hob
      have hblk5 := hblk.fr hF5 (fun x => x)
      have q0 : w5.cell? ⟨g, 0, none⟩ = some (.slice (some ⟨b1, 0, none⟩) D.n c1) := (hblk5.cell 0).trans rfl
      have j0 := hblk5.frozen 0
      have HB5 := hide hblk5
      clear hblk5
      go_wp2_with fail
      go_end0
      have hTT := HTT.out
      subst hTT
      have hblk5 := HB5.out
      have hD := HD2.out
      have hf6 : Fr (· = g) w5 (w5.setCell ⟨g, 0, none⟩ (.slice (some ⟨g5', 0, none⟩) D.n c5)) := Fr.setCell (S := (· = g)) (p := ⟨g, 0, none⟩) (Fr.refl _ _) (fun _ => rfl) _
      have hs6 : (w5.setCell ⟨g, 0, none⟩ (.slice (some ⟨g5', 0, none⟩) D.n c5)).heap.size = w5.heap.size := by simp [World.setCell]
      have hsw := HFR.out.size
      have hsr := hfr.size
      have h5 := hF5.size
      have hgl := hlt3 _ hD.fg
      have hb2 := hlt3 _ hD.f2
      refine ⟨rfl, (((HFR.out.step hfr (by rintro i rfl _; exact hD.fg)).step hF5 (fun _ x _ => x.elim)).setCell (fun _ => hD.fg) _), g5', c5, b2, c2, none, 0, ?_⟩
      refine ⟨hblk5.set_ 0 _, own_fr1 hown5 hf6 (by omega), own_fr1 (own_fr1 hsure3 hF5 (fun x => x)) hf6 (fun e => hD.ne2 e.symm), World.ownsRow_nil _ _ _ _, by omega, .inl hD.fg, .inr ⟨by omega, by omega⟩, .inl hD.f2, fun b e => by simp [Value.ownBlock] at e, ?_⟩
      rintro b (h | h)
      · have := hlt3 b h; omega
      · exact h.2

end Go.Proofs.YtpaelngpmbeedaaGreatDoor
/- (*Disk).Copy: another disk that is alike, in new memory. -/
namespace Go.Proofs.YtpaelngpmbeedaaGreatDoor
open Go.RowKit

theorem clone_row {b n c : Nat} {xs : List Value} {w : World} (h : w.ownsRow 0 87 64 (.slice (some ⟨b, 0, none⟩) n c) n xs) (h1 : ∀ u ∈ xs, u.oneCell' = true) (hn : 0 < n) (hn' : n ≤ 512) :
    Calls Tryz.prog 31 #[.slice (some ⟨b, 0, none⟩) n c] w fun e w' => ∃ g c', e = .returned (.slice (some ⟨g, 0, none⟩) n c') ∧ w'.ownsRow 0 87 64 (.slice (some ⟨g, 0, none⟩) n c') n xs ∧ w.heap.size ≤ g ∧ g < w'.heap.size ∧ Fr Non w w' := by
  refine (clone_sector ⟨b, 0, none⟩ n c xs w h.1 (h.cells (g := b) rfl) h1 (by omega)).mono ?_
  rintro e w5 ⟨v, g5, rfl, hown5, hob, hge, hlt5, hF5⟩
  obtain ⟨A5, c5, rfl⟩ : ∃ A5 c5, v = .slice A5 n c5 := by
    rcases hown5.2 with ⟨rfl, h0⟩ | ⟨b5, cap5, cur5, rfl, _⟩
    · omega
    · exact ⟨_, _, rfl⟩
  obtain ⟨g5', rfl⟩ := own_form hown5 hn
  obtain rfl : g5' = g5 := by simpa [Value.ownBlock] using hob
  exact ⟨_, _, rfl, hown5, hge, hlt5, hF5⟩

theorem pv_cells (l : List (Nat × List Int)) : ∀ u ∈ pv l, u.oneCell' = true := by
  intro u hu
  obtain ⟨p, _, hp⟩ := List.mem_flatMap.1 hu
  exact wv_one p u hp
theorem build_disk (w : World) (A0 A1 A2 : Option Addr) (n0 c0 n1 c1 n2 c2 : Nat) (x : Int) (y : Bool) :
    (Instr.build 85 #[(0, .slice A0 n0 c0), (1, .slice A1 n1 c1), (2, .slice A2 n2 c2), (3, .int .i64 x), (4, .bool y)]).run Tryz.prog w = .ok (.agg #[.slice A0 n0 c0, .slice A1 n1 c1, .slice A2 n2 c2, .int .i64 x, .bool y]) w := by kernel_rfl
theorem box_disk (w : World) (A0 A1 A2 : Option Addr) (n0 c0 n1 c1 n2 c2 : Nat) (x : Int) (y : Bool) :
    (Instr.box 85 (.agg #[.slice A0 n0 c0, .slice A1 n1 c1, .slice A2 n2 c2, .int .i64 x, .bool y])).run Tryz.prog w = .ok (.pointer (some ⟨w.heap.size, 0, none⟩)) (w.alloc (.cells #[.slice A0 n0 c0, .slice A1 n1 c1, .slice A2 n2 c2, .int .i64 x, .bool y] 85)) := by kernel_rfl

end Go.Proofs.YtpaelngpmbeedaaGreatDoor
/- disk.New: an empty disk, in new memory. -/
namespace Go.Proofs.YtpaelngpmbeedaaGreatDoor
open Go.RowKit

theorem made_rep (K m : Nat) (x : Value) (hK : 0 < K) : (madeCells (Value.agg (List.replicate K x).toArray).cells m).toList = List.replicate m x := by
  show (madeCells (List.replicate K x).toArray m).toList = List.replicate m x
  unfold madeCells
  rw [Array.toList_map, Array.toList_range, List.eq_replicate_iff]
  refine ⟨by simp, fun b hb => ?_⟩
  obtain ⟨i, _, rfl⟩ := List.mem_map.1 hb
  have : i % K < K := Nat.mod_lt _ hK
  simp [this]
theorem made_zero (m : Nat) : (madeCells (Value.agg (List.replicate 64 (.int .u8 0)).toArray).cells m).toList = bv (zeros m) := by
  rw [made_rep 64 m _ (by omega)]
  unfold bv zeros
  rw [List.map_replicate]

theorem seq_makeSlice {P : Program} {l : List Oper} {Q : Exit → Act → World → Prop} {S : World → Prop} {L : Nat} {i : Nat} {r : List Nat} {a : Act} {w w' : World} {o : Oper} {v : Value} (ho : l[i]? = some o) (hg : o.guard = none) (t : TypeId) (x y : Operand) (p u : Value) (hop : o.op = .makeSlice t x y) (hx : a.eval x = p) (hy : a.eval y = u)
    (hrun : (Instr.makeSlice t p u).run P w = .ok v w') (hS : i < L → S w') (h : wpSeq P l.toArray Q S L r (a.put o.dst v) w') : wpSeq P l.toArray Q S L (i :: r) a w :=
  seq_run ho hg (by unfold execOp; simp only [hop, hx, hy, Sem.run_bind, Sem.run_pure, Result.andThen_ok, hrun]) hS h

/-- what make lays -/
theorem make_row (n : Nat) (w : World) (hn : n ≤ 512) : ∃ w', (Instr.makeSlice 82 (.int .i64 n) (.int .i64 n)).run Tryz.prog w = .ok (.slice (some ⟨w.heap.size, 0, none⟩) n n) w' ∧
    w'.ownsRow 0 87 64 (.slice (some ⟨w.heap.size, 0, none⟩) n n) n (bv (zeros (n * 64))) ∧ Fr Non w w' ∧ w'.heap.size = w.heap.size + 1 := by
  obtain ⟨i0, hi0, hz0, hz1, hz2⟩ := info_parts info_sector
  have hr := run_makeSlice (P := Tryz.prog) w 82 87 i0 _ Tryz.underlying82 hi0 hz0 .i64 .i64 n n (by omega) (by omega) (by rw [hz1]; simp; omega) (by rw [hz2]; omega) (by omega)
  simp only [Int.toNat_natCast, hz1] at hr
  refine ⟨_, hr, ?_, (Fr.refl _ _).alloc _, World.size_alloc _ _⟩
  have := World.ownsRow_lit w (madeCells (Value.agg (List.replicate 64 (.int .u8 0)).toArray).cells (n * 64)) n (base := 0) (size := 64) (e := 87) (Nat.zero_le _) (by unfold maxLen; omega) (size_madeCells _ _)
  rwa [made_zero] at this

theorem build_disk3 (w : World) (A0 A1 : Option Addr) (n0 c0 n1 c1 : Nat) :
    (Instr.build 85 #[(0, .slice A0 n0 c0), (1, .slice A1 n1 c1), (3, .int .i64 (-1))]).run Tryz.prog w = .ok (.agg #[.slice A0 n0 c0, .slice A1 n1 c1, .slice none 0 0, .int .i64 (-1), .bool false]) w := by kernel_rfl

set_option maxHeartbeats 400000 in
theorem new_no (n : Int) (w : World) (hn : n < 1 ∨ 512 < n) :
    Calls Tryz.prog 23 #[.int .i64 n] w fun e w' => e = .returned (.tuple #[.pointer none, .int .i64 1]) ∧ w = w' := by
  by_cases h1 : n < 1
  · go_enter Tryz.func23, Tryz.ntmps23
    go_wp2_with fail
    go_ret2
    exact ⟨rfl, rfl⟩
  · have h2 : 512 < n := by omega
    clear hn
    go_enter Tryz.func23, Tryz.ntmps23
    go_wp2_with fail
    go_ret2
    exact ⟨rfl, rfl⟩

set_option maxRecDepth 100000 in
set_option maxHeartbeats 1000000 in
theorem new_yes (n : Nat) (w : World) (h1 : 1 ≤ n) (h2 : n ≤ 512) :
    Calls Tryz.prog 23 #[.int .i64 n] w fun e w' => ∃ g, e = .returned (.tuple #[.pointer (some ⟨g, 0, none⟩), .int .i64 0]) ∧ w.heap.size ≤ g ∧ DiskAt w' g (DS.new n) (Plus Non w w') ∧ Fr Non w w' := by
  have h1' : ¬ (n : Int) < 1 := by omega
  have h2' : ¬ 512 < (n : Int) := by omega
  go_enter Tryz.func23, Tryz.ntmps23
  go_wp2_with fail
  refine region_mixs (fun W => True ∧ True) 8 5 [0, 2] [[1, 3, 4, 5, 6, 7], [3, 1, 4, 5, 6, 7]] (by kernel_rfl) (by kernel_rfl)
    (fun d => by cases d <;> exact fun _ _ _ _ h => h) (fun W3 hW3 => ?_)
  have hF3 : Fr Non w W3 := by rw [hW3]; exact (Fr.refl _ _).drew
  have hz3 : W3.heap.size = w.heap.size := by rw [hW3]; rfl
  clear hW3
  refine ⟨⟨trivial, trivial⟩, ?_⟩
  iterate 2 (refine take_run rfl rfl (fun W hW => by (rcases hW with ⟨_, _⟩; go_simp; try rfl)) ?_; simp only [Act.put, List.setIfInBounds_toArray, List.set_cons_succ, List.set_cons_zero])
  obtain ⟨W4, r4, o4, F4, z4⟩ := make_row n W3 h2
  obtain ⟨W5, r5, o5, F5, z5⟩ := make_row n W4 h2
  intro tl htl
  simp only [List.mem_cons, List.not_mem_nil, or_false] at htl
  rcases htl with rfl | rfl
  · refine seq_makeSlice rfl rfl 82 _ _ (.int .i64 n) (.int .i64 n) rfl rfl rfl r4 (fun _ => ⟨trivial, trivial⟩) ?_
    (simp only [Act.put, List.setIfInBounds_toArray, List.set_cons_succ, List.set_cons_zero])
    refine seq_makeSlice rfl rfl 82 _ _ (.int .i64 n) (.int .i64 n) rfl rfl rfl r5 (fun _ => ⟨trivial, trivial⟩) ?_
    (simp only [Act.put, List.setIfInBounds_toArray, List.set_cons_succ, List.set_cons_zero])
    refine seq_build rfl rfl 85 _ [(0, .slice (some ⟨W3.heap.size, 0, none⟩) n n), (1, .slice (some ⟨W4.heap.size, 0, none⟩) n n), (3, .int .i64 (-1))] rfl rfl (build_disk3 W5 (some ⟨W3.heap.size, 0, none⟩) (some ⟨W4.heap.size, 0, none⟩) n n n n) (fun _ => ⟨trivial, trivial⟩) ?_
    (simp only [Act.put, List.setIfInBounds_toArray, List.set_cons_succ, List.set_cons_zero])
    refine seq_box rfl rfl 85 _ _ rfl rfl (box_disk W5 (some ⟨W3.heap.size, 0, none⟩) (some ⟨W4.heap.size, 0, none⟩) none n n n n 0 0 (-1) false) (fun _ => ⟨trivial, trivial⟩) ?_
    (simp only [Act.put, List.setIfInBounds_toArray, List.set_cons_succ, List.set_cons_zero])
    refine seq_read rfl rfl (v := .pointer (some ⟨W5.heap.size, 0, none⟩)) (by (go_simp; try rfl)) (fun _ => ⟨trivial, trivial⟩) ?_
    (simp only [Act.put, List.setIfInBounds_toArray, List.set_cons_succ, List.set_cons_zero])
    refine seq_read rfl rfl (v := .int .i64 0) (by (go_simp; try rfl)) (fun _ => ⟨trivial, trivial⟩) ?_
    (simp only [Act.put, List.setIfInBounds_toArray, List.set_cons_succ, List.set_cons_zero])
    refine seq_nil ?_
    have hal : Fr Non W5 (W5.alloc (.cells #[.slice (some ⟨W3.heap.size, 0, none⟩) n n, .slice (some ⟨W4.heap.size, 0, none⟩) n n, .slice none 0 0, .int .i64 (-1), .bool false] 85)) := (Fr.refl _ _).alloc _
    have hnew := Blk.new W5 85 #[.slice (some ⟨W3.heap.size, 0, none⟩) n n, .slice (some ⟨W4.heap.size, 0, none⟩) n n, .slice none 0 0, .int .i64 (-1), .bool false]
    have hz := World.size_alloc W5 (.cells #[.slice (some ⟨W3.heap.size, 0, none⟩) n n, .slice (some ⟨W4.heap.size, 0, none⟩) n n, .slice none 0 0, .int .i64 (-1), .bool false] 85)
    generalize W5.alloc (.cells #[.slice (some ⟨W3.heap.size, 0, none⟩) n n, .slice (some ⟨W4.heap.size, 0, none⟩) n n, .slice none 0 0, .int .i64 (-1), .bool false] 85) = W7 at hal hnew hz
    have HZ := hide (And.intro hz (And.intro z4 (And.intro z5 hz3)))
    clear hz z4 z5 hz3
    go_wp2_with fail
    go_ret2
    obtain ⟨hz, z4, z5, hz3⟩ := HZ.out
    refine ⟨W5.heap.size, rfl, by omega, ⟨W3.heap.size, n, W4.heap.size, n, none, 0, ?_⟩, ((hF3.trans F4).trans F5).trans hal⟩
    refine ⟨hnew, own_non (own_non o4 F5) hal, own_non o5 hal, World.ownsRow_nil _ _ _ _, by omega, .inr ⟨by omega, by omega⟩, .inr ⟨by omega, by omega⟩, .inr ⟨by omega, by omega⟩, fun b hb => by simp [Value.ownBlock] at hb, ?_⟩
    rintro b (h | h)
    · exact h.elim
    · exact h.2
  · refine seq_makeSlice rfl rfl 82 _ _ (.int .i64 n) (.int .i64 n) rfl rfl rfl r4 (fun _ => ⟨trivial, trivial⟩) ?_
    (simp only [Act.put, List.setIfInBounds_toArray, List.set_cons_succ, List.set_cons_zero])
    refine seq_makeSlice rfl rfl 82 _ _ (.int .i64 n) (.int .i64 n) rfl rfl rfl r5 (fun _ => ⟨trivial, trivial⟩) ?_
    (simp only [Act.put, List.setIfInBounds_toArray, List.set_cons_succ, List.set_cons_zero])
    refine seq_build rfl rfl 85 _ [(0, .slice (some ⟨W4.heap.size, 0, none⟩) n n), (1, .slice (some ⟨W3.heap.size, 0, none⟩) n n), (3, .int .i64 (-1))] rfl rfl (build_disk3 W5 (some ⟨W4.heap.size, 0, none⟩) (some ⟨W3.heap.size, 0, none⟩) n n n n) (fun _ => ⟨trivial, trivial⟩) ?_
    (simp only [Act.put, List.setIfInBounds_toArray, List.set_cons_succ, List.set_cons_zero])
    refine seq_box rfl rfl 85 _ _ rfl rfl (box_disk W5 (some ⟨W4.heap.size, 0, none⟩) (some ⟨W3.heap.size, 0, none⟩) none n n n n 0 0 (-1) false) (fun _ => ⟨trivial, trivial⟩) ?_
    (simp only [Act.put, List.setIfInBounds_toArray, List.set_cons_succ, List.set_cons_zero])
    refine seq_read rfl rfl (v := .pointer (some ⟨W5.heap.size, 0, none⟩)) (by (go_simp; try rfl)) (fun _ => ⟨trivial, trivial⟩) ?_
    (simp only [Act.put, List.setIfInBounds_toArray, List.set_cons_succ, List.set_cons_zero])
    refine seq_read rfl rfl (v := .int .i64 0) (by (go_simp; try rfl)) (fun _ => ⟨trivial, trivial⟩) ?_
    (simp only [Act.put, List.setIfInBounds_toArray, List.set_cons_succ, List.set_cons_zero])
    refine seq_nil ?_
    have hal : Fr Non W5 (W5.alloc (.cells #[.slice (some ⟨W4.heap.size, 0, none⟩) n n, .slice (some ⟨W3.heap.size, 0, none⟩) n n, .slice none 0 0, .int .i64 (-1), .bool false] 85)) := (Fr.refl _ _).alloc _
    have hnew := Blk.new W5 85 #[.slice (some ⟨W4.heap.size, 0, none⟩) n n, .slice (some ⟨W3.heap.size, 0, none⟩) n n, .slice none 0 0, .int .i64 (-1), .bool false]
    have hz := World.size_alloc W5 (.cells #[.slice (some ⟨W4.heap.size, 0, none⟩) n n, .slice (some ⟨W3.heap.size, 0, none⟩) n n, .slice none 0 0, .int .i64 (-1), .bool false] 85)
    generalize W5.alloc (.cells #[.slice (some ⟨W4.heap.size, 0, none⟩) n n, .slice (some ⟨W3.heap.size, 0, none⟩) n n, .slice none 0 0, .int .i64 (-1), .bool false] 85) = W7 at hal hnew hz
    have HZ := hide (And.intro hz (And.intro z4 (And.intro z5 hz3)))
    clear hz z4 z5 hz3
    go_wp2_with fail
    go_ret2
    obtain ⟨hz, z4, z5, hz3⟩ := HZ.out
    refine ⟨W5.heap.size, rfl, by omega, ⟨W4.heap.size, n, W3.heap.size, n, none, 0, ?_⟩, ((hF3.trans F4).trans F5).trans hal⟩
    refine ⟨hnew, own_non o5 hal, own_non (own_non o4 F5) hal, World.ownsRow_nil _ _ _ _, by omega, .inr ⟨by omega, by omega⟩, .inr ⟨by omega, by omega⟩, .inr ⟨by omega, by omega⟩, fun b hb => by simp [Value.ownBlock] at hb, ?_⟩
    rintro b (h | h)
    · exact h.elim
    · exact h.2

theorem new_any (n : Int) (w : World) (h1 : 1 ≤ n) (h2 : n ≤ 512) :
    Calls Tryz.prog 23 #[.int .i64 n] w fun e w' => ∃ g, e = .returned (.tuple #[.pointer (some ⟨g, 0, none⟩), .int .i64 0]) ∧ w.heap.size ≤ g ∧ DiskAt w' g (DS.new n.toNat) (Plus Non w w') ∧ Fr Non w w' := by
  obtain ⟨k, rfl⟩ := Int.eq_ofNat_of_zero_le (show 0 ≤ n by omega)
  exact new_yes k w (by omega) (by omega)

end Go.Proofs.YtpaelngpmbeedaaGreatDoor
/- The disk's methods, told with what lies outside of the disk. -/
namespace Go.Proofs.YtpaelngpmbeedaaGreatDoor
open Go.RowKit

/-- a disk lies in block g, and nothing of it lies in O -/
def Has (O : Nat → Prop) (w : World) (g : Nat) (D : DS) : Prop := ∃ F, DiskAt w g D F ∧ (∀ b, F b → ¬ O b) ∧ ∀ b, O b → b < w.heap.size
/-- all but O -/
def Out (O : Nat → Prop) : Nat → Prop := fun b => ¬ O b
/-- all that was there -/
def Old (w : World) : Nat → Prop := fun b => b < w.heap.size

section
variable {O O' : Nat → Prop} {w w' : World} {g : Nat} {D : DS}
theorem Has.non (h : Has O w g D) (hf : Fr Non w w') : Has O w' g D := by
  obtain ⟨F, h1, h2, h3⟩ := h
  exact ⟨F, h1.non hf, h2, fun b hb => Nat.lt_of_lt_of_le (h3 b hb) hf.size⟩
/-- what has come since lies outside of the disk -/
theorem Has.more (h : Has O w g D) (hf : Fr Non w w') : Has (Plus O w w') w' g D := by
  obtain ⟨F, h1, h2, h3⟩ := h
  refine ⟨F, h1.non hf, ?_, ?_⟩
  · rintro b hb (h | h)
    · exact h2 b hb h
    · have := h1.lt b hb
      omega
  · rintro b (h | h)
    · exact Nat.lt_of_lt_of_le (h3 b h) hf.size
    · exact h.2
theorem Has.less (h : Has O w g D) (ho : ∀ b, O' b → O b) : Has O' w g D := by
  obtain ⟨F, h1, h2, h3⟩ := h
  exact ⟨F, h1, fun b hb hb' => h2 b hb (ho b hb'), fun b hb => h3 b (ho b hb)⟩
theorem Sl.out {Q : Nat → Prop} {size n : Nat} {A : Option Addr} {xs : List Value} (h : Sl w Q size A n xs) (hf : Fr (Out O) w w') (hq : ∀ b, Q b → b < w.heap.size → O b) : Sl w' Q size A n xs :=
  h.fr hf (fun b hb hl x => x (hq b hb hl))
theorem Nums.out {Q : Nat → Prop} {k : IntKind} {v : Value} {xs : List Int} (h : Nums w Q k v xs) (hf : Fr (Out O) w w') (hq : ∀ b, Q b → b < w.heap.size → O b) : Nums w' Q k v xs :=
  h.fr hf (fun b hb hl x => x (hq b hb hl))
theorem Fr.out_old {w0 : World} (h : Fr (Out O) w w') (ho : ∀ b, b < w0.heap.size → O b) (h0 : Fr Non w0 w) : Fr Non w0 w' :=
  h0.step h (fun i hi hl => hi (ho i hl))

theorem write_has (i : Int) (A : Option Addr) (n c : Nat) (bs : List Int) (ho : D.ok) (hn : n = bs.length) (hp : D.pend.length < 1000000) (hv : Sl w O 1 A n (bv bs)) (hb : Has O w g D) :
    Calls Tryz.prog 82 #[.pointer (some ⟨g, 0, none⟩), .int .i64 i, .slice A n c] w fun e w' => e = .returned (.int .i64 (D.writeE i bs)) ∧ Fr (Out O) w w' ∧ Has O w' g (D.write i bs) := by
  obtain ⟨F, h1, h2, h3⟩ := hb
  refine (write_any g i A n c bs O D F w ho hn hp (fun b hb e => h2 g h1.fg (e ▸ hb)) hv h1).mono ?_
  rintro e w' ⟨he, hf, hd⟩
  refine ⟨he, hf.mono (fun b _ hb => h2 b hb), _, hd, ?_, fun b hb => Nat.lt_of_lt_of_le (h3 b hb) hf.size⟩
  rintro b (hb | hb) ho
  · exact h2 b hb ho
  · have := h3 b ho; omega
theorem sync_has (ho : D.ok) (hp : D.pend.length < 1000000) (hb : Has O w g D) :
    Calls Tryz.prog 83 #[.pointer (some ⟨g, 0, none⟩)] w fun e w' => e = .returned (.tuple #[]) ∧ Fr (Out O) w w' ∧ Has O w' g D.sync := by
  obtain ⟨F, h1, h2, h3⟩ := hb
  refine (sync_any g D F w ho hp h1).mono ?_
  rintro e w' ⟨he, hf, hd⟩
  exact ⟨he, hf.mono (fun b _ hb => h2 b hb), _, hd, h2, fun b hb => Nat.lt_of_lt_of_le (h3 b hb) hf.size⟩
theorem crash_has (A : Option Addr) (n c : Nat) (picks : List Int) (ho : D.ok) (hn : n = picks.length) (hp : D.pend.length < 1000000) (hv : Sl w O 1 A n (picks.map (Value.int .i64))) (hb : Has O w g D) :
    Calls Tryz.prog 12 #[.pointer (some ⟨g, 0, none⟩), .slice A n c] w fun e w' => e = .returned (.tuple #[]) ∧ Fr (Out O) w w' ∧ Has O w' g (D.crash picks) := by
  obtain ⟨F, h1, h2, h3⟩ := hb
  refine (crash_any g A n c picks O D F w ho hp hn (fun b hb e => h2 b e hb) hv h1).mono ?_
  rintro e w' ⟨he, hf, hd⟩
  refine ⟨he, hf.mono (fun b _ hb => h2 b hb), _, hd, ?_, fun b hb => Nat.lt_of_lt_of_le (h3 b hb) hf.size⟩
  rintro b (hb | hb) ho
  · exact h2 b hb ho
  · have := h3 b ho; omega
theorem fuse_has (n : Int) (hb : Has O w g D) :
    Calls Tryz.prog 16 #[.pointer (some ⟨g, 0, none⟩), .int .i64 n] w fun e w' => e = .returned (.tuple #[]) ∧ Fr (Out O) w w' ∧ Has O w' g { D with fuse := n } := by
  obtain ⟨F, h1, h2, h3⟩ := hb
  refine (fuse_any g n D F w h1).mono ?_
  rintro e w' ⟨he, hf, hd⟩
  exact ⟨he, hf.mono (fun b _ hb => h2 b hb), _, hd, h2, fun b hb => Nat.lt_of_lt_of_le (h3 b hb) hf.size⟩
theorem read_has (i : Int) (ho : D.ok) (hb : Has O w g D) :
    Calls Tryz.prog 98 #[.pointer (some ⟨g, 0, none⟩), .int .i64 i] w fun e w' => ∃ A c, e = .returned (.tuple #[.slice A (D.read i).length c, .int .i64 (D.readE i)]) ∧ (D.read i).length ≤ c ∧ (D.read i).length ≤ 64 ∧
      Sl w' (fun b => w.heap.size ≤ b) 1 A (D.read i).length (bv (D.read i)) ∧ Fr Non w w' := by
  obtain ⟨F, h1, h2, h3⟩ := hb
  exact read_any g i D F w ho h1
theorem down_has (hb : Has O w g D) : Calls Tryz.prog 59 #[.pointer (some ⟨g, 0, none⟩)] w fun e w' => e = .returned (.bool D.down) ∧ w = w' := by
  obtain ⟨F, h1, h2, h3⟩ := hb
  exact down_any g D F w h1
theorem len_has (hb : Has O w g D) : Calls Tryz.prog 69 #[.pointer (some ⟨g, 0, none⟩)] w fun e w' => e = .returned (.int .i64 D.n) ∧ w = w' := by
  obtain ⟨F, h1, h2, h3⟩ := hb
  exact len_any g D F w h1
theorem has_new (h : DiskAt w' g D (Plus Non w w')) (hf : Fr Non w w') : Has (Old w) w' g D := by
  refine ⟨_, h, ?_, fun b hb => Nat.lt_of_lt_of_le hb hf.size⟩
  rintro b (hb | hb) ho
  · exact hb
  · have : b < w.heap.size := ho
    omega
end
theorem new_has (n : Int) (w : World) (h1 : 1 ≤ n) (h2 : n ≤ 512) :
    Calls Tryz.prog 23 #[.int .i64 n] w fun e w' => ∃ g, e = .returned (.tuple #[.pointer (some ⟨g, 0, none⟩), .int .i64 0]) ∧ w.heap.size ≤ g ∧ Has (Old w) w' g (DS.new n.toNat) ∧ Fr Non w w' := by
  refine (new_any n w h1 h2).mono ?_
  rintro e w' ⟨g', he, hg, hd, hf⟩
  exact ⟨g', he, hg, has_new hd hf, hf⟩

end Go.Proofs.YtpaelngpmbeedaaGreatDoor
/- The comparison of two lists of numbers: same_any. -/
namespace Go.Proofs.YtpaelngpmbeedaaGreatDoor
open Go.RowKit

set_option maxHeartbeats 400000 in
theorem same_any (v u : Value) (xs ys : List Int) (w : World) (Q Q' : Nat → Prop) (hx : Nums w Q .u8 v xs) (hy : Nums w Q' .u8 u ys) :
    Calls Tryz.prog 8 #[v, u] w fun e w' => e = .returned (.bool (decide (xs = ys))) ∧ Fr Non w w' := by
  obtain ⟨A, c, rfl, hl, hsx⟩ := hx
  obtain ⟨B, d, rfl, hl', hsy⟩ := hy
  have HX := hide hsx
  have HY := hide hsy
  clear hsx hsy
  by_cases hnm : xs.length = ys.length
  · have HN := hide hnm
    rw [← hnm]
    generalize hn : xs.length = n at hl
    have HN2 := hide hn
    clear hn hnm hl'
    go_enter Tryz.func8, Tryz.ntmps8
    go_wp2
    go_loopw [5] (fun i wr => ∃ k : Nat, k ≤ n ∧ i = .int .i64 k ∧ xs.take k = ys.take k ∧ ∃ q, wr = w.drewN q) (fun i _ => n - (intOf i).toNat)
    case atStart => exact ⟨0, Nat.zero_le _, rfl, rfl, 0, rfl⟩
    case round =>
      obtain ⟨k, hk, rfl, he, q, rfl⟩ := hrel
      have HE := hide he
      clear he
      by_cases hlt : k < n
      · have hkx : k < xs.length := by rw [HN2.out]; exact hlt
        have hky : k < ys.length := by rw [← HN.out]; exact hkx
        obtain ⟨ad, x, rfl, _, _, ex, hcx⟩ := Sl.at_ HX.out hkx
        obtain ⟨bd, y, rfl, _, _, ey, hcy⟩ := Sl.at_ HY.out hky
        rw [List.getElem?_map, List.getElem?_eq_getElem hkx] at ex
        rw [List.getElem?_map, List.getElem?_eq_getElem hky] at ey
        obtain rfl : .int .u8 xs[k] = x := by injection ex
        obtain rfl : .int .u8 ys[k] = y := by injection ey
        generalize hX : xs[k] = X at hcx
        generalize hY : ys[k] = Y at hcy
        have H1 := hide hX
        have H2 := hide hY
        clear hX hY ex ey
        by_cases hXY : X = Y
        · subst hXY
          go_wp2
          go_quiet (fail)
          go_wp2
          go_roundw
          case rel => exact ⟨k + 1, by omega, by go_num, take_succ_eq hkx hky HE.out (H1.out.trans H2.out.symm), _, rfl⟩
          case measure => simp [intOf]; omega
        · have hb := isN hXY
          go_wp2
          go_quiet (fail)
          go_wp2
          go_ret
          refine ⟨?_, by repeat (first | exact Fr.refl _ _ | refine Fr.drewN ?_ _)⟩
          rw [decide_eq_false (by rintro rfl; exact hXY (H1.out.symm.trans H2.out))]
          rfl
      · go_wp2
        go_ret
        refine ⟨?_, by repeat (first | exact Fr.refl _ _ | refine Fr.drewN ?_ _)⟩
        have e1 : xs = ys := by
          have h := HE.out
          rwa [List.take_of_length_le (by rw [HN2.out]; omega), List.take_of_length_le (by rw [← HN.out, HN2.out]; omega)] at h
        rw [decide_eq_true e1]
        rfl
  · have hb : ((xs.length : Int) != (ys.length : Int)) = true := by rw [bne_iff_ne]; omega
    have HN := hide hnm
    clear hnm HX HY
    go_enter Tryz.func8, Tryz.ntmps8
    go_wp2
    go_ret
    refine ⟨?_, Fr.refl _ _⟩
    rw [decide_eq_false (by rintro rfl; exact HN.out rfl)]
    rfl

end Go.Proofs.YtpaelngpmbeedaaGreatDoor
/- The law's own helpers: read, awake, made, all. -/
namespace Go.Proofs.YtpaelngpmbeedaaGreatDoor
open Go.RowKit

theorem Sl.take {w : World} {Q : Nat → Prop} {A : Option Addr} {n k : Nat} {xs : List Value} (h : Sl w Q 1 A n xs) (hk : k ≤ n) : Sl w Q 1 A k (xs.take k) := by
  have h1 := h.1
  refine ⟨by rw [List.length_take]; omega, fun hp => ?_⟩
  obtain ⟨ad, e, hq, hb, hc⟩ := h.2 (by omega)
  refine ⟨ad, e, hq, hb, fun j u hu => hc j u ?_⟩
  rw [List.getElem?_take] at hu
  split at hu
  · exact hu
  · cases hu

theorem lit_sl (w : World) (b : Nat) (xs : List Int) (t : TypeId) (h : Blk w b t (bv xs).toArray) : Sl w (· = b) 1 (some ⟨b, 0, none⟩) xs.length (bv xs) := by
  refine ⟨by simp, fun _ => ⟨_, rfl, rfl, h.lt, fun j u hu => ?_⟩⟩
  rw [show (⟨b, 0, none⟩ : Addr).add j = ⟨b, j, none⟩ by simp [Addr.add]; exact Eq.symm, h.cell]
  simpa using hu

def dk0 : DS := DS.new 2
def dk1 : DS := dk0.write 0 [1, 2, 3]
def aw2 : DS := dk1.crash []
def aw3 : DS := aw2.write 0 [1, 2, 3]
def aw4 : DS := aw3.sync
def aw5 : DS := aw4.write 0 [4, 5, 6]
def aw6 : DS := aw5.crash [2]
theorem dk0_ok : dk0.ok := DS.new_ok (by decide) (by decide)
theorem dk1_ok : dk1.ok := dk0_ok.write _ _
theorem aw2_ok : aw2.ok := dk1_ok.crash _
theorem aw3_ok : aw3.ok := aw2_ok.write _ _
theorem aw4_ok : aw4.ok := aw3_ok.sync
theorem aw5_ok : aw5.ok := aw4_ok.write _ _
theorem aw6_ok : aw6.ok := aw5_ok.crash _
theorem awE : dk0.writeE 0 [1, 2, 3] = 0 := by decide
theorem awG : aw6.writeE 2 [1] = 40 := by decide
theorem awP0 : dk0.pend.length = 0 := by decide
theorem awP1 : dk1.pend.length = 1 := by decide
theorem awP2 : aw2.pend.length = 0 := by decide
theorem awP3 : aw3.pend.length = 1 := by decide
theorem awP4 : aw4.pend.length = 0 := by decide
theorem awP5 : aw5.pend.length = 1 := by decide
theorem awP6 : aw6.pend.length = 0 := by decide
theorem awA : (dk1.read 0).take 3 = [1, 2, 3] := by decide
theorem awB : (aw2.read 0).take 3 = [0, 0, 0] := by decide
theorem awC : (aw6.read 0).take 3 = [4, 5, 3] := by decide

/-- a call with a slice that was laid just before -/
theorem write_lit {O : Nat → Prop} {g : Nat} {D : DS} {w : World} (i : Int) (bs : List Int) (n c : Nat) (cs : Array Value) (hcs : cs = (bv bs).toArray) (hn : n = bs.length) (ho : D.ok) (hp : D.pend.length < 1000000) (hb : Has O w g D) :
    Calls Tryz.prog 82 #[.pointer (some ⟨g, 0, none⟩), .int .i64 i, .slice (some ⟨w.heap.size, 0, none⟩) n c] (w.alloc (.cells cs 5)) fun e w' => e = .returned (.int .i64 (D.writeE i bs)) ∧ Fr (Out O) w w' ∧ Has O w' g (D.write i bs) := by
  subst hcs
  have h1 := hb.more ((Fr.refl Non w).alloc (.cells (bv bs).toArray 5))
  refine (write_has i (some ⟨w.heap.size, 0, none⟩) n c bs ho hn hp ?_ h1).mono ?_
  · rw [hn]
    refine (lit_sl _ w.heap.size bs 5 (Blk.new _ _ _)).mono ?_
    rintro b rfl _
    exact .inr ⟨Nat.le_refl _, by simp⟩
  · rintro e w' ⟨he, hf, hd⟩
    exact ⟨he, ((Fr.refl _ _).alloc _).step hf (fun b hb _ ho => hb (.inl ho)), hd.less (fun b hb => .inl hb)⟩
theorem crash_lit {O : Nat → Prop} {g : Nat} {D : DS} {w : World} (picks : List Int) (n c : Nat) (cs : Array Value) (hcs : cs = (picks.map (Value.int .i64)).toArray) (hn : n = picks.length) (ho : D.ok) (hp : D.pend.length < 1000000) (hb : Has O w g D) :
    Calls Tryz.prog 12 #[.pointer (some ⟨g, 0, none⟩), .slice (some ⟨w.heap.size, 0, none⟩) n c] (w.alloc (.cells cs 3)) fun e w' => e = .returned (.tuple #[]) ∧ Fr (Out O) w w' ∧ Has O w' g (D.crash picks) := by
  subst hcs
  have h1 := hb.more ((Fr.refl Non w).alloc (.cells (picks.map (Value.int .i64)).toArray 3))
  refine (crash_has (some ⟨w.heap.size, 0, none⟩) n c picks ho hn hp ?_ h1).mono ?_
  · refine ⟨by simp [hn], fun _ => ⟨_, rfl, .inr ⟨Nat.le_refl _, by simp⟩, by simp, fun j u hu => ?_⟩⟩
    rw [show (⟨w.heap.size, 0, none⟩ : Addr).add j = ⟨w.heap.size, j, none⟩ by simp [Addr.add]; exact Eq.symm, (Blk.new _ _ _).cell]
    simpa using hu
  · rintro e w' ⟨he, hf, hd⟩
    exact ⟨he, ((Fr.refl _ _).alloc _).step hf (fun b hb _ ho => hb (.inl ho)), hd.less (fun b hb => .inl hb)⟩

theorem same_lit {w : World} {Q : Nat → Prop} {v : Value} (xs : List Int) (n c : Nat) (cs : Array Value) (hcs : cs = (bv xs).toArray) (hn : n = xs.length) (hl : xs.length ≤ 1000) (h : Nums w Q .u8 v xs) :
    Calls Tryz.prog 8 #[v, .slice (some ⟨w.heap.size, 0, none⟩) n c] (w.alloc (.cells cs 5)) fun e w' => e = .returned (.bool true) ∧ Fr Non w w' := by
  subst hcs
  have hf : Fr Non w (w.alloc (.cells (bv xs).toArray 5)) := (Fr.refl _ _).alloc _
  refine (same_any v _ xs xs _ Q (· = w.heap.size) (h.non hf) ⟨some ⟨w.heap.size, 0, none⟩, c, by rw [hn], by omega, lit_sl _ _ _ 5 (Blk.new _ _ _)⟩).mono ?_
  rintro e w' ⟨he, hf'⟩
  exact ⟨by rw [he]; simp, hf.trans hf'⟩

end Go.Proofs.YtpaelngpmbeedaaGreatDoor
/- The law's own helper all: all that is read of a disk of eight sectors. -/
namespace Go.Proofs.YtpaelngpmbeedaaGreatDoor
open Go.RowKit

theorem DS.take_at {D : DS} (k : Nat) : D.seen.take (k * 64) ++ D.at_ k = D.seen.take ((k + 1) * 64) := by
  unfold DS.at_
  rw [show (k + 1) * 64 = k * 64 + 64 by omega, List.take_add]

end Go.Proofs.YtpaelngpmbeedaaGreatDoor
/- The disk's methods, told with resources. -/
namespace Go.Proofs.YtpaelngpmbeedaaGreatDoor
open Go.RowKit

theorem own_at {w w' : World} {base : Nat} {e : TypeId} {size : Nat} {v : Value} {n : Nat} {xs : List Value} (h : w.ownsRow base e size v n xs) (hb : ∀ b, v.ownBlock = some b → w'.heap[b]? = w.heap[b]?) : w'.ownsRow base e size v n xs := by
  refine ⟨h.1, ?_⟩
  rcases h.2 with h2 | ⟨g, cap, cur, rfl, hg, hh, r⟩
  · exact .inl h2
  · exact .inr ⟨g, cap, cur, rfl, hg, (hb g rfl).trans hh, r⟩
/-- a disk -/
def dsR (g : Nat) (D : DS) : Res where
  holds _ w F := DiskAt w g D F
  lt h hb := h.lt _ hb
  loc := by
    rintro M M' w w' F ⟨b1, c1, b2, c2, A, c3, h⟩ _ _ hb
    refine ⟨b1, c1, b2, c2, A, c3, (hb g h.fg).trans h.blk, own_at h.seen (fun b e => ?_), own_at h.sure (fun b e => ?_), own_at h.pend (fun b e => hb b (h.f3 b e)), h.ne, h.fg, h.f1, h.f2, h.f3, fun b hF => ?_⟩
    · simp [Value.ownBlock] at e; subst e; exact hb _ h.f1
    · simp [Value.ownBlock] at e; subst e; exact hb _ h.f2
    · have h1 := hb b hF
      rw [Array.getElem?_eq_getElem (h.lt b hF)] at h1
      exact (Array.getElem?_eq_some_iff.1 h1).1

/-- what stays lies outside of what is written -/
theorem StAt.outside {M : Imm} {w : World} {L : List Res} {Fs : Nat → Nat → Prop} (hs : StAt M w L Fs) (ha : Agree w M) {i k : Nat} {R : World → Prop} (hi : L[i]? = some (persR R)) (hk : k < L.length) {size : Nat} {A : Option Addr} {n : Nat} {xs : List Value} (hsz : 0 < size)
    (hR : ∀ w', R w' → Sl w' Any size A n xs) : Sl w (fun b => ¬ Fs k b) size A n xs := by
  have hx := hs.at_ i _ hi
  have h1 := hR w (hx.2 w ha)
  refine ⟨h1.1, fun hn => ?_⟩
  obtain ⟨ad, rfl, _, hb, hc⟩ := h1.2 hn
  refine ⟨ad, rfl, fun hF => ?_, hb, hc⟩
  have hM := hs.off k _ hk hF
  let w' : World := { w with heap := w.heap.modify ad.block (fun _ => .map #[] 0) }
  have ha' : Agree w' M := ⟨ha.os, ha.tape, ha.output, fun b o hbo => by
    have hne : ad.block ≠ b := by rintro rfl; rw [hM] at hbo; cases hbo
    show (w.heap.modify ad.block (fun _ => .map #[] 0))[b]? = some o
    rw [Array.getElem?_modify, if_neg hne]
    exact ha.heap b o hbo⟩
  obtain ⟨ad', e, _, _, hc'⟩ := (hR w' (hx.2 w' ha')).2 hn
  injection e with e
  subst e
  have hl : 0 < xs.length := by rw [h1.1]; exact Nat.mul_pos hn hsz
  have h2 := hc' 0 _ (List.getElem?_eq_getElem hl)
  unfold World.cell? at h2
  rw [addr_block] at h2
  have h3 : w'.heap[ad.block]? = some (.map #[] 0) := by
    show (w.heap.modify ad.block (fun _ => .map #[] 0))[ad.block]? = _
    rw [Array.getElem?_modify, if_pos rfl, Array.getElem?_eq_getElem hb]
    rfl
  rw [h3] at h2
  cases h2

section
variable {M0 : Imm} {w : World} {L : List Res} {g : Nat} {D : DS}
/-- the disk, and how it goes on -/
theorem St.ds (h : St M0 w (dsR g D :: L)) : ∃ F, DiskAt w g D F ∧ (∀ (i : Nat) k v xs, L[i]? = some (intsR k v xs) → ∃ A c, v = .slice A xs.length c ∧ xs.length ≤ c ∧ c ≤ maxLen ∧ Sl w (fun b => ¬ F b) 1 A xs.length (xs.map (Value.int k))) ∧
    ∀ w' D' F', Fr F w w' → DiskAt w' g D' F' → (∀ b, F' b → F b ∨ w.heap.size ≤ b) → St M0 w' (dsR g D' :: L) := by
  have h0 := h
  obtain ⟨M, Fs, hm, ha, hs⟩ := h
  refine ⟨Fs 0, hs.at_ 0 _ rfl, ?_, ?_⟩
  · intro i k v xs hi
    obtain ⟨A, c, rfl, h1, h2, _⟩ := h0.get (i + 1) (by simpa using hi)
    refine ⟨A, c, rfl, h1, h2, hs.outside ha (i := i + 1) (k := 0) (R := fun w' => Ints w' k (.slice A xs.length c) xs) (by simpa using hi) (by simp) (by omega) (fun w' hI => hI.sl.2.2.2)⟩
  · intro w' D' F' hf hd hF
    have ha' : Agree w' M := ha.fr hf (fun b hb => hs.off 0 b (by simp) hb)
    have hlt : ∀ i b, i < L.length → Fs (i + 1) b → b < w.heap.size := fun i b hi hb => (L[i]).lt (hs.at_ (i + 1) _ (by simp [List.getElem?_eq_getElem hi])) hb
    have ht : StAt M w' L (fun i => Fs (i + 1)) := hs.tail.keep ha' (Imm.le.refl _) (fun i b hi hb => hf.block b (hlt i b hi hb) (hs.apart (i + 1) 0 b (by omega) (by simpa using hi) (by simp) hb)) (fun i b hi => hs.off (i + 1) b (by simpa using hi))
    refine ⟨M, _, hm, ha', ht.cons (X := dsR g D') hd ?_ ?_⟩
    · intro i b hi hb h1
      rcases hF b h1 with h2 | h2
      · exact hs.apart (i + 1) 0 b (by omega) (by simpa using hi) (by simp) hb h2
      · have := hlt i b hi hb; omega
    · intro b hb
      rcases hF b hb with h2 | h2
      · exact hs.off 0 b (by simp) h2
      · cases hM : M.heap b with
        | none => rfl
        | some o => have := (Array.getElem?_eq_some_iff.1 (ha.heap b o hM)).1; omega
theorem plus_new {F : Nat → Prop} {w w' : World} (b : Nat) (h : Plus F w w' b) : F b ∨ w.heap.size ≤ b := h.elim .inl (fun h => .inr h.1)

theorem write_ds (i : Int) (v : Value) (bs : List Int) (k : Nat) (ho : D.ok) (hp : D.pend.length < 1000000) (hi : L[k]? = some (intsR .u8 v bs)) (h : St M0 w (dsR g D :: L)) :
    Calls Tryz.prog 82 #[.pointer (some ⟨g, 0, none⟩), .int .i64 i, v] w fun e w' => e = .returned (.int .i64 (D.writeE i bs)) ∧ St M0 w' (dsR g (D.write i bs) :: L) := by
  obtain ⟨F, hd, hI, hk⟩ := h.ds
  obtain ⟨A, c, rfl, _, _, hs⟩ := hI k _ _ _ hi
  refine (write_any g i A bs.length c bs _ D F w ho rfl hp (fun b hb e => hb (e ▸ hd.fg)) hs hd).mono ?_
  rintro e w' ⟨he, hf, hd'⟩
  exact ⟨he, hk _ _ _ hf hd' plus_new⟩
theorem sync_ds (ho : D.ok) (hp : D.pend.length < 1000000) (h : St M0 w (dsR g D :: L)) :
    Calls Tryz.prog 83 #[.pointer (some ⟨g, 0, none⟩)] w fun e w' => e = .returned (.tuple #[]) ∧ St M0 w' (dsR g D.sync :: L) := by
  obtain ⟨F, hd, _, hk⟩ := h.ds
  refine (sync_any g D F w ho hp hd).mono ?_
  rintro e w' ⟨he, hf, hd'⟩
  first | exact ⟨he, hk _ _ _ hf hd' plus_new⟩ | exact ⟨he, hk _ _ _ hf hd' (fun b hb => .inl hb)⟩
theorem crash_ds (v : Value) (picks : List Int) (k : Nat) (ho : D.ok) (hp : D.pend.length < 1000000) (hi : L[k]? = some (intsR .i64 v picks)) (h : St M0 w (dsR g D :: L)) :
    Calls Tryz.prog 12 #[.pointer (some ⟨g, 0, none⟩), v] w fun e w' => e = .returned (.tuple #[]) ∧ St M0 w' (dsR g (D.crash picks) :: L) := by
  obtain ⟨F, hd, hI, hk⟩ := h.ds
  obtain ⟨A, c, rfl, _, _, hs⟩ := hI k _ _ _ hi
  refine (crash_any g A picks.length c picks _ D F w ho hp rfl (fun b hb e => hb e) hs hd).mono ?_
  rintro e w' ⟨he, hf, hd'⟩
  exact ⟨he, hk _ _ _ hf hd' plus_new⟩
theorem fuse_ds (n : Int) (h : St M0 w (dsR g D :: L)) :
    Calls Tryz.prog 16 #[.pointer (some ⟨g, 0, none⟩), .int .i64 n] w fun e w' => e = .returned (.tuple #[]) ∧ St M0 w' (dsR g { D with fuse := n } :: L) := by
  obtain ⟨F, hd, _, hk⟩ := h.ds
  refine (fuse_any g n D F w hd).mono ?_
  rintro e w' ⟨he, hf, hd'⟩
  exact ⟨he, hk _ _ _ hf hd' (fun b hb => .inl hb)⟩
theorem down_ds (h : St M0 w (dsR g D :: L)) : Calls Tryz.prog 59 #[.pointer (some ⟨g, 0, none⟩)] w fun e w' => e = .returned (.bool D.down) ∧ St M0 w' (dsR g D :: L) := by
  obtain ⟨F, hd, _, _⟩ := h.ds
  refine (down_any g D F w hd).mono ?_
  rintro e w' ⟨he, rfl⟩
  exact ⟨he, h⟩
theorem len_ds (h : St M0 w (dsR g D :: L)) : Calls Tryz.prog 69 #[.pointer (some ⟨g, 0, none⟩)] w fun e w' => e = .returned (.int .i64 D.n) ∧ St M0 w' (dsR g D :: L) := by
  obtain ⟨F, hd, _, _⟩ := h.ds
  refine (len_any g D F w hd).mono ?_
  rintro e w' ⟨he, rfl⟩
  exact ⟨he, h⟩
theorem new_ds (n : Int) (h1 : 1 ≤ n) (h2 : n ≤ 512) (h : St M0 w L) :
    Calls Tryz.prog 23 #[.int .i64 n] w fun e w' => ∃ g, e = .returned (.tuple #[.pointer (some ⟨g, 0, none⟩), .int .i64 0]) ∧ St M0 w' (dsR g (DS.new n.toNat) :: L) := by
  refine (new_any n w h1 h2).mono ?_
  rintro e w' ⟨g, he, _, hd, hf⟩
  exact ⟨g, he, h.add (Y := dsR g (DS.new n.toNat)) hf (fun _ _ => hd) (fun b hb => hb.elim (fun x => x.elim) (fun x => x.1))⟩
/-- new numbers that nobody else has -/
theorem St.newNums {k : IntKind} {v : Value} {xs : List Int} {w' : World} (h : St M0 w L) (hf : Fr Non w w') (hn : Nums w' (fun b => w.heap.size ≤ b) k v xs) : St M0 w' (persR (fun w'' => Nums w'' Any k v xs) :: L) := by
  obtain ⟨A, c, rfl, hl, hs⟩ := hn
  by_cases h0 : 0 < xs.length
  · obtain ⟨ad, rfl, hq, hb, hc⟩ := hs.2 h0
    obtain ⟨o, ho⟩ : ∃ o, w'.heap[ad.block]? = some o := ⟨_, Array.getElem?_eq_getElem hb⟩
    let X : Res := ⟨fun _ w F => (∀ b, F b ↔ b = ad.block) ∧ w.heap[ad.block]? = some o, fun h hb => by rw [(h.1 _).1 hb]; exact (Array.getElem?_eq_some_iff.1 h.2).1, fun h _ _ hb => ⟨h.1, (hb _ ((h.1 _).2 rfl)).trans h.2⟩⟩
    have h1 : St M0 w' (X :: L) := h.add (F' := (· = ad.block)) hf (fun _ _ => ⟨fun _ => Iff.rfl, ho⟩) (fun b hb => by rw [hb]; exact hq)
    refine h1.freeze (fun M w'' F hx _ => ?_)
    refine ⟨some ad, c, rfl, hl, hs.1, fun _ => ⟨ad, rfl, trivial, (Array.getElem?_eq_some_iff.1 hx.2).1, fun j u hu => ?_⟩⟩
    rw [← hc j u hu]
    exact World.cell?_of_block (w := w') (by rw [addr_block, hx.2, ho])
  · have : xs = [] := List.eq_nil_of_length_eq_zero (by omega)
    subst this
    exact (h.grow hf).pers0 (fun w'' _ => ⟨A, c, rfl, by simp, Sl.nil_ _ _ _ _⟩)
theorem read_ds (i : Int) (ho : D.ok) (h : St M0 w (dsR g D :: L)) :
    Calls Tryz.prog 98 #[.pointer (some ⟨g, 0, none⟩), .int .i64 i] w fun e w' => ∃ v, e = .returned (.tuple #[v, .int .i64 (D.readE i)]) ∧ St M0 w' (persR (fun w'' => Nums w'' Any .u8 v (D.read i)) :: dsR g D :: L) := by
  obtain ⟨F, hd, _, _⟩ := h.ds
  refine (read_any g i D F w ho hd).mono ?_
  rintro e w' ⟨A, c, he, _, hl, hs, hf⟩
  exact ⟨_, he, h.newNums hf ⟨A, c, rfl, by omega, hs⟩⟩
end

end Go.Proofs.YtpaelngpmbeedaaGreatDoor
/- (*Disk).Read by resources: what is read, as numbers that stay. -/
namespace Go.Proofs.YtpaelngpmbeedaaGreatDoor
open Go.RowKit

set_option maxHeartbeats 400000 in
theorem read_yesI (g k : Nat) (D : DS) (F : Nat → Prop) (w : World) (ho : D.ok) (hk : k < D.n) (hb : DiskAt w g D F) :
    Calls Tryz.prog 98 #[.pointer (some ⟨g, 0, none⟩), .int .i64 k] w fun e w' => ∃ A c, e = .returned (.tuple #[.slice A 64 c, .int .i64 0]) ∧ 64 ≤ c ∧ c ≤ maxLen ∧ Sl w' (fun b => w.heap.size ≤ b) 1 A 64 (bv (D.at_ k)) ∧ Fr Non w w' := by
  have H := hide (has_any g k D F w hb)
  rw [decide_eq_true (show 0 ≤ (k : Int) ∧ (k : Int) < (D.n : Int) by omega)] at H
  obtain ⟨b1, c1, b2, c2, A, c3, h⟩ := hb
  have h2 : w.cell? ⟨g, 0, none⟩ = some (.slice (some ⟨b1, 0, none⟩) D.n c1) := (h.blk.cell 0).trans rfl
  have hl := DS.at_length ho hk
  have hnk : (0 : Int) ≤ (k : Int) ∧ (k : Int) < (D.n : Int) := by omega
  have HC := hide (clone_byte ⟨b1, k * 64, none⟩ 64 64 (bv (D.at_ k)) w (by simp [hl]) (by
    intro j u hu
    have := own_range h.seen (k * 64) 64
    rw [show (⟨b1, k * 64, none⟩ : Addr).add j = ⟨b1, k * 64 + j, none⟩ by unfold Addr.add; split <;> simp_all]
    refine this j u ?_
    rw [← hu]
    simp [DS.at_, bv, List.map_take, List.map_drop]) (bv_one _) (by omega))
  have HL := hide hl
  clear h hl
  go_enter Tryz.func98, Tryz.ntmps98
  go_wp2_with (first | (go_at_call 107; refine H.out.mono ?_; rintro e w' ⟨rfl, rfl⟩) | (go_at_call 76; refine HC.out.mono ?_; rintro e w' ⟨v, g1, rfl, h1, h3, h4, h5, h6⟩))
  go_ret2
  rcases h1.2 with ⟨rfl, h0⟩ | ⟨g', cap, cur, rfl, _, hh, hc, hm, _⟩
  · simp [Value.ownBlock] at h3
  · obtain rfl : g' = g1 := by simpa [Value.ownBlock] using h3
    exact ⟨_, _, rfl, hc, hm, ⟨h1.1, fun _ => ⟨_, rfl, h4, h5, h1.cells (g := g') rfl⟩⟩, h6⟩
/-- new numbers that nobody else has, and room behind them -/
theorem St.newInts {M0 : Imm} {w : World} {L : List Res} {A : Option Addr} {n c : Nat} {xs : List Int} {w' : World} (h : St M0 w L) (hf : Fr Non w w') (hn : n = xs.length) (hc : n ≤ c) (hm : c ≤ maxLen) (hs : Sl w' (fun b => w.heap.size ≤ b) 1 A n (bv xs)) : St M0 w' (intsR .u8 (.slice A n c) xs :: L) := by
  subst hn
  by_cases h0 : 0 < xs.length
  · obtain ⟨ad, rfl, hq, hb, hcc⟩ := hs.2 h0
    obtain ⟨o, ho⟩ : ∃ o, w'.heap[ad.block]? = some o := ⟨_, Array.getElem?_eq_getElem hb⟩
    let X : Res := ⟨fun _ w F => (∀ b, F b ↔ b = ad.block) ∧ w.heap[ad.block]? = some o, fun h hb => by rw [(h.1 _).1 hb]; exact (Array.getElem?_eq_some_iff.1 h.2).1, fun h _ _ hb => ⟨h.1, (hb _ ((h.1 _).2 rfl)).trans h.2⟩⟩
    have h1 : St M0 w' (X :: L) := h.add (F' := (· = ad.block)) hf (fun _ _ => ⟨fun _ => Iff.rfl, ho⟩) (fun b hb => by rw [hb]; exact hq)
    refine h1.freeze (fun M w'' F hx _ => ?_)
    refine ⟨some ad, c, rfl, hc, hm, hs.1, fun _ => ⟨ad, rfl, trivial, (Array.getElem?_eq_some_iff.1 hx.2).1, fun j u hu => ?_⟩⟩
    rw [← hcc j u hu]
    exact World.cell?_of_block (w := w') (by rw [addr_block, hx.2, ho])
  · have : xs = [] := List.eq_nil_of_length_eq_zero (by omega)
    subst this
    exact (h.grow hf).pers0 (fun w'' _ => ⟨A, c, rfl, by simp, hm, Sl.nil_ _ _ _ _⟩)
theorem read_ints {M0 : Imm} {w : World} {L : List Res} {g : Nat} {D : DS} (i : Int) (ho : D.ok) (h : St M0 w (dsR g D :: L)) :
    Calls Tryz.prog 98 #[.pointer (some ⟨g, 0, none⟩), .int .i64 i] w fun e w' => ∃ A c, e = .returned (.tuple #[.slice A (D.read i).length c, .int .i64 (D.readE i)]) ∧ St M0 w' (intsR .u8 (.slice A (D.read i).length c) (D.read i) :: dsR g D :: L) := by
  obtain ⟨F, hd, _, _⟩ := h.ds
  unfold DS.readE DS.read
  by_cases hi : i < 0 ∨ (D.n : Int) ≤ i
  · rw [if_pos hi, if_pos hi]
    refine (read_no g i D F w hi hd).mono ?_
    rintro e w' ⟨rfl, rfl⟩
    exact ⟨none, 0, rfl, h.newInts (Fr.refl _ _) rfl (Nat.le_refl _) (by unfold maxLen; omega) (Sl.nil_ _ _ _ _)⟩
  · rw [if_neg hi, if_neg hi]
    obtain ⟨k, rfl⟩ := Int.eq_ofNat_of_zero_le (show 0 ≤ i by omega)
    have hl := DS.at_length ho (k := k) (by omega)
    refine (read_yesI g k D F w ho (by omega) hd).mono ?_
    rintro e w' ⟨A, c, rfl, h1, h2, h3, h4⟩
    have e1 : ((k : Int).toNat) = k := by omega
    rw [e1, hl]
    exact ⟨A, c, rfl, h.newInts h4 hl.symm h1 h2 h3⟩

end Go.Proofs.YtpaelngpmbeedaaGreatDoor
