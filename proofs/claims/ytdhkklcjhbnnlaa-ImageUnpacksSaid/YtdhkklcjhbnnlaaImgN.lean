/- A region's next. Printed by gen_imgn.py. -/
import Derived.Test.YtdhkklcjhbnnlaaImgC
namespace Go.Proofs.Ytdhkklcjhbnnlaa
open Go.RowKit

set_option maxRecDepth 100000 in
set_option maxHeartbeats 1000000 in
theorem next_any (g off : Nat) (r : RQ) (v : Value) (high seq : Int) (A : Option Addr) (n c : Nat) (w : World) (hr : 0 ≤ r.seq ∧ r.seq < 4294967296) (hs : 0 ≤ seq ∧ seq < 4294967296) (hg : g < w.heap.size)
    (c0 : w.cell? ⟨g, off, none⟩ = some (.int .u64 high)) (c1 : w.cell? ⟨g, off + 1, none⟩ = some (.int .u32 seq)) (c6 : w.cell? ⟨g, off + 6, none⟩ = some (.slice A n c)) :
    Calls Try.prog 67 #[.pointer (some ⟨g, off, none⟩), reqV r v] w fun e w' => e = .returned (.tuple #[.bool (Rg.nextA high seq n r).1, .int .i64 (Rg.nextA high seq n r).2]) ∧ Fr Non w w' := by
  have c0 := (World.cell?_alloc_lt w (.cells #[.int .i64 r.op, .int .i64 r.region, .int .i64 r.index, .int .u64 r.token, .int .u32 r.seq, v] 69) ⟨g, off, none⟩ hg).trans c0
  have c1 := (World.cell?_alloc_lt w (.cells #[.int .i64 r.op, .int .i64 r.region, .int .i64 r.index, .int .u64 r.token, .int .u32 r.seq, v] 69) ⟨g, off + 1, none⟩ hg).trans c1
  have c6 := (World.cell?_alloc_lt w (.cells #[.int .i64 r.op, .int .i64 r.region, .int .i64 r.index, .int .u64 r.token, .int .u32 r.seq, v] 69) ⟨g, off + 6, none⟩ hg).trans c6
  obtain ⟨op, region, index, token, rs, data⟩ := r
  simp only at c0 c1 c6 hr
  obtain ⟨r0, r1⟩ := hr
  obtain ⟨s0, s1⟩ := hs
  have key : ∀ x, Rg.nextA high seq n ⟨op, region, index, token, rs, data⟩ = x → Hid (Rg.nextA high seq n ⟨op, region, index, token, rs, data⟩ = x) := fun _ h => h
  by_cases ht : high < token
  · have dt : decide (high < token) = true := decide_eq_true ht
    by_cases h1 : rs = 1
    · have e1 := isT h1
      have e1' : (rs != 1) = false := by rw [h1]; rfl
      by_cases o4 : op = 4
      · have b4 := isT o4
        by_cases n4 : 4 ≤ n
        · have d4 : decide ((4 : Int) ≤ (n : Int)) = true := decide_eq_true (by omega)
          have E := key (false, 42) (by show (if high < token then (if rs ≠ 1 then (false, 60) else Rg.next2 n _) else _) = _; rw [if_pos ht, if_neg (fun h => h h1)]; unfold Rg.next2; rw [if_pos ⟨o4, n4⟩])
          clear key
          try clear o4
          try clear o5
          try clear h3
          try clear h1
          go_enter Try.func67, Try.ntmps67
          go_wp2_with go_quiet (fail)
          go_ret2
          refine ⟨by rw [E.out]; rfl, ?_⟩
          repeat (with_reducible refine Fr.drewN ?_ _)
          exact (Fr.refl _ _).alloc _
        have d4 : decide ((4 : Int) ≤ (n : Int)) = false := decide_eq_false (by omega)
        have o5 : ¬ op = 5 := by omega
        have b5 := isF o5
        have E := key (true, 0) (by show (if high < token then (if rs ≠ 1 then (false, 60) else Rg.next2 n _) else _) = _; rw [if_pos ht, if_neg (fun h => h h1)]; unfold Rg.next2; rw [if_neg (fun h => n4 h.2), if_neg (fun h => o5 h.1)])
        clear key
        try clear o4
        try clear o5
        try clear h3
        try clear h1
        go_enter Try.func67, Try.ntmps67
        go_wp2_with go_quiet (fail)
        go_ret2
        refine ⟨by rw [E.out]; rfl, ?_⟩
        repeat (with_reducible refine Fr.drewN ?_ _)
        exact (Fr.refl _ _).alloc _
      have b4 := isF o4
      by_cases o5 : op = 5
      · have b5 := isT o5
        by_cases n5 : (n : Int) < index
        · have d5 : decide ((n : Int) < index) = true := decide_eq_true n5
          have E := key (false, 1) (by show (if high < token then (if rs ≠ 1 then (false, 60) else Rg.next2 n _) else _) = _; rw [if_pos ht, if_neg (fun h => h h1)]; unfold Rg.next2; rw [if_neg (fun h => o4 h.1), if_pos ⟨o5, n5⟩])
          clear key
          try clear o4
          try clear o5
          try clear h3
          try clear h1
          go_enter Try.func67, Try.ntmps67
          go_wp2_with go_quiet (fail)
          go_ret2
          refine ⟨by rw [E.out]; rfl, ?_⟩
          repeat (with_reducible refine Fr.drewN ?_ _)
          exact (Fr.refl _ _).alloc _
        have d5 : decide ((n : Int) < index) = false := decide_eq_false n5
        have E := key (true, 0) (by show (if high < token then (if rs ≠ 1 then (false, 60) else Rg.next2 n _) else _) = _; rw [if_pos ht, if_neg (fun h => h h1)]; unfold Rg.next2; rw [if_neg (fun h => o4 h.1), if_neg (fun h => n5 h.2)])
        clear key
        try clear o4
        try clear o5
        try clear h3
        try clear h1
        go_enter Try.func67, Try.ntmps67
        go_wp2_with go_quiet (fail)
        go_ret2
        refine ⟨by rw [E.out]; rfl, ?_⟩
        repeat (with_reducible refine Fr.drewN ?_ _)
        exact (Fr.refl _ _).alloc _
      have b5 := isF o5
      have E := key (true, 0) (by show (if high < token then (if rs ≠ 1 then (false, 60) else Rg.next2 n _) else _) = _; rw [if_pos ht, if_neg (fun h => h h1)]; unfold Rg.next2; rw [if_neg (fun h => o4 h.1), if_neg (fun h => o5 h.1)])
      clear key
      try clear o4
      try clear o5
      try clear h3
      try clear h1
      go_enter Try.func67, Try.ntmps67
      go_wp2_with go_quiet (fail)
      go_ret2
      refine ⟨by rw [E.out]; rfl, ?_⟩
      repeat (with_reducible refine Fr.drewN ?_ _)
      exact (Fr.refl _ _).alloc _
    have e1' : (rs != 1) = true := by simp [h1]
    have E := key (false, 60) (by show (if high < token then (if rs ≠ 1 then (false, 60) else Rg.next2 n _) else _) = _; rw [if_pos ht, if_pos h1])
    clear key
    try clear o4
    try clear o5
    try clear h3
    try clear h1
    go_enter Try.func67, Try.ntmps67
    go_wp2_with go_quiet (fail)
    go_ret2
    refine ⟨by rw [E.out]; rfl, ?_⟩
    repeat (with_reducible refine Fr.drewN ?_ _)
    exact (Fr.refl _ _).alloc _
  have dt : decide (high < token) = false := decide_eq_false ht
  by_cases h1 : rs = seq
  · have e1 := isT h1
    have E := key (false, 0) (by show (if high < token then _ else if rs = seq then (false, 0) else if rs ≤ seq then (false, 80) else if rs ≠ seq + 1 then (false, 60) else Rg.next2 n _) = _; rw [if_neg ht, if_pos h1])
    clear key
    try clear o4
    try clear o5
    try clear h3
    try clear h1
    go_enter Try.func67, Try.ntmps67
    go_wp2_with go_quiet (fail)
    go_ret2
    refine ⟨by rw [E.out]; rfl, ?_⟩
    repeat (with_reducible refine Fr.drewN ?_ _)
    exact (Fr.refl _ _).alloc _
  have e1 := isF h1
  by_cases h2 : rs ≤ seq
  · have e2 : decide (rs ≤ seq) = true := decide_eq_true h2
    have E := key (false, 80) (by show (if high < token then _ else if rs = seq then (false, 0) else if rs ≤ seq then (false, 80) else if rs ≠ seq + 1 then (false, 60) else Rg.next2 n _) = _; rw [if_neg ht, if_neg h1, if_pos h2])
    clear key
    try clear o4
    try clear o5
    try clear h3
    try clear h1
    go_enter Try.func67, Try.ntmps67
    go_wp2_with go_quiet (fail)
    go_ret2
    refine ⟨by rw [E.out]; rfl, ?_⟩
    repeat (with_reducible refine Fr.drewN ?_ _)
    exact (Fr.refl _ _).alloc _
  have e2 : decide (rs ≤ seq) = false := decide_eq_false h2
  by_cases h3 : rs = seq + 1
  · have e3 : (rs != seq + 1) = false := by rw [h3]; simp
    by_cases o4 : op = 4
    · have b4 := isT o4
      by_cases n4 : 4 ≤ n
      · have d4 : decide ((4 : Int) ≤ (n : Int)) = true := decide_eq_true (by omega)
        have E := key (false, 42) (by show (if high < token then _ else if rs = seq then (false, 0) else if rs ≤ seq then (false, 80) else if rs ≠ seq + 1 then (false, 60) else Rg.next2 n _) = _; rw [if_neg ht, if_neg h1, if_neg h2, if_neg (fun h => h h3)]; unfold Rg.next2; rw [if_pos ⟨o4, n4⟩])
        clear key
        try clear o4
        try clear o5
        try clear h3
        try clear h1
        go_enter Try.func67, Try.ntmps67
        go_wp2_with go_quiet (fail)
        go_ret2
        refine ⟨by rw [E.out]; rfl, ?_⟩
        repeat (with_reducible refine Fr.drewN ?_ _)
        exact (Fr.refl _ _).alloc _
      have d4 : decide ((4 : Int) ≤ (n : Int)) = false := decide_eq_false (by omega)
      have o5 : ¬ op = 5 := by omega
      have b5 := isF o5
      have E := key (true, 0) (by show (if high < token then _ else if rs = seq then (false, 0) else if rs ≤ seq then (false, 80) else if rs ≠ seq + 1 then (false, 60) else Rg.next2 n _) = _; rw [if_neg ht, if_neg h1, if_neg h2, if_neg (fun h => h h3)]; unfold Rg.next2; rw [if_neg (fun h => n4 h.2), if_neg (fun h => o5 h.1)])
      clear key
      try clear o4
      try clear o5
      try clear h3
      try clear h1
      go_enter Try.func67, Try.ntmps67
      go_wp2_with go_quiet (fail)
      go_ret2
      refine ⟨by rw [E.out]; rfl, ?_⟩
      repeat (with_reducible refine Fr.drewN ?_ _)
      exact (Fr.refl _ _).alloc _
    have b4 := isF o4
    by_cases o5 : op = 5
    · have b5 := isT o5
      by_cases n5 : (n : Int) < index
      · have d5 : decide ((n : Int) < index) = true := decide_eq_true n5
        have E := key (false, 1) (by show (if high < token then _ else if rs = seq then (false, 0) else if rs ≤ seq then (false, 80) else if rs ≠ seq + 1 then (false, 60) else Rg.next2 n _) = _; rw [if_neg ht, if_neg h1, if_neg h2, if_neg (fun h => h h3)]; unfold Rg.next2; rw [if_neg (fun h => o4 h.1), if_pos ⟨o5, n5⟩])
        clear key
        try clear o4
        try clear o5
        try clear h3
        try clear h1
        go_enter Try.func67, Try.ntmps67
        go_wp2_with go_quiet (fail)
        go_ret2
        refine ⟨by rw [E.out]; rfl, ?_⟩
        repeat (with_reducible refine Fr.drewN ?_ _)
        exact (Fr.refl _ _).alloc _
      have d5 : decide ((n : Int) < index) = false := decide_eq_false n5
      have E := key (true, 0) (by show (if high < token then _ else if rs = seq then (false, 0) else if rs ≤ seq then (false, 80) else if rs ≠ seq + 1 then (false, 60) else Rg.next2 n _) = _; rw [if_neg ht, if_neg h1, if_neg h2, if_neg (fun h => h h3)]; unfold Rg.next2; rw [if_neg (fun h => o4 h.1), if_neg (fun h => n5 h.2)])
      clear key
      try clear o4
      try clear o5
      try clear h3
      try clear h1
      go_enter Try.func67, Try.ntmps67
      go_wp2_with go_quiet (fail)
      go_ret2
      refine ⟨by rw [E.out]; rfl, ?_⟩
      repeat (with_reducible refine Fr.drewN ?_ _)
      exact (Fr.refl _ _).alloc _
    have b5 := isF o5
    have E := key (true, 0) (by show (if high < token then _ else if rs = seq then (false, 0) else if rs ≤ seq then (false, 80) else if rs ≠ seq + 1 then (false, 60) else Rg.next2 n _) = _; rw [if_neg ht, if_neg h1, if_neg h2, if_neg (fun h => h h3)]; unfold Rg.next2; rw [if_neg (fun h => o4 h.1), if_neg (fun h => o5 h.1)])
    clear key
    try clear o4
    try clear o5
    try clear h3
    try clear h1
    go_enter Try.func67, Try.ntmps67
    go_wp2_with go_quiet (fail)
    go_ret2
    refine ⟨by rw [E.out]; rfl, ?_⟩
    repeat (with_reducible refine Fr.drewN ?_ _)
    exact (Fr.refl _ _).alloc _
  have e3 : (rs != seq + 1) = true := by simp [h3]
  have E := key (false, 60) (by show (if high < token then _ else if rs = seq then (false, 0) else if rs ≤ seq then (false, 80) else if rs ≠ seq + 1 then (false, 60) else Rg.next2 n _) = _; rw [if_neg ht, if_neg h1, if_neg h2, if_pos h3])
  clear key
  try clear o4
  try clear o5
  try clear h3
  try clear h1
  go_enter Try.func67, Try.ntmps67
  go_wp2_with go_quiet (fail)
  go_ret2
  refine ⟨by rw [E.out]; rfl, ?_⟩
  repeat (with_reducible refine Fr.drewN ?_ _)
  exact (Fr.refl _ _).alloc _

end Go.Proofs.Ytdhkklcjhbnnlaa
