/- Locks: who wants behind the last token (plain). -/
import Derived.Test.YtbgknfdaaffeaaaLkD
import Derived.Test.YtbgknfdaaffeaaaLkUm
namespace Go.Proofs.Ytbgknfdaaffeaaa

theorem giveL_find (now c m : Int) : ∀ (ws : List WantM) (hs : List HoldM) (last : Int), (∀ h ∈ hs, h.c ≠ c) → (∀ x ∈ ws, x.c ≠ c) →
    ∀ h, findH (giveL now (ws ++ [⟨c, m⟩]) hs last).2.1 c = some h → h.t = (giveL now (ws ++ [⟨c, m⟩]) hs last).2.2 ∧ last < (giveL now (ws ++ [⟨c, m⟩]) hs last).2.2
  | [], hs, last => by
    intro hh _ h
    have hno : findH hs c = none := List.find?_eq_none.2 (fun x hx => by have := hh x hx; simpa using this)
    rw [List.nil_append]
    unfold giveL
    split
    · intro he
      unfold giveL at he ⊢
      have : findH (hs ++ [⟨c, m, last + 1, untilI now⟩]) c = some ⟨c, m, last + 1, untilI now⟩ := by
        unfold findH at hno ⊢
        rw [List.find?_append, hno]
        simp
      have he : findH (hs ++ [⟨c, m, last + 1, untilI now⟩]) c = some h := he
      rw [this] at he
      obtain rfl := Option.some.inj he
      exact ⟨rfl, by show last < last + 1; omega⟩
    · intro he
      have he : findH hs c = some h := he
      rw [hno] at he
      cases he
  | x :: ws, hs, last => by
    intro hh hw h
    rw [List.cons_append]
    unfold giveL
    split
    · intro he
      have h1 := giveL_find now c m ws (hs ++ [⟨x.c, x.m, last + 1, untilI now⟩]) (last + 1) (fun y hy => by
        rcases List.mem_append.1 hy with hy | hy
        · exact hh y hy
        · rw [List.mem_singleton] at hy
          subst hy
          exact hw x (by simp)) (fun y hy => hw y (by simp [hy])) h he
      exact ⟨h1.1, by omega⟩
    · intro he
      have hno : findH hs c = none := List.find?_eq_none.2 (fun x hx => by have := hh x hx; simpa using this)
      have he : findH hs c = some h := he
      rw [hno] at he
      cases he
theorem giveL_who (now : Int) (P : Int → Prop) : ∀ (ws : List WantM) (hs : List HoldM) (last : Int), (∀ h ∈ hs, P h.c) → (∀ x ∈ ws, P x.c) →
    (∀ h ∈ (giveL now ws hs last).2.1, P h.c) ∧ (∀ x ∈ (giveL now ws hs last).1, P x.c) ∧ last ≤ (giveL now ws hs last).2.2
  | [], hs, last => fun h1 _ => ⟨h1, fun _ h => absurd h List.not_mem_nil, Int.le_refl _⟩
  | x :: ws, hs, last => by
    intro h1 h2
    unfold giveL
    split
    · obtain ⟨a, b, d⟩ := giveL_who now P ws (hs ++ [⟨x.c, x.m, last + 1, untilI now⟩]) (last + 1) (fun y hy => by
        rcases List.mem_append.1 hy with hy | hy
        · exact h1 y hy
        · rw [List.mem_singleton] at hy
          subst hy
          exact h2 x (by simp)) (fun y hy => h2 y (by simp [hy]))
      exact ⟨a, b, by omega⟩
    · exact ⟨h1, h2, Int.le_refl _⟩
structure FInv (left : Int) (i : Nat) (T : TabM) (gave : Nat) : Prop where
  ok : TabOk T
  lo : 18446744073709551615 - left + (gave : Int) ≤ T.last
  h : ∀ j, j < 4 → ∀ x ∈ (T.r j).h, x.c < (i : Int)
  w : ∀ j, j < 4 → ∀ x ∈ (T.r j).w, x.c < (i : Int)
structure FStep (left : Int) (i : Nat) (T T' : TabM) (gave : Nat) (r m k f : Int) : Prop where
  inv : FInv left (i + 1) T' (if f = 0 then gave + 1 else gave)
  le : T.last ≤ T'.last
  tok : f = 0 → k = T'.last
  full : 0 ≤ r → r ≤ 3 → 1 ≤ m → m ≤ 2 → T.last = 18446744073709551615 → f = 42
theorem FInv.stay {left : Int} {i : Nat} {T : TabM} {gave : Nat} (h : FInv left i T gave) {r m k f : Int} (hf : f ≠ 0) (hr : 0 ≤ r → r ≤ 3 → 1 ≤ m → m ≤ 2 → T.last = 18446744073709551615 → f = 42) : FStep left i T T gave r m k f :=
  ⟨by rw [if_neg hf]; exact ⟨h.ok, h.lo, fun j hj x hx => by have := h.h j hj x hx; omega, fun j hj x hx => by have := h.w j hj x hx; omega⟩, Int.le_refl _, fun e => absurd e hf, hr⟩
theorem FInv.step {left : Int} {i : Nat} {T : TabM} {gave : Nat} (h : FInv left i T gave) (hi : i < 16) (r m : Int) : FStep left i T (T.acquire (i : Int) r m).1 gave r m (T.acquire (i : Int) r m).2.1 (T.acquire (i : Int) r m).2.2 := by
  have hn : nodeB (i : Int) = true := by unfold nodeB; simp; omega
  unfold TabM.acquire
  split
  · rename_i hr
    refine h.stay hr (fun h1 h2 _ _ _ => ?_)
    exfalso
    refine hr ?_
    unfold rightE thereB
    rw [if_neg (by rw [hn]; decide), if_neg (by simp; omega)]
  · rename_i hr
    have hr4 := rightE_ok (by omega : rightE (i : Int) r = 0)
    have hq : r.toNat < 4 := by omega
    split
    · rename_i hm
      refine h.stay (show (91 : Int) ≠ 0 by decide) (fun _ _ h1 h2 _ => ?_)
      exfalso
      unfold modeB at hm
      simp at hm
      omega
    · unfold TabM.acqIn
      have hH : findH (T.r r.toNat).h (i : Int) = none := List.find?_eq_none.2 (fun x hx => by have := h.h _ hq x hx; simp; omega)
      have hW : findW (T.r r.toNat).w (i : Int) = none := List.find?_eq_none.2 (fun x hx => by have := h.w _ hq x hx; simp; omega)
      simp only [hH, hW]
      split
      · exact h.stay (show (42 : Int) ≠ 0 by decide) (fun _ _ _ _ _ => rfl)
      · rename_i hc
        have hs : TabOk (((T.setW r.toNat ((T.r r.toNat).w ++ [⟨(i : Int), m⟩]))).give r.toNat) := (h.ok.setW (by simp; omega)).give hq
        have hwho := giveL_who T.now (fun c => c < ((i + 1 : Nat) : Int)) ((T.r r.toNat).w ++ [⟨(i : Int), m⟩]) (T.r r.toNat).h T.last (fun x hx => by have := h.h _ hq x hx; omega) (fun x hx => by
          rcases List.mem_append.1 hx with hx | hx
          · have := h.w _ hq x hx; omega
          · rw [List.mem_singleton] at hx
            subst hx
            show (i : Int) < _
            omega)
        have hfind := giveL_find T.now (i : Int) m (T.r r.toNat).w (T.r r.toNat).h T.last (fun x hx => by have := h.h _ hq x hx; omega) (fun x hx => by have := h.w _ hq x hx; omega)
        have hgr : ∀ j, ((T.setW r.toNat ((T.r r.toNat).w ++ [⟨(i : Int), m⟩])).give r.toNat).r j = if j = r.toNat then ⟨(giveL T.now ((T.r r.toNat).w ++ [⟨(i : Int), m⟩]) (T.r r.toNat).h T.last).2.1, (giveL T.now ((T.r r.toNat).w ++ [⟨(i : Int), m⟩]) (T.r r.toNat).h T.last).1⟩ else T.r j := fun j => by
          unfold TabM.give TabM.setW upd
          simp only [if_true]
          split <;> rfl
        have hgl : ((T.setW r.toNat ((T.r r.toNat).w ++ [⟨(i : Int), m⟩])).give r.toNat).last = (giveL T.now ((T.r r.toNat).w ++ [⟨(i : Int), m⟩]) (T.r r.toNat).h T.last).2.2 := by
          unfold TabM.give TabM.setW upd
          simp only [if_true]
        have key : ∀ g' : Nat, (18446744073709551615 - left + (g' : Int) ≤ ((T.setW r.toNat ((T.r r.toNat).w ++ [⟨(i : Int), m⟩])).give r.toNat).last) → FInv left (i + 1) ((T.setW r.toNat ((T.r r.toNat).w ++ [⟨(i : Int), m⟩])).give r.toNat) g' := fun g' hg' => by
          refine ⟨hs, hg', fun j hj x hx => ?_, fun j hj x hx => ?_⟩
          · rw [hgr] at hx
            split at hx
            · exact hwho.1 x hx
            · have := h.h j hj x hx; omega
          · rw [hgr] at hx
            split at hx
            · exact hwho.2.1 x hx
            · have := h.w j hj x hx; omega
        have hle : T.last ≤ ((T.setW r.toNat ((T.r r.toNat).w ++ [⟨(i : Int), m⟩])).give r.toNat).last := by rw [hgl]; exact hwho.2.2
        have hlo := h.lo
        unfold TabM.acqNew
        have hgrh : (((T.setW r.toNat ((T.r r.toNat).w ++ [⟨(i : Int), m⟩])).give r.toNat).r r.toNat).h = (giveL T.now ((T.r r.toNat).w ++ [⟨(i : Int), m⟩]) (T.r r.toNat).h T.last).2.1 := by rw [hgr, if_pos rfl]
        have hnf : ¬ T.last = 18446744073709551615 := fun e => hc (.inr e)
        split
        · rename_i x hx
          rw [hgrh] at hx
          obtain ⟨h1, h2⟩ := hfind x hx
          refine ⟨?_, hle, fun _ => ?_, fun _ _ _ _ e => absurd e hnf⟩
          · rw [if_pos rfl]
            refine key _ ?_
            rw [hgl]
            omega
          · rw [hgl]
            exact h1
        · refine ⟨?_, hle, fun e => by simp at e, fun _ _ _ _ e => absurd e hnf⟩
          rw [if_neg (show ¬ (90 : Int) = 0 by decide)]
          exact key _ (by omega)
def fullBs (left : Int) : List Int := List.replicate 8 0 ++ numI (18446744073709551615 - left) 8 ++ List.replicate 8 0
theorem fullBs_ok {left : Int} (h : 0 ≤ left ∧ left ≤ 5) : Bytes (fullBs left) ∧ (fullBs left).length = 24 ∧ uE (fullBs left) = 0 ∧ FInv left 0 (uTab (fullBs left)) 0 := by
  have hcases : left = 0 ∨ left = 1 ∨ left = 2 ∨ left = 3 ∨ left = 4 ∨ left = 5 := by omega
  have hb : Bytes (fullBs left) := by
    unfold fullBs
    refine Bytes.append (Bytes.append ?_ (numI_bytes _ _)) ?_ <;> (intro x hx; rw [List.eq_of_mem_replicate hx]; exact ⟨by omega, by omega⟩)
  have hl : (fullBs left).length = 24 := by
    rcases hcases with rfl | rfl | rfl | rfl | rfl | rfl <;> rfl
  have hu : uE (fullBs left) = 0 := by
    rcases hcases with rfl | rfl | rfl | rfl | rfl | rfl <;> decide
  have hok := (uTab_ok (bs := fullBs left) ⟨hb, by rw [hl]; omega, fun h => by cases h⟩ hu).1
  have hla : (uTab (fullBs left)).last = 18446744073709551615 - left := by
    rcases hcases with rfl | rfl | rfl | rfl | rfl | rfl <;> decide
  have hr : ∀ j, j < 4 → (uTab (fullBs left)).r j = ⟨[], []⟩ := by
    intro j hj
    rcases hcases with rfl | rfl | rfl | rfl | rfl | rfl <;> rcases lt4U hj with rfl | rfl | rfl | rfl <;> rfl
  exact ⟨hb, hl, hu, hok, by rw [hla]; omega, fun j hj x hx => by rw [hr j hj] at hx; exact absurd hx List.not_mem_nil, fun j hj x hx => by rw [hr j hj] at hx; exact absurd hx List.not_mem_nil⟩
end Go.Proofs.Ytbgknfdaaffeaaa
