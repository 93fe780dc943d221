/- The reference's tree path and the tree that it makes, in plain Lean: the same pairs as the search of tree.Make. No program in sight. -/
import Derived.Test.YtljojgpjgjfddaaTForm2
namespace Go.Proofs.Ytljojgpjgjfddaa
open Go.RowKit Go.Maps
set_option linter.unusedVariables false
set_option linter.unusedSimpArgs false

/-- a rises rather than b falls. -/
def riseB (lv : List Int) (a b : Nat) : Bool := decide (lv.getD b 0 < lv.getD a 0) || (decide (lv.getD a 0 = lv.getD b 0) && decide (0 < lv.getD a 0))
def pathP (cs : List Cb) (lv : List Int) : Nat → Nat → Nat → List Int
  | 0, _, _ => []
  | f + 1, a, b => if a = b then [] else if riseB lv a b = true then parV cs lv a :: pathP cs lv f (pnT cs lv a) b else pathP cs lv f a (pnT cs lv b) ++ [parV cs lv b]
def wpairs (cs : List Cb) (lv : List Int) : Nat → Nat → Nat → List (Nat × Int)
  | 0, _, _ => []
  | f + 1, a, b => if a = b then [] else if riseB lv a b = true then (a, parV cs lv a) :: wpairs cs lv f (pnT cs lv a) b else wpairs cs lv f a (pnT cs lv b) ++ [(pnT cs lv b, parV cs lv b)]
/-- Insertion into an ascending list. -/
def insA (l : List Int) (n : Int) : List Int := if n ∈ l then l else l.filter (fun x => decide (x < n)) ++ n :: l.filter (fun x => decide (n < x))
section
variable {ns : List Nd} {cs : List Cb} {lv : List Int}
theorem wpairs_snd (f : Nat) : ∀ a b, (wpairs cs lv f a b).map (·.2) = pathP cs lv f a b := by
  induction f with
  | zero => intro a b; rfl
  | succ f ih =>
    intro a b
    unfold wpairs pathP
    split
    · rfl
    · split
      · rw [List.map_cons, ih]
      · rw [List.map_append, ih]; rfl
theorem TOk.rise_cases (T : TOk ns cs lv) {a b : Nat} (ha : a < ns.length) (hb : b < ns.length) (a0 : 0 ≤ lv.getD a 0) (b0 : 0 ≤ lv.getD b 0) (hne : a ≠ b) :
    (riseB lv a b = true ∧ 0 < lv.getD a 0 ∧ lv.getD b 0 ≤ lv.getD a 0) ∨ (riseB lv a b = false ∧ 0 < lv.getD b 0 ∧ lv.getD a 0 ≤ lv.getD b 0) := by
  unfold riseB
  by_cases h : lv.getD b 0 < lv.getD a 0
  · left; exact ⟨by rw [decide_eq_true h]; rfl, by omega, by omega⟩
  · by_cases h2 : lv.getD a 0 = lv.getD b 0
    · by_cases h3 : 0 < lv.getD a 0
      · left; exact ⟨by rw [decide_eq_true h2, decide_eq_true h3]; simp, h3, by omega⟩
      · exact absurd (T.root a b ha hb (by omega) (by omega)) hne
    · right; exact ⟨by rw [decide_eq_false h, decide_eq_false h2]; rfl, by omega, by omega⟩
theorem TOk.mem_wpairs (T : TOk ns cs lv) (f : Nat) : ∀ a b, a < ns.length → b < ns.length → 0 ≤ lv.getD a 0 → 0 ≤ lv.getD b 0 → lv.getD a 0 + lv.getD b 0 < f →
    ∀ x i, (x, i) ∈ wpairs cs lv f a b ↔ (x < ns.length ∧ 0 < lv.getD x 0 ∧ belowT cs lv x a ∧ ¬ belowT cs lv x b ∧ parV cs lv x = i) ∨ ∃ c, c < ns.length ∧ 0 < lv.getD c 0 ∧ parV cs lv c = i ∧ pnT cs lv c = x ∧ belowT cs lv c b ∧ ¬ belowT cs lv c a := by
  induction f with
  | zero => intro a b _ _ h1 h2 h; omega
  | succ f ih =>
    intro a b ha hb a0 b0 hf x i
    unfold wpairs
    by_cases e : a = b
    · subst e
      rw [if_pos rfl]
      constructor
      · intro h; cases h
      · rintro (⟨_, _, h1, h2, _⟩ | ⟨_, _, _, _, _, h1, h2⟩)
        · exact absurd h1 h2
        · exact absurd h1 h2
    · rw [if_neg e]
      rcases T.rise_cases ha hb a0 b0 e with ⟨hr, hal, hle⟩ | ⟨hr, hbl, hle⟩
      · rw [if_pos hr]
        obtain ⟨q1, q2⟩ := T.pnl ha hal
        have nab : ¬ belowT cs lv a b := fun h => by
          obtain ⟨_, _, h3, h4⟩ := T.blv hb b0 h
          exact e (h4 (by omega))
        rw [List.mem_cons, ih (pnT cs lv a) b q1 hb (by omega) b0 (by omega)]
        constructor
        · rintro (h | ⟨h1, h2, h3, h4, h5⟩ | ⟨c, h1, h2, h3, h4, h5, h6⟩)
          · injection h with h1 h2
            subst h1; subst h2
            exact .inl ⟨ha, hal, below_self _, nab, rfl⟩
          · exact .inl ⟨h1, h2, (T.below_cons ha hal x).2 (.inr h3), h4, h5⟩
          · refine .inr ⟨c, h1, h2, h3, h4, h5, fun h => ?_⟩
            rcases (T.below_cons ha hal c).1 h with rfl | h
            · exact nab h5
            · exact h6 h
        · rintro (⟨h1, h2, h3, h4, h5⟩ | ⟨c, h1, h2, h3, h4, h5, h6⟩)
          · rcases (T.below_cons ha hal x).1 h3 with rfl | h
            · exact .inl (by rw [h5])
            · exact .inr (.inl ⟨h1, h2, h, h4, h5⟩)
          · exact .inr (.inr ⟨c, h1, h2, h3, h4, h5, fun h => h6 ((T.below_cons ha hal c).2 (.inr h))⟩)
      · rw [if_neg (by rw [hr]; decide)]
        obtain ⟨q1, q2⟩ := T.pnl hb hbl
        have nba : ¬ belowT cs lv b a := fun h => by
          obtain ⟨_, _, h3, h4⟩ := T.blv ha a0 h
          exact e (h4 (by omega)).symm
        rw [List.mem_append, List.mem_singleton, ih a (pnT cs lv b) ha q1 a0 (by omega) (by omega)]
        constructor
        · rintro ((⟨h1, h2, h3, h4, h5⟩ | ⟨c, h1, h2, h3, h4, h5, h6⟩) | h)
          · refine .inl ⟨h1, h2, h3, fun h => ?_, h5⟩
            rcases (T.below_cons hb hbl x).1 h with rfl | h
            · exact nba h3
            · exact h4 h
          · exact .inr ⟨c, h1, h2, h3, h4, (T.below_cons hb hbl c).2 (.inr h5), h6⟩
          · injection h with h1 h2
            subst h1; subst h2
            exact .inr ⟨b, hb, hbl, rfl, rfl, below_self _, nba⟩
        · rintro (⟨h1, h2, h3, h4, h5⟩ | ⟨c, h1, h2, h3, h4, h5, h6⟩)
          · exact .inl (.inl ⟨h1, h2, h3, fun h => h4 ((T.below_cons hb hbl x).2 (.inr h)), h5⟩)
          · rcases (T.below_cons hb hbl c).1 h5 with rfl | h
            · exact .inr (by rw [h3, h4])
            · exact .inl (.inr ⟨c, h1, h2, h3, h4, h, h6⟩)
theorem pairT_iff {W : Nat → Bool} {E : Nat → Prop} (T : TOk ns cs lv) (hW : ∀ m, W m = true → m < ns.length ∧ 0 ≤ lv.getD m 0) (hE : ∀ m, ¬ E m) {s : Nat} (hs : s < ns.length) (s0 : 0 ≤ lv.getD s 0) {f : Nat} (hf : ∀ m, W m = true → lv.getD s 0 + lv.getD m 0 < f) (a : Nat) (i : Int) :
    PairT ns cs lv W E s a i ↔ ∃ m, W m = true ∧ (a, i) ∈ wpairs cs lv f s m := by
  unfold PairT wbT
  constructor
  · rintro (⟨h1, h2, h3, h4, m, h5, h6⟩ | ⟨c, h1, h2, h3, h4, _, h5, m, h6, h7⟩)
    · exact ⟨m, h5, (T.mem_wpairs f s m hs (hW m h5).1 s0 (hW m h5).2 (hf m h5) a i).2 (.inl ⟨h1, h2, h3, h6, h4⟩)⟩
    · exact ⟨m, h6, (T.mem_wpairs f s m hs (hW m h6).1 s0 (hW m h6).2 (hf m h6) a i).2 (.inr ⟨c, h1, h2, h3, h4, h7, h5⟩)⟩
  · rintro ⟨m, hm, hx⟩
    rcases (T.mem_wpairs f s m hs (hW m hm).1 s0 (hW m hm).2 (hf m hm) a i).1 hx with ⟨h1, h2, h3, h4, h5⟩ | ⟨c, h1, h2, h3, h4, h5, h6⟩
    · exact .inl ⟨h1, h2, h3, h5, m, hm, h4⟩
    · exact .inr ⟨c, h1, h2, h3, h4, hE c, h6, m, hm, h5⟩
end
theorem mem_insA {l : List Int} {n x : Int} : x ∈ insA l n ↔ x ∈ l ∨ x = n := by
  unfold insA
  split
  · rename_i h
    constructor
    · exact .inl
    · rintro (h2 | rfl)
      · exact h2
      · exact h
  · rename_i h
    rw [List.mem_append, List.mem_cons, List.mem_filter, List.mem_filter]
    constructor
    · rintro (⟨h1, _⟩ | h1 | ⟨h1, _⟩)
      · exact .inl h1
      · exact .inr h1
      · exact .inl h1
    · rintro (h1 | h1)
      · rcases Int.lt_trichotomy x n with h2 | h2 | h2
        · exact .inl ⟨h1, by simpa using h2⟩
        · exact .inr (.inl h2)
        · exact .inr (.inr ⟨h1, by simpa using h2⟩)
      · exact .inr (.inl h1)
theorem insA_asc {l : List Int} {n : Int} (h : l.Pairwise (· < ·)) : (insA l n).Pairwise (· < ·) := by
  unfold insA
  split
  · exact h
  · rw [List.pairwise_append, List.pairwise_cons]
    refine ⟨h.filter _, ⟨fun x hx => ?_, h.filter _⟩, fun x hx y hy => ?_⟩
    · simpa using (List.mem_filter.1 hx).2
    · have h1 : x < n := by simpa using (List.mem_filter.1 hx).2
      rcases List.mem_cons.1 hy with rfl | hy
      · exact h1
      · have h2 : n < y := by simpa using (List.mem_filter.1 hy).2
        omega
/-- Ascending lists with the same members are equal. -/
theorem asc_ext {l m : List Int} (hl : l.Pairwise (· < ·)) (hm : m.Pairwise (· < ·)) (h : ∀ x, x ∈ l ↔ x ∈ m) : l = m := by
  induction l generalizing m with
  | nil =>
    cases m with
    | nil => rfl
    | cons y m => exact absurd ((h y).2 (List.mem_cons_self ..)) (by simp)
  | cons x l ih =>
    cases m with
    | nil => exact absurd ((h x).1 (List.mem_cons_self ..)) (by simp)
    | cons y m =>
      obtain ⟨l1, l2⟩ := List.pairwise_cons.1 hl
      obtain ⟨m1, m2⟩ := List.pairwise_cons.1 hm
      have e : x = y := by
        rcases List.mem_cons.1 ((h x).1 (List.mem_cons_self ..)) with h1 | h1
        · exact h1
        · rcases List.mem_cons.1 ((h y).2 (List.mem_cons_self ..)) with h2 | h2
          · exact h2.symm
          · have := m1 x h1
            have := l1 y h2
            omega
      subst e
      congr 1
      refine ih l2 m2 fun z => ?_
      constructor
      · intro hz
        rcases List.mem_cons.1 ((h z).1 (List.mem_cons_of_mem _ hz)) with h1 | h1
        · subst h1; have := l1 _ hz; omega
        · exact h1
      · intro hz
        rcases List.mem_cons.1 ((h z).2 (List.mem_cons_of_mem _ hz)) with h1 | h1
        · subst h1; have := m1 _ hz; omega
        · exact h1
theorem asc_len {l : List Int} {n : Nat} (h : l.Pairwise (· < ·)) (hb : ∀ x ∈ l, 0 ≤ x ∧ x < n) : l.length ≤ n := by
  have key : ∀ (l : List Int) (a : Int), l.Pairwise (· < ·) → (∀ x ∈ l, a ≤ x ∧ x < n) → (l.length : Int) ≤ max 0 (n - a) := by
    intro l
    induction l with
    | nil => intro a _ _; simp; omega
    | cons x l ih =>
      intro a hp hb
      obtain ⟨h1, h2⟩ := List.pairwise_cons.1 hp
      have h3 := hb x (List.mem_cons_self ..)
      have := ih (x + 1) h2 (fun y hy => ⟨by have := h1 y hy; omega, (hb y (List.mem_cons_of_mem _ hy)).2⟩)
      simp only [List.length_cons]
      omega
  have := key l 0 h hb
  omega
end Go.Proofs.Ytljojgpjgjfddaa
