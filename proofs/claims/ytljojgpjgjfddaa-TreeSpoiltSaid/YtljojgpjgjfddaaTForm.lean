/- The tree of tree.Make in closed form: a cable lies in it exactly if it separates the source from a wanted node. No program in sight. -/
import Derived.Test.YtljojgpjgjfddaaTStep
namespace Go.Proofs.Ytljojgpjgjfddaa
open Go.RowKit Go.Maps
set_option linter.unusedVariables false
set_option linter.unusedSimpArgs false

/-- The parent of a node. -/
def pnT (cs : List Cb) (lv : List Int) (v : Nat) : Nat := othN cs v (parV cs lv v).toNat
def chainF (cs : List Cb) (lv : List Int) : Nat → Nat → List Nat
  | 0, v => [v]
  | k + 1, v => v :: chainF cs lv k (pnT cs lv v)
/-- c is m or lies on m's way up to the root. -/
def belowT (cs : List Cb) (lv : List Int) (c m : Nat) : Prop := c ∈ chainF cs lv (lv.getD m 0).toNat m
structure TOk (ns : List Nd) (cs : List Cb) (lv : List Int) : Prop where
  hv : validP ⟨ns, cs⟩ = 0
  len : lv.length = ns.length
  lt : ∀ j, j < ns.length → -1 ≤ lv.getD j 0 ∧ lv.getD j 0 < ns.length
  par : ∀ v, v < ns.length → 0 < lv.getD v 0 → ∃ i : Nat, parV cs lv v = (i : Int)
  root : ∀ u v, u < ns.length → v < ns.length → lv.getD u 0 = 0 → lv.getD v 0 = 0 → u = v
theorem valid_abT {ns : List Nd} {cs : List Cb} (h : validP ⟨ns, cs⟩ = 0) : ∀ y ∈ cs, y.a ≠ y.b := by
  intro y hy
  have hp : (cs.all fun x => decide (x.a ≠ x.b)) = true := by
    cases hq : (cs.all fun x => decide (x.a ≠ x.b)) with
    | true => rfl
    | false =>
      unfold validP at h
      simp only [hq] at h
      split at h
      · cases h
      · split at h
        · cases h
        · split at h
          · cases h
          · split at h
            · cases h
            · cases h
  have h2 := List.all_eq_true.1 hp _ hy
  simpa using h2
section
variable {ns : List Nd} {cs : List Cb} {lv : List Int}
theorem oth_of {u v i : Nat} (ht : touchT (cs.getD i cb0) u v) : othN cs u i = v := by
  unfold othN othZ
  rcases ht with ⟨h1, h2⟩ | ⟨h1, h2⟩ <;> rw [h1, h2] <;> omega
theorem pn_of {u v i : Nat} (h : parV cs lv v = (i : Int)) (ht : touchT (cs.getD i cb0) v u) : pnT cs lv v = u := by
  unfold pnT; rw [h, Int.toNat_natCast]; exact oth_of ht
theorem touch_end {x : Cb} {u v : Nat} (h : touchT x u v) : endT x (u : Int) = true := by
  unfold endT
  rcases h with ⟨h1, _⟩ | ⟨h1, _⟩ <;> simp [h1]
theorem parV_none {v : Nat} (h : lv.getD v 0 ≤ 0) : parV cs lv v = -1 := by
  unfold parV
  have : (List.range cs.length).find? (fun i => pOk lv v (cs.getD i cb0)) = none := by
    rw [List.find?_eq_none]
    intro i _
    unfold pOk
    have : ¬ (0 < lv.getD v 0) := by omega
    rw [decide_eq_false this]
    simp
  rw [this]
theorem TOk.up (T : TOk ns cs lv) {v : Nat} (hv : v < ns.length) (h : 0 < lv.getD v 0) :
    ∃ i : Nat, i < cs.length ∧ parV cs lv v = (i : Int) ∧ touchT (cs.getD i cb0) v (pnT cs lv v) ∧ pnT cs lv v < ns.length ∧ lv.getD (pnT cs lv v) 0 = lv.getD v 0 - 1 := by
  obtain ⟨i, hi⟩ := T.par v hv h
  obtain ⟨hl, hp⟩ := parV_spec hi
  have hm : cs.getD i cb0 ∈ cs := by simp [List.getD, hl]
  obtain ⟨⟨a0, a1⟩, b0, b1⟩ := cab_node T.hv hm
  have he : endT (cs.getD i cb0) (v : Int) = true := by
    unfold pOk at hp
    simp only [Bool.and_eq_true, decide_eq_true_eq, Bool.or_eq_true, beq_iff_eq] at hp
    unfold endT
    simp only [Bool.or_eq_true, beq_iff_eq]
    rcases hp.2 with h1 | h1
    · exact .inl h1.1
    · exact .inr h1.1
  obtain ⟨u, _, ht⟩ := oth_touch he a0 b0
  have e := pn_of hi ht
  rw [e]
  refine ⟨i, hl, hi, ht, ?_, (par_level hi ht (valid_abT T.hv _ hm)).2⟩
  rcases ht with ⟨_, h2⟩ | ⟨_, h2⟩ <;> omega
theorem below_self (c : Nat) : belowT cs lv c c := by
  unfold belowT
  cases (lv.getD c 0).toNat <;> simp [chainF]
theorem TOk.below_cons (T : TOk ns cs lv) {m : Nat} (hm : m < ns.length) (h : 0 < lv.getD m 0) (c : Nat) : belowT cs lv c m ↔ c = m ∨ belowT cs lv c (pnT cs lv m) := by
  obtain ⟨_, _, _, _, _, hl⟩ := T.up hm h
  unfold belowT
  rw [hl, show (lv.getD m 0).toNat = (lv.getD m 0 - 1).toNat + 1 by omega, chainF, List.mem_cons]
theorem below_root {m c : Nat} (h : lv.getD m 0 ≤ 0) : belowT cs lv c m ↔ c = m := by
  unfold belowT
  rw [show (lv.getD m 0).toNat = 0 by omega, chainF, List.mem_singleton]
theorem TOk.below_lv (T : TOk ns cs lv) (k : Nat) : ∀ {m c : Nat}, (lv.getD m 0).toNat = k → m < ns.length → 0 ≤ lv.getD m 0 → belowT cs lv c m → c < ns.length ∧ 0 ≤ lv.getD c 0 ∧ lv.getD c 0 ≤ lv.getD m 0 ∧ (lv.getD c 0 = lv.getD m 0 → c = m) := by
  induction k with
  | zero =>
    intro m c hk hm h0 hb
    obtain rfl := (below_root (by omega)).1 hb
    exact ⟨hm, h0, Int.le_refl _, fun _ => rfl⟩
  | succ k ih =>
    intro m c hk hm h0 hb
    obtain ⟨_, _, _, _, hp, hl⟩ := T.up hm (by omega)
    rcases (T.below_cons hm (by omega) c).1 hb with rfl | hb
    · exact ⟨hm, h0, Int.le_refl _, fun _ => rfl⟩
    · obtain ⟨h1, h2, h3, h4⟩ := ih (by omega) hp (by omega) hb
      exact ⟨h1, h2, by omega, fun e => by omega⟩
theorem TOk.blv (T : TOk ns cs lv) {m c : Nat} (hm : m < ns.length) (h0 : 0 ≤ lv.getD m 0) (hb : belowT cs lv c m) : c < ns.length ∧ 0 ≤ lv.getD c 0 ∧ lv.getD c 0 ≤ lv.getD m 0 ∧ (lv.getD c 0 = lv.getD m 0 → c = m) := T.below_lv _ rfl hm h0 hb
/-- Two nodes on one way up: the higher one is above the other. -/
theorem TOk.below_comp (T : TOk ns cs lv) (k : Nat) : ∀ {m c d : Nat}, (lv.getD m 0).toNat = k → m < ns.length → 0 ≤ lv.getD m 0 → belowT cs lv c m → belowT cs lv d m → lv.getD c 0 ≤ lv.getD d 0 → belowT cs lv c d := by
  induction k with
  | zero =>
    intro m c d hk hm h0 hc hd _
    obtain rfl := (below_root (by omega)).1 hc
    obtain rfl := (below_root (by omega)).1 hd
    exact below_self _
  | succ k ih =>
    intro m c d hk hm h0 hc hd hle
    obtain ⟨_, _, _, _, hp, hl⟩ := T.up hm (by omega)
    have hc' := hc
    rcases (T.below_cons hm (by omega) d).1 hd with rfl | hd
    · exact hc
    · rcases (T.below_cons hm (by omega) c).1 hc with rfl | hc
      · have := (T.blv hp (by omega) hd).2.2.1; omega
      · exact ih (by omega) hp (by omega) hc hd hle
theorem TOk.bcomp (T : TOk ns cs lv) {m c d : Nat} (hm : m < ns.length) (h0 : 0 ≤ lv.getD m 0) (hc : belowT cs lv c m) (hd : belowT cs lv d m) (h : lv.getD c 0 ≤ lv.getD d 0) : belowT cs lv c d := T.below_comp _ rfl hm h0 hc hd h
theorem TOk.below_trans (T : TOk ns cs lv) (k : Nat) : ∀ {m c d : Nat}, (lv.getD m 0).toNat = k → m < ns.length → 0 ≤ lv.getD m 0 → belowT cs lv c d → belowT cs lv d m → belowT cs lv c m := by
  induction k with
  | zero =>
    intro m c d hk hm h0 hc hd
    obtain rfl := (below_root (by omega)).1 hd
    exact hc
  | succ k ih =>
    intro m c d hk hm h0 hc hd
    obtain ⟨_, _, _, _, hp, hl⟩ := T.up hm (by omega)
    rcases (T.below_cons hm (by omega) d).1 hd with rfl | hd
    · exact hc
    · exact (T.below_cons hm (by omega) c).2 (.inr (ih (by omega) hp (by omega) hc hd))
theorem TOk.btrans (T : TOk ns cs lv) {m c d : Nat} (hm : m < ns.length) (h0 : 0 ≤ lv.getD m 0) (hc : belowT cs lv c d) (hd : belowT cs lv d m) : belowT cs lv c m := T.below_trans _ rfl hm h0 hc hd
/-- Below a node, but not the node itself: below one of its children. -/
theorem TOk.below_child (T : TOk ns cs lv) (k : Nat) : ∀ {m u : Nat}, (lv.getD m 0).toNat = k → m < ns.length → 0 ≤ lv.getD m 0 → belowT cs lv u m → u ≠ m → ∃ c, c < ns.length ∧ 0 < lv.getD c 0 ∧ pnT cs lv c = u ∧ belowT cs lv c m := by
  induction k with
  | zero =>
    intro m u hk hm h0 hb hne
    exact absurd ((below_root (by omega)).1 hb) hne
  | succ k ih =>
    intro m u hk hm h0 hb hne
    obtain ⟨_, _, _, _, hp, hl⟩ := T.up hm (by omega)
    rcases (T.below_cons hm (by omega) u).1 hb with rfl | hb
    · exact absurd rfl hne
    · by_cases e : u = pnT cs lv m
      · exact ⟨m, hm, by omega, e.symm, below_self m⟩
      · obtain ⟨c, h1, h2, h3, h4⟩ := ih (by omega) hp (by omega) hb e
        exact ⟨c, h1, h2, h3, (T.below_cons hm (by omega) c).2 (.inr h4)⟩
theorem TOk.bchild (T : TOk ns cs lv) {m u : Nat} (hm : m < ns.length) (h0 : 0 ≤ lv.getD m 0) (hb : belowT cs lv u m) (hne : u ≠ m) : ∃ c, c < ns.length ∧ 0 < lv.getD c 0 ∧ pnT cs lv c = u ∧ belowT cs lv c m := T.below_child _ rfl hm h0 hb hne
/-- A node's child: what is below it is below the node. -/
theorem TOk.bup (T : TOk ns cs lv) {m c : Nat} (hc : c < ns.length) (hl : 0 < lv.getD c 0) (hm : m < ns.length) (h0 : 0 ≤ lv.getD m 0) (hb : belowT cs lv c m) : belowT cs lv (pnT cs lv c) m :=
  T.btrans hm h0 ((T.below_cons hc hl _).2 (.inr (below_self _))) hb
/-- All nodes with a level are below the root. -/
theorem TOk.broot (T : TOk ns cs lv) (k : Nat) : ∀ {m r : Nat}, (lv.getD m 0).toNat = k → r < ns.length → lv.getD r 0 = 0 → m < ns.length → 0 ≤ lv.getD m 0 → belowT cs lv r m := by
  induction k with
  | zero => intro m r hk hr hr0 hm h0; rw [T.root r m hr hm hr0 (by omega)]; exact below_self _
  | succ k ih =>
    intro m r hk hr hr0 hm h0
    obtain ⟨_, _, _, _, hp, hl⟩ := T.up hm (by omega)
    exact (T.below_cons hm (by omega) r).2 (.inr (ih (by omega) hr hr0 hp (by omega)))
theorem TOk.go_child (T : TOk ns cs lv) {c i : Nat} {ov : Int} (hc : c < ns.length) (hl : 0 < lv.getD c 0) (hp : parV cs lv c = (i : Int)) (hne : (i : Int) ≠ ov) : i < cs.length ∧ goB cs lv (pnT cs lv c) ov i = true ∧ othN cs (pnT cs lv c) i = c := by
  obtain ⟨j, hj, hpj, ht, _, _⟩ := T.up hc hl
  obtain rfl : j = i := by omega
  have e := oth_of (touchT_symm ht)
  refine ⟨hj, ?_, e⟩
  unfold goB
  rw [e, hp, touch_end (touchT_symm ht)]
  simp [hne]
theorem TOk.go_up (T : TOk ns cs lv) {u i : Nat} {ov : Int} (hu : u < ns.length) (hl : 0 < lv.getD u 0) (hp : parV cs lv u = (i : Int)) (hne : (i : Int) ≠ ov) : i < cs.length ∧ goB cs lv u ov i = true ∧ othN cs u i = pnT cs lv u := by
  obtain ⟨j, hj, hpj, ht, _, _⟩ := T.up hu hl
  obtain rfl : j = i := by omega
  refine ⟨hj, ?_, oth_of ht⟩
  unfold goB
  rw [hp, touch_end ht]
  simp [hne]
theorem TOk.go_cases (T : TOk ns cs lv) {u i : Nat} {ov : Int} (hu : u < ns.length) (hi : i < cs.length) (h : goB cs lv u ov i = true) :
    (i : Int) ≠ ov ∧ ((parV cs lv u = (i : Int) ∧ 0 < lv.getD u 0 ∧ othN cs u i = pnT cs lv u) ∨ (othN cs u i < ns.length ∧ 0 < lv.getD (othN cs u i) 0 ∧ parV cs lv (othN cs u i) = (i : Int) ∧ pnT cs lv (othN cs u i) = u)) := by
  obtain ⟨h1, ht, hvn, hp⟩ := goB_inv T.hv hi h
  have hm : cs.getD i cb0 ∈ cs := by simp [List.getD, hi]
  refine ⟨h1, ?_⟩
  rcases hp with hp | hp
  · exact .inl ⟨hp, (par_level hp ht (valid_abT T.hv _ hm)).1, (pn_of hp ht).symm⟩
  · exact .inr ⟨hvn, (par_level hp (touchT_symm ht) (valid_abT T.hv _ hm)).1, hp, pn_of hp (touchT_symm ht)⟩
/-- A cable is the parent's cable of one node at most. -/
theorem TOk.par_inj (T : TOk ns cs lv) {c d i : Nat} (hc : c < ns.length) (hd : d < ns.length) (h1 : parV cs lv c = (i : Int)) (h2 : parV cs lv d = (i : Int)) : c = d := by
  have lc : 0 < lv.getD c 0 := by
    rcases Int.lt_or_le 0 (lv.getD c 0) with h | h
    · exact h
    · have := parV_none (cs := cs) h; omega
  have ld : 0 < lv.getD d 0 := by
    rcases Int.lt_or_le 0 (lv.getD d 0) with h | h
    · exact h
    · have := parV_none (cs := cs) h; omega
  obtain ⟨j, hj, hpj, ht, hn, hl⟩ := T.up hc lc
  obtain rfl : j = i := by omega
  obtain ⟨j', hj', hpj', ht', hn', hl'⟩ := T.up hd ld
  obtain rfl : j' = j := by omega
  generalize pnT cs lv c = x at *
  generalize pnT cs lv d = y at *
  rcases ht with ⟨q1, q2⟩ | ⟨q1, q2⟩ <;> rcases ht' with ⟨q3, q4⟩ | ⟨q3, q4⟩
  · omega
  · have e1 : c = y := by omega
    have e2 : d = x := by omega
    subst e1; subst e2; omega
  · have e1 : c = y := by omega
    have e2 : d = x := by omega
    subst e1; subst e2; omega
  · omega
theorem mem_outT {W : Nat → Bool} {f u : Nat} {ov : Int} {x : Nat × Int} : x ∈ outT cs lv W (f + 1) u ov ↔ ∃ i : Nat, i < cs.length ∧ goB cs lv u ov i = true ∧ (x ∈ outT cs lv W f (othN cs u i) (i : Int) ∨ (needT cs lv W f (othN cs u i) (i : Int) = true ∧ x = (u, (i : Int)))) := by
  rw [outT, List.mem_flatMap]
  constructor
  · rintro ⟨i, hi, hx⟩
    split at hx
    · rename_i hg
      refine ⟨i, List.mem_range.1 hi, hg, ?_⟩
      rcases List.mem_append.1 hx with h | h
      · exact .inl h
      · split at h
        · rename_i hn
          exact .inr ⟨hn, List.mem_singleton.1 h⟩
        · cases h
    · cases hx
  · rintro ⟨i, hi, hg, hx⟩
    refine ⟨i, List.mem_range.2 hi, ?_⟩
    rw [if_pos hg]
    rcases hx with h | ⟨hn, h⟩
    · exact List.mem_append_left _ h
    · rw [if_pos hn]
      exact List.mem_append_right _ (List.mem_singleton.2 h)
theorem mem_needT {W : Nat → Bool} {f u : Nat} {ov : Int} : needT cs lv W (f + 1) u ov = true ↔ W u = true ∨ ∃ i : Nat, i < cs.length ∧ goB cs lv u ov i = true ∧ needT cs lv W f (othN cs u i) (i : Int) = true := by
  rw [needT, Bool.or_eq_true, List.any_eq_true]
  simp only [List.mem_range, Bool.and_eq_true]
/-- A wanted node is below. -/
def wbT (cs : List Cb) (lv : List Int) (W : Nat → Bool) (c : Nat) : Prop := ∃ m, W m = true ∧ belowT cs lv c m
theorem TOk.down (T : TOk ns cs lv) {W : Nat → Bool} (hW : ∀ m, W m = true → m < ns.length ∧ 0 ≤ lv.getD m 0) (f : Nat) : ∀ u, u < ns.length → 0 ≤ lv.getD u 0 → FitsT cs lv f u (parV cs lv u) →
    (needT cs lv W f u (parV cs lv u) = true ↔ wbT cs lv W u) ∧
    ∀ a i, (a, i) ∈ outT cs lv W f u (parV cs lv u) ↔ belowT cs lv u a ∧ ∃ c, c < ns.length ∧ 0 < lv.getD c 0 ∧ parV cs lv c = i ∧ pnT cs lv c = a ∧ wbT cs lv W c := by
  induction f with
  | zero => intro u _ _ h; cases h
  | succ f ih =>
    intro u hu h0 hf
    have G : ∀ i, i < cs.length → goB cs lv u (parV cs lv u) i = true → ∃ c, othN cs u i = c ∧ c < ns.length ∧ 0 < lv.getD c 0 ∧ parV cs lv c = (i : Int) ∧ pnT cs lv c = u ∧ (needT cs lv W f c (i : Int) = true ↔ wbT cs lv W c) ∧
        ∀ a j, (a, j) ∈ outT cs lv W f c (i : Int) ↔ belowT cs lv c a ∧ ∃ d, d < ns.length ∧ 0 < lv.getD d 0 ∧ parV cs lv d = j ∧ pnT cs lv d = a ∧ wbT cs lv W d := by
      intro i hi hg
      obtain ⟨hne, hc⟩ := T.go_cases hu hi hg
      rcases hc with ⟨hp, _⟩ | ⟨hcn, hcl, hp, hpu⟩
      · exact absurd hp.symm hne
      · have hf' := hf i hi hg
        rw [← hp] at hf'
        obtain ⟨i1, i2⟩ := ih (othN cs u i) hcn (by omega) hf'
        rw [hp] at i1 i2
        exact ⟨othN cs u i, rfl, hcn, hcl, hp, hpu, i1, i2⟩
    have K : ∀ c, c < ns.length → 0 < lv.getD c 0 → pnT cs lv c = u → ∃ i : Nat, i < cs.length ∧ parV cs lv c = (i : Int) ∧ goB cs lv u (parV cs lv u) i = true ∧ othN cs u i = c := by
      intro c hc hcl hpu
      obtain ⟨i, hi, hp, ht, hpn, hpl⟩ := T.up hc hcl
      have hne : (i : Int) ≠ parV cs lv u := by
        intro e
        have := T.par_inj hc hu hp e.symm
        subst this
        rw [hpu] at hpl
        omega
      obtain ⟨_, h2, h3⟩ := T.go_child hc hcl hp hne
      rw [hpu] at h2 h3
      exact ⟨i, hi, hp, h2, h3⟩
    constructor
    · rw [mem_needT]
      constructor
      · rintro (h | ⟨i, hi, hg, hn⟩)
        · exact ⟨u, h, below_self u⟩
        · obtain ⟨c, e, hcn, hcl, hp, hpu, i1, _⟩ := G i hi hg
          rw [e] at hn
          obtain ⟨m, hm, hb⟩ := i1.1 hn
          exact ⟨m, hm, by rw [← hpu]; exact T.bup hcn hcl (hW m hm).1 (hW m hm).2 hb⟩
      · rintro ⟨m, hm, hb⟩
        by_cases e : u = m
        · subst e; exact .inl hm
        · obtain ⟨c, hc, hcl, hpu, hbc⟩ := T.bchild (hW m hm).1 (hW m hm).2 hb e
          obtain ⟨i, hi, hp, hg, ho⟩ := K c hc hcl hpu
          obtain ⟨c', e', _, _, _, _, i1, _⟩ := G i hi hg
          have ec : c' = c := by rw [← e', ho]
          subst ec
          exact .inr ⟨i, hi, hg, by rw [ho]; exact i1.2 ⟨m, hm, hbc⟩⟩
    · intro a j
      rw [mem_outT]
      constructor
      · rintro ⟨i, hi, hg, hx⟩
        obtain ⟨c, e, hcn, hcl, hp, hpu, i1, i2⟩ := G i hi hg
        rw [e] at hx
        rcases hx with h | ⟨h, h2⟩
        · obtain ⟨hb, d, hd, hdl, hdp, hda, hdw⟩ := (i2 a j).1 h
          have ha : a < ns.length ∧ 0 ≤ lv.getD a 0 := by
            obtain ⟨_, _, _, _, q1, q2⟩ := T.up hd hdl
            rw [hda] at q1 q2
            exact ⟨q1, by omega⟩
          exact ⟨by rw [← hpu]; exact T.bup hcn hcl ha.1 ha.2 hb, d, hd, hdl, hdp, hda, hdw⟩
        · injection h2 with h3 h4
          subst h3; subst h4
          exact ⟨below_self _, c, hcn, hcl, hp, hpu, i1.1 h⟩
      · rintro ⟨hb, d, hd, hdl, hdp, hda, hdw⟩
        have ha : a < ns.length ∧ 0 ≤ lv.getD a 0 := by
          obtain ⟨_, _, _, _, q1, q2⟩ := T.up hd hdl
          rw [hda] at q1 q2
          exact ⟨q1, by omega⟩
        by_cases e : u = a
        · subst e
          obtain ⟨i, hi, hp, hg, ho⟩ := K d hd hdl hda
          obtain ⟨c', e', _, _, _, _, i1, _⟩ := G i hi hg
          have ec : c' = d := by rw [← e', ho]
          subst ec
          refine ⟨i, hi, hg, .inr ⟨by rw [ho]; exact i1.2 hdw, ?_⟩⟩
          rw [← hdp, hp]
        · obtain ⟨c, hc, hcl, hpu, hbc⟩ := T.bchild ha.1 ha.2 hb e
          obtain ⟨i, hi, hp, hg, ho⟩ := K c hc hcl hpu
          obtain ⟨c', e', _, _, _, _, _, i2⟩ := G i hi hg
          have ec : c' = c := by rw [← e', ho]
          subst ec
          refine ⟨i, hi, hg, .inl ?_⟩
          rw [ho]
          exact (i2 a j).2 ⟨hbc, d, hd, hdl, hdp, hda, hdw⟩
end
end Go.Proofs.Ytljojgpjgjfddaa
