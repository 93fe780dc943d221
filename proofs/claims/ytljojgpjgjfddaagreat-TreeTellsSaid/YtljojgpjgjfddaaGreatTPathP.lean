/- Several texts in one: TPlain, TStep, TForm, TForm2, TPathP. -/
import Derived.Test.YtljojgpjgjfddaaGreatCOrder

/- The tree that tree.Make finds, in plain Lean: parents, where the search goes, what is needed, which cables it takes down; and that it ends. No program in sight. -/
namespace Go.Proofs.YtljojgpjgjfddaaGreat
open Go.RowKit Go.Maps
set_option linter.unusedVariables false
set_option linter.unusedSimpArgs false

def touchT (x : Cb) (j k : Nat) : Prop := (x.a = j ∧ x.b = k) ∨ (x.b = j ∧ x.a = k)
/-- The other end of a cable, as tree.other computes it. -/
def othZ (x : Cb) (u : Int) : Int := x.a + x.b - u
def othN (cs : List Cb) (u i : Nat) : Nat := (othZ (cs.getD i cb0) (u : Int)).toNat
def endT (x : Cb) (u : Int) : Bool := x.a == u || x.b == u
/-- Cable x leads from node v one level up. -/
def pOk (lv : List Int) (v : Nat) (x : Cb) : Bool :=
  decide (0 < lv.getD v 0) && ((x.a == (v : Int) && lvAt lv x.b == lv.getD v 0 - 1) || (x.b == (v : Int) && lvAt lv x.a == lv.getD v 0 - 1))
def parV (cs : List Cb) (lv : List Int) (v : Nat) : Int := match (List.range cs.length).find? (fun i => pOk lv v (cs.getD i cb0)) with
  | some i => (i : Int)
  | none => -1
theorem parV_spec {cs : List Cb} {lv : List Int} {v : Nat} {i : Nat} (h : parV cs lv v = (i : Int)) : i < cs.length ∧ pOk lv v (cs.getD i cb0) = true := by
  unfold parV at h
  cases hf : (List.range cs.length).find? (fun i => pOk lv v (cs.getD i cb0)) with
  | none => rw [hf] at h; simp at h
  | some j =>
    rw [hf] at h
    simp only at h
    obtain rfl : j = i := by omega
    exact ⟨List.mem_range.1 (List.mem_of_find?_eq_some hf), by have := List.find?_some (p := fun i => pOk lv v (cs.getD i cb0)) hf; exact this⟩
/-- The search goes from u, where it came over ov, over cable i. -/
def goB (cs : List Cb) (lv : List Int) (u : Nat) (ov : Int) (i : Nat) : Bool :=
  decide ((i : Int) ≠ ov) && endT (cs.getD i cb0) (u : Int) && (parV cs lv u == (i : Int) || parV cs lv (othN cs u i) == (i : Int))
def needT (cs : List Cb) (lv : List Int) (W : Nat → Bool) : Nat → Nat → Int → Bool
  | 0, _, _ => false
  | f + 1, u, ov => W u || (List.range cs.length).any fun i => goB cs lv u ov i && needT cs lv W f (othN cs u i) (i : Int)
def outT (cs : List Cb) (lv : List Int) (W : Nat → Bool) : Nat → Nat → Int → List (Nat × Int)
  | 0, _, _ => []
  | f + 1, u, ov => (List.range cs.length).flatMap fun i =>
      if goB cs lv u ov i = true then outT cs lv W f (othN cs u i) (i : Int) ++ (if needT cs lv W f (othN cs u i) (i : Int) = true then [(u, (i : Int))] else []) else []
def outAt (L : List (Nat × Int)) (u : Nat) : List Int := (L.filter fun x => x.1 == u).map (·.2)
/-- The search from u ends within f steps. -/
def FitsT (cs : List Cb) (lv : List Int) : Nat → Nat → Int → Prop
  | 0, _, _ => False
  | f + 1, u, ov => ∀ i, i < cs.length → goB cs lv u ov i = true → FitsT cs lv f (othN cs u i) (i : Int)
section
variable {ns : List Nd} {cs : List Cb} {lv : List Int}
theorem FitsT.more {f : Nat} : ∀ {u : Nat} {ov : Int}, FitsT cs lv f u ov → ∀ g, f ≤ g → FitsT cs lv g u ov := by
  induction f with
  | zero => intro u ov h; cases h
  | succ f ih =>
    intro u ov h g hg
    obtain ⟨g, rfl⟩ : ∃ k, g = k + 1 := ⟨g - 1, by omega⟩
    exact fun i hi hgo => ih (h i hi hgo) g (by omega)
theorem oth_touch {x : Cb} {u : Nat} (h : endT x (u : Int) = true) (a0 : 0 ≤ x.a) (b0 : 0 ≤ x.b) : ∃ v : Nat, othZ x (u : Int) = v ∧ touchT x u v := by
  unfold endT at h
  simp only [Bool.or_eq_true, beq_iff_eq] at h
  unfold othZ
  rcases h with h | h
  · exact ⟨x.b.toNat, by omega, .inl ⟨h, by omega⟩⟩
  · exact ⟨x.a.toNat, by omega, .inr ⟨h, by omega⟩⟩
theorem goB_inv (hv : validP ⟨ns, cs⟩ = 0) {u i : Nat} {ov : Int} (hi : i < cs.length) (h : goB cs lv u ov i = true) :
    (i : Int) ≠ ov ∧ touchT (cs.getD i cb0) u (othN cs u i) ∧ othN cs u i < ns.length ∧ (parV cs lv u = i ∨ parV cs lv (othN cs u i) = i) := by
  unfold goB at h
  simp only [Bool.and_eq_true, decide_eq_true_eq, Bool.or_eq_true, beq_iff_eq] at h
  have hm : cs.getD i cb0 ∈ cs := by simp [List.getD, hi]
  obtain ⟨⟨a0, a1⟩, b0, b1⟩ := cab_node hv hm
  obtain ⟨v, e, ht⟩ := oth_touch h.1.2 a0 b0
  have e2 : othN cs u i = v := by unfold othN; rw [e]; simp
  rw [e2]
  rw [e2] at h
  refine ⟨h.1.1, ht, ?_, h.2⟩
  rcases ht with ⟨_, h2⟩ | ⟨_, h2⟩ <;> omega
/-- A parent's cable leads one level up. -/
theorem par_level {v u i : Nat} (h : parV cs lv v = (i : Int)) (ht : touchT (cs.getD i cb0) v u) (hne : (cs.getD i cb0).a ≠ (cs.getD i cb0).b) : 0 < lv.getD v 0 ∧ lv.getD u 0 = lv.getD v 0 - 1 := by
  obtain ⟨_, hp⟩ := parV_spec h
  unfold pOk lvAt at hp
  simp only [Bool.and_eq_true, decide_eq_true_eq, Bool.or_eq_true, beq_iff_eq] at hp
  refine ⟨hp.1, ?_⟩
  rcases ht with ⟨h1, h2⟩ | ⟨h1, h2⟩
  · rcases hp.2 with ⟨q1, q2⟩ | ⟨q1, q2⟩
    · rw [h2, Int.toNat_natCast] at q2; exact q2
    · exact absurd (h1.trans q1.symm) hne
  · rcases hp.2 with ⟨q1, q2⟩ | ⟨q1, q2⟩
    · exact absurd (q1.trans h1.symm) hne
    · rw [h2, Int.toNat_natCast] at q2; exact q2
theorem touchT_symm {x : Cb} {j k : Nat} (h : touchT x j k) : touchT x k j := by
  rcases h with ⟨h1, h2⟩ | ⟨h1, h2⟩
  · exact .inr ⟨h2, h1⟩
  · exact .inl ⟨h2, h1⟩
/-- Downward: behind its parent's cable a node has only deeper ones. -/
theorem fits_down (hv : validP ⟨ns, cs⟩ = 0) (hab : ∀ y ∈ cs, y.a ≠ y.b) (hlt : ∀ j, j < ns.length → lv.getD j 0 < ns.length) (k : Nat) : ∀ u, u < ns.length → 0 ≤ lv.getD u 0 → (ns.length : Int) - lv.getD u 0 ≤ k → FitsT cs lv k u (parV cs lv u) := by
  induction k with
  | zero => intro u hu h0 hk; have := hlt u hu; omega
  | succ k ih =>
    intro u hu h0 hk i hi hgo
    have hm : cs.getD i cb0 ∈ cs := by simp [List.getD, hi]
    obtain ⟨hne, ht, hvn, hp⟩ := goB_inv hv hi hgo
    rcases hp with hp | hp
    · exact absurd hp.symm hne
    · obtain ⟨l1, l2⟩ := par_level hp (touchT_symm ht) (hab _ hm)
      have := ih (othN cs u i) hvn (by omega) (by omega)
      rw [hp] at this
      exact this
theorem fits_any_ov (hv : validP ⟨ns, cs⟩ = 0) (hab : ∀ y ∈ cs, y.a ≠ y.b) (hlt : ∀ j, j < ns.length → lv.getD j 0 < ns.length) (k : Nat) : ∀ u ov, u < ns.length → lv.getD u 0 ≤ k → FitsT cs lv (ns.length + k + 2) u ov := by
  induction k with
  | zero =>
    intro u ov hu hk i hi hgo
    have hm : cs.getD i cb0 ∈ cs := by simp [List.getD, hi]
    obtain ⟨hne, ht, hvn, hp⟩ := goB_inv hv hi hgo
    rcases hp with hp | hp
    · have := (par_level hp ht (hab _ hm)).1; omega
    · obtain ⟨l1, l2⟩ := par_level hp (touchT_symm ht) (hab _ hm)
      have h2 := fits_down hv hab hlt ns.length (othN cs u i) hvn (by omega) (by omega)
      rw [hp] at h2
      exact h2.more _ (by omega)
  | succ k ih =>
    intro u ov hu hk i hi hgo
    have hm : cs.getD i cb0 ∈ cs := by simp [List.getD, hi]
    obtain ⟨hne, ht, hvn, hp⟩ := goB_inv hv hi hgo
    rcases hp with hp | hp
    · have := (par_level hp ht (hab _ hm)).2
      exact (ih (othN cs u i) i hvn (by omega)).more _ (by omega)
    · obtain ⟨l1, l2⟩ := par_level hp (touchT_symm ht) (hab _ hm)
      have h2 := fits_down hv hab hlt ns.length (othN cs u i) hvn (by omega) (by omega)
      rw [hp] at h2
      exact h2.more _ (by omega)
/-- More wanted nodes: nothing falls away. -/
theorem needT_mono {W W' : Nat → Bool} (h : ∀ v, W v = true → W' v = true) (f : Nat) : ∀ u ov, needT cs lv W f u ov = true → needT cs lv W' f u ov = true := by
  induction f with
  | zero => intro u ov hn; cases hn
  | succ f ih =>
    intro u ov hn
    unfold needT at hn ⊢
    rw [Bool.or_eq_true] at hn ⊢
    rcases hn with hn | hn
    · exact .inl (h u hn)
    · right
      rw [List.any_eq_true] at hn ⊢
      obtain ⟨i, hi, hx⟩ := hn
      rw [Bool.and_eq_true] at hx
      exact ⟨i, hi, by rw [Bool.and_eq_true]; exact ⟨hx.1, ih _ _ hx.2⟩⟩
theorem outT_mono {W W' : Nat → Bool} (h : ∀ v, W v = true → W' v = true) (f : Nat) : ∀ u ov x, x ∈ outT cs lv W f u ov → x ∈ outT cs lv W' f u ov := by
  induction f with
  | zero => intro u ov x hx; cases hx
  | succ f ih =>
    intro u ov x hx
    unfold outT at hx ⊢
    rw [List.mem_flatMap] at hx ⊢
    obtain ⟨i, hi, hx⟩ := hx
    refine ⟨i, hi, ?_⟩
    split at hx
    · rename_i hg
      rw [if_pos hg]
      rcases List.mem_append.1 hx with hx | hx
      · exact List.mem_append_left _ (ih _ _ x hx)
      · split at hx
        · rename_i hn
          rw [if_pos (needT_mono h f _ _ hn)]
          exact List.mem_append_right _ hx
        · cases hx
    · cases hx
theorem outAt_mem {L : List (Nat × Int)} {u : Nat} {c : Int} : c ∈ outAt L u ↔ (u, c) ∈ L := by
  unfold outAt
  rw [List.mem_map]
  constructor
  · rintro ⟨⟨a, b⟩, hx, rfl⟩
    obtain ⟨h1, h2⟩ := List.mem_filter.1 hx
    have : a = u := by simpa using h2
    rw [← this]; exact h1
  · intro h
    exact ⟨(u, c), List.mem_filter.2 ⟨h, by simp⟩, rfl⟩
end
end Go.Proofs.YtljojgpjgjfddaaGreat

/- The search of tree.Make cable by cable: what is needed and taken down after the first k cables. No program in sight. -/
namespace Go.Proofs.YtljojgpjgjfddaaGreat
open Go.RowKit Go.Maps
set_option linter.unusedVariables false
set_option linter.unusedSimpArgs false

def needK (cs : List Cb) (lv : List Int) (W : Nat → Bool) (f u : Nat) (ov : Int) (k : Nat) : Bool := W u || (List.range k).any fun i => goB cs lv u ov i && needT cs lv W f (othN cs u i) (i : Int)
def outS (cs : List Cb) (lv : List Int) (W : Nat → Bool) (f u : Nat) (ov : Int) (i : Nat) : List (Nat × Int) :=
  if goB cs lv u ov i = true then outT cs lv W f (othN cs u i) (i : Int) ++ (if needT cs lv W f (othN cs u i) (i : Int) = true then [(u, (i : Int))] else []) else []
def outK (cs : List Cb) (lv : List Int) (W : Nat → Bool) (f u : Nat) (ov : Int) (k : Nat) : List (Nat × Int) := (List.range k).flatMap (outS cs lv W f u ov)
section
variable (cs : List Cb) (lv : List Int) (W : Nat → Bool) (f u : Nat) (ov : Int)
theorem needK_zero : needK cs lv W f u ov 0 = W u := by simp [needK]
theorem needK_succ (k : Nat) : needK cs lv W f u ov (k + 1) = (needK cs lv W f u ov k || (goB cs lv u ov k && needT cs lv W f (othN cs u k) (k : Int))) := by
  unfold needK; rw [List.range_succ, List.any_append]; simp [Bool.or_assoc]
theorem needK_all : needT cs lv W (f + 1) u ov = needK cs lv W f u ov cs.length := by rw [needT, needK]
theorem outK_zero : outK cs lv W f u ov 0 = [] := by simp [outK]
theorem outK_succ (k : Nat) : outK cs lv W f u ov (k + 1) = outK cs lv W f u ov k ++ outS cs lv W f u ov k := by
  unfold outK; rw [List.range_succ, List.flatMap_append]; simp
theorem outK_all : outT cs lv W (f + 1) u ov = outK cs lv W f u ov cs.length := by rw [outT, outK]; rfl
theorem outK_more {k m : Nat} (h : k ≤ m) : ∃ R, outK cs lv W f u ov m = outK cs lv W f u ov k ++ R := by
  obtain ⟨d, rfl⟩ := Nat.exists_eq_add_of_le h
  induction d with
  | zero => exact ⟨[], by simp⟩
  | succ d ih =>
    obtain ⟨R, hR⟩ := ih (by omega)
    exact ⟨R ++ outS cs lv W f u ov (k + d), by rw [← Nat.add_assoc, outK_succ, hR, List.append_assoc]⟩
theorem outS_skip {k : Nat} (h : goB cs lv u ov k = false) : outS cs lv W f u ov k = [] := by unfold outS; rw [h]; rfl
theorem outS_no {k : Nat} (h : goB cs lv u ov k = true) (h2 : needT cs lv W f (othN cs u k) (k : Int) = false) : outS cs lv W f u ov k = outT cs lv W f (othN cs u k) (k : Int) := by unfold outS; rw [h, h2]; simp
theorem outS_yes {k : Nat} (h : goB cs lv u ov k = true) (h2 : needT cs lv W f (othN cs u k) (k : Int) = true) : outS cs lv W f u ov k = outT cs lv W f (othN cs u k) (k : Int) ++ [(u, (k : Int))] := by unfold outS; rw [h, h2]; simp
end
theorem outAt_nil (a : Nat) : outAt [] a = [] := rfl
theorem outAt_append (A B : List (Nat × Int)) (a : Nat) : outAt (A ++ B) a = outAt A a ++ outAt B a := by unfold outAt; rw [List.filter_append, List.map_append]
theorem outK_len (cs : List Cb) (lv : List Int) (W : Nat → Bool) (f u : Nat) (ov : Int) {k : Nat} (h : k < cs.length) (a : Nat) :
    (outAt (outK cs lv W f u ov k) a).length + (outAt (outS cs lv W f u ov k) a).length ≤ (outAt (outT cs lv W (f + 1) u ov) a).length := by
  obtain ⟨R, hR⟩ := outK_more cs lv W f u ov (show k + 1 ≤ cs.length by omega)
  rw [outK_all, hR, outK_succ, outAt_append, outAt_append]
  simp only [List.length_append]
  omega
theorem outAt_same (u : Nat) (i : Int) : outAt [(u, i)] u = [i] := by simp [outAt]
theorem outAt_other {u a : Nat} (i : Int) (h : ¬ a = u) : outAt [(u, i)] a = [] := by
  have h2 : ¬ u = a := fun e => h e.symm
  simp [outAt, h2]
end Go.Proofs.YtljojgpjgjfddaaGreat

/- The tree of tree.Make in closed form: a cable lies in it exactly if it separates the source from a wanted node. No program in sight. -/
namespace Go.Proofs.YtljojgpjgjfddaaGreat
open Go.RowKit Go.Maps
set_option linter.unusedVariables false
set_option linter.unusedSimpArgs false

/-- The parent of a node. -/
def pnT (cs : List Cb) (lv : List Int) (v : Nat) : Nat := othN cs v (parV cs lv v).toNat
def chainF (cs : List Cb) (lv : List Int) : Nat → Nat → List Nat
  | 0, v => [v]
  | k + 1, v => v :: chainF cs lv k (pnT cs lv v)
/-- c is m or lies on m's way up to the root. -/
def belowT (cs : List Cb) (lv : List Int) (c m : Nat) : Prop := c ∈ chainF cs lv (lv.getD m 0).toNat m
structure TOk (ns : List Nd) (cs : List Cb) (lv : List Int) : Prop where
  hv : validP ⟨ns, cs⟩ = 0
  len : lv.length = ns.length
  lt : ∀ j, j < ns.length → -1 ≤ lv.getD j 0 ∧ lv.getD j 0 < ns.length
  par : ∀ v, v < ns.length → 0 < lv.getD v 0 → ∃ i : Nat, parV cs lv v = (i : Int)
  root : ∀ u v, u < ns.length → v < ns.length → lv.getD u 0 = 0 → lv.getD v 0 = 0 → u = v
theorem valid_abT {ns : List Nd} {cs : List Cb} (h : validP ⟨ns, cs⟩ = 0) : ∀ y ∈ cs, y.a ≠ y.b := by
  intro y hy
  have hp : (cs.all fun x => decide (x.a ≠ x.b)) = true := by
    cases hq : (cs.all fun x => decide (x.a ≠ x.b)) with
    | true => rfl
    | false =>
      unfold validP at h
      simp only [hq] at h
      split at h
      · cases h
      · split at h
        · cases h
        · split at h
          · cases h
          · split at h
            · cases h
            · cases h
  have h2 := List.all_eq_true.1 hp _ hy
  simpa using h2
section
variable {ns : List Nd} {cs : List Cb} {lv : List Int}
theorem oth_of {u v i : Nat} (ht : touchT (cs.getD i cb0) u v) : othN cs u i = v := by
  unfold othN othZ
  rcases ht with ⟨h1, h2⟩ | ⟨h1, h2⟩ <;> rw [h1, h2] <;> omega
theorem pn_of {u v i : Nat} (h : parV cs lv v = (i : Int)) (ht : touchT (cs.getD i cb0) v u) : pnT cs lv v = u := by
  unfold pnT; rw [h, Int.toNat_natCast]; exact oth_of ht
theorem touch_end {x : Cb} {u v : Nat} (h : touchT x u v) : endT x (u : Int) = true := by
  unfold endT
  rcases h with ⟨h1, _⟩ | ⟨h1, _⟩ <;> simp [h1]
theorem parV_none {v : Nat} (h : lv.getD v 0 ≤ 0) : parV cs lv v = -1 := by
  unfold parV
  have : (List.range cs.length).find? (fun i => pOk lv v (cs.getD i cb0)) = none := by
    rw [List.find?_eq_none]
    intro i _
    unfold pOk
    have : ¬ (0 < lv.getD v 0) := by omega
    rw [decide_eq_false this]
    simp
  rw [this]
theorem TOk.up (T : TOk ns cs lv) {v : Nat} (hv : v < ns.length) (h : 0 < lv.getD v 0) :
    ∃ i : Nat, i < cs.length ∧ parV cs lv v = (i : Int) ∧ touchT (cs.getD i cb0) v (pnT cs lv v) ∧ pnT cs lv v < ns.length ∧ lv.getD (pnT cs lv v) 0 = lv.getD v 0 - 1 := by
  obtain ⟨i, hi⟩ := T.par v hv h
  obtain ⟨hl, hp⟩ := parV_spec hi
  have hm : cs.getD i cb0 ∈ cs := by simp [List.getD, hl]
  obtain ⟨⟨a0, a1⟩, b0, b1⟩ := cab_node T.hv hm
  have he : endT (cs.getD i cb0) (v : Int) = true := by
    unfold pOk at hp
    simp only [Bool.and_eq_true, decide_eq_true_eq, Bool.or_eq_true, beq_iff_eq] at hp
    unfold endT
    simp only [Bool.or_eq_true, beq_iff_eq]
    rcases hp.2 with h1 | h1
    · exact .inl h1.1
    · exact .inr h1.1
  obtain ⟨u, _, ht⟩ := oth_touch he a0 b0
  have e := pn_of hi ht
  rw [e]
  refine ⟨i, hl, hi, ht, ?_, (par_level hi ht (valid_abT T.hv _ hm)).2⟩
  rcases ht with ⟨_, h2⟩ | ⟨_, h2⟩ <;> omega
theorem below_self (c : Nat) : belowT cs lv c c := by
  unfold belowT
  cases (lv.getD c 0).toNat <;> simp [chainF]
theorem TOk.below_cons (T : TOk ns cs lv) {m : Nat} (hm : m < ns.length) (h : 0 < lv.getD m 0) (c : Nat) : belowT cs lv c m ↔ c = m ∨ belowT cs lv c (pnT cs lv m) := by
  obtain ⟨_, _, _, _, _, hl⟩ := T.up hm h
  unfold belowT
  rw [hl, show (lv.getD m 0).toNat = (lv.getD m 0 - 1).toNat + 1 by omega, chainF, List.mem_cons]
theorem below_root {m c : Nat} (h : lv.getD m 0 ≤ 0) : belowT cs lv c m ↔ c = m := by
  unfold belowT
  rw [show (lv.getD m 0).toNat = 0 by omega, chainF, List.mem_singleton]
theorem TOk.below_lv (T : TOk ns cs lv) (k : Nat) : ∀ {m c : Nat}, (lv.getD m 0).toNat = k → m < ns.length → 0 ≤ lv.getD m 0 → belowT cs lv c m → c < ns.length ∧ 0 ≤ lv.getD c 0 ∧ lv.getD c 0 ≤ lv.getD m 0 ∧ (lv.getD c 0 = lv.getD m 0 → c = m) := by
  induction k with
  | zero =>
    intro m c hk hm h0 hb
    obtain rfl := (below_root (by omega)).1 hb
    exact ⟨hm, h0, Int.le_refl _, fun _ => rfl⟩
  | succ k ih =>
    intro m c hk hm h0 hb
    obtain ⟨_, _, _, _, hp, hl⟩ := T.up hm (by omega)
    rcases (T.below_cons hm (by omega) c).1 hb with rfl | hb
    · exact ⟨hm, h0, Int.le_refl _, fun _ => rfl⟩
    · obtain ⟨h1, h2, h3, h4⟩ := ih (by omega) hp (by omega) hb
      exact ⟨h1, h2, by omega, fun e => by omega⟩
theorem TOk.blv (T : TOk ns cs lv) {m c : Nat} (hm : m < ns.length) (h0 : 0 ≤ lv.getD m 0) (hb : belowT cs lv c m) : c < ns.length ∧ 0 ≤ lv.getD c 0 ∧ lv.getD c 0 ≤ lv.getD m 0 ∧ (lv.getD c 0 = lv.getD m 0 → c = m) := T.below_lv _ rfl hm h0 hb
/-- Two nodes on one way up: the higher one is above the other. -/
theorem TOk.below_comp (T : TOk ns cs lv) (k : Nat) : ∀ {m c d : Nat}, (lv.getD m 0).toNat = k → m < ns.length → 0 ≤ lv.getD m 0 → belowT cs lv c m → belowT cs lv d m → lv.getD c 0 ≤ lv.getD d 0 → belowT cs lv c d := by
  induction k with
  | zero =>
    intro m c d hk hm h0 hc hd _
    obtain rfl := (below_root (by omega)).1 hc
    obtain rfl := (below_root (by omega)).1 hd
    exact below_self _
  | succ k ih =>
    intro m c d hk hm h0 hc hd hle
    obtain ⟨_, _, _, _, hp, hl⟩ := T.up hm (by omega)
    have hc' := hc
    rcases (T.below_cons hm (by omega) d).1 hd with rfl | hd
    · exact hc
    · rcases (T.below_cons hm (by omega) c).1 hc with rfl | hc
      · have := (T.blv hp (by omega) hd).2.2.1; omega
      · exact ih (by omega) hp (by omega) hc hd hle
theorem TOk.bcomp (T : TOk ns cs lv) {m c d : Nat} (hm : m < ns.length) (h0 : 0 ≤ lv.getD m 0) (hc : belowT cs lv c m) (hd : belowT cs lv d m) (h : lv.getD c 0 ≤ lv.getD d 0) : belowT cs lv c d := T.below_comp _ rfl hm h0 hc hd h
theorem TOk.below_trans (T : TOk ns cs lv) (k : Nat) : ∀ {m c d : Nat}, (lv.getD m 0).toNat = k → m < ns.length → 0 ≤ lv.getD m 0 → belowT cs lv c d → belowT cs lv d m → belowT cs lv c m := by
  induction k with
  | zero =>
    intro m c d hk hm h0 hc hd
    obtain rfl := (below_root (by omega)).1 hd
    exact hc
  | succ k ih =>
    intro m c d hk hm h0 hc hd
    obtain ⟨_, _, _, _, hp, hl⟩ := T.up hm (by omega)
    rcases (T.below_cons hm (by omega) d).1 hd with rfl | hd
    · exact hc
    · exact (T.below_cons hm (by omega) c).2 (.inr (ih (by omega) hp (by omega) hc hd))
theorem TOk.btrans (T : TOk ns cs lv) {m c d : Nat} (hm : m < ns.length) (h0 : 0 ≤ lv.getD m 0) (hc : belowT cs lv c d) (hd : belowT cs lv d m) : belowT cs lv c m := T.below_trans _ rfl hm h0 hc hd
/-- Below a node, but not the node itself: below one of its children. -/
theorem TOk.below_child (T : TOk ns cs lv) (k : Nat) : ∀ {m u : Nat}, (lv.getD m 0).toNat = k → m < ns.length → 0 ≤ lv.getD m 0 → belowT cs lv u m → u ≠ m → ∃ c, c < ns.length ∧ 0 < lv.getD c 0 ∧ pnT cs lv c = u ∧ belowT cs lv c m := by
  induction k with
  | zero =>
    intro m u hk hm h0 hb hne
    exact absurd ((below_root (by omega)).1 hb) hne
  | succ k ih =>
    intro m u hk hm h0 hb hne
    obtain ⟨_, _, _, _, hp, hl⟩ := T.up hm (by omega)
    rcases (T.below_cons hm (by omega) u).1 hb with rfl | hb
    · exact absurd rfl hne
    · by_cases e : u = pnT cs lv m
      · exact ⟨m, hm, by omega, e.symm, below_self m⟩
      · obtain ⟨c, h1, h2, h3, h4⟩ := ih (by omega) hp (by omega) hb e
        exact ⟨c, h1, h2, h3, (T.below_cons hm (by omega) c).2 (.inr h4)⟩
theorem TOk.bchild (T : TOk ns cs lv) {m u : Nat} (hm : m < ns.length) (h0 : 0 ≤ lv.getD m 0) (hb : belowT cs lv u m) (hne : u ≠ m) : ∃ c, c < ns.length ∧ 0 < lv.getD c 0 ∧ pnT cs lv c = u ∧ belowT cs lv c m := T.below_child _ rfl hm h0 hb hne
/-- A node's child: what is below it is below the node. -/
theorem TOk.bup (T : TOk ns cs lv) {m c : Nat} (hc : c < ns.length) (hl : 0 < lv.getD c 0) (hm : m < ns.length) (h0 : 0 ≤ lv.getD m 0) (hb : belowT cs lv c m) : belowT cs lv (pnT cs lv c) m :=
  T.btrans hm h0 ((T.below_cons hc hl _).2 (.inr (below_self _))) hb
/-- All nodes with a level are below the root. -/
theorem TOk.broot (T : TOk ns cs lv) (k : Nat) : ∀ {m r : Nat}, (lv.getD m 0).toNat = k → r < ns.length → lv.getD r 0 = 0 → m < ns.length → 0 ≤ lv.getD m 0 → belowT cs lv r m := by
  induction k with
  | zero => intro m r hk hr hr0 hm h0; rw [T.root r m hr hm hr0 (by omega)]; exact below_self _
  | succ k ih =>
    intro m r hk hr hr0 hm h0
    obtain ⟨_, _, _, _, hp, hl⟩ := T.up hm (by omega)
    exact (T.below_cons hm (by omega) r).2 (.inr (ih (by omega) hr hr0 hp (by omega)))
theorem TOk.go_child (T : TOk ns cs lv) {c i : Nat} {ov : Int} (hc : c < ns.length) (hl : 0 < lv.getD c 0) (hp : parV cs lv c = (i : Int)) (hne : (i : Int) ≠ ov) : i < cs.length ∧ goB cs lv (pnT cs lv c) ov i = true ∧ othN cs (pnT cs lv c) i = c := by
  obtain ⟨j, hj, hpj, ht, _, _⟩ := T.up hc hl
  obtain rfl : j = i := by omega
  have e := oth_of (touchT_symm ht)
  refine ⟨hj, ?_, e⟩
  unfold goB
  rw [e, hp, touch_end (touchT_symm ht)]
  simp [hne]
theorem TOk.go_up (T : TOk ns cs lv) {u i : Nat} {ov : Int} (hu : u < ns.length) (hl : 0 < lv.getD u 0) (hp : parV cs lv u = (i : Int)) (hne : (i : Int) ≠ ov) : i < cs.length ∧ goB cs lv u ov i = true ∧ othN cs u i = pnT cs lv u := by
  obtain ⟨j, hj, hpj, ht, _, _⟩ := T.up hu hl
  obtain rfl : j = i := by omega
  refine ⟨hj, ?_, oth_of ht⟩
  unfold goB
  rw [hp, touch_end ht]
  simp [hne]
theorem TOk.go_cases (T : TOk ns cs lv) {u i : Nat} {ov : Int} (hu : u < ns.length) (hi : i < cs.length) (h : goB cs lv u ov i = true) :
    (i : Int) ≠ ov ∧ ((parV cs lv u = (i : Int) ∧ 0 < lv.getD u 0 ∧ othN cs u i = pnT cs lv u) ∨ (othN cs u i < ns.length ∧ 0 < lv.getD (othN cs u i) 0 ∧ parV cs lv (othN cs u i) = (i : Int) ∧ pnT cs lv (othN cs u i) = u)) := by
  obtain ⟨h1, ht, hvn, hp⟩ := goB_inv T.hv hi h
  have hm : cs.getD i cb0 ∈ cs := by simp [List.getD, hi]
  refine ⟨h1, ?_⟩
  rcases hp with hp | hp
  · exact .inl ⟨hp, (par_level hp ht (valid_abT T.hv _ hm)).1, (pn_of hp ht).symm⟩
  · exact .inr ⟨hvn, (par_level hp (touchT_symm ht) (valid_abT T.hv _ hm)).1, hp, pn_of hp (touchT_symm ht)⟩
/-- A cable is the parent's cable of one node at most. -/
theorem TOk.par_inj (T : TOk ns cs lv) {c d i : Nat} (hc : c < ns.length) (hd : d < ns.length) (h1 : parV cs lv c = (i : Int)) (h2 : parV cs lv d = (i : Int)) : c = d := by
  have lc : 0 < lv.getD c 0 := by
    rcases Int.lt_or_le 0 (lv.getD c 0) with h | h
    · exact h
    · have := parV_none (cs := cs) h; omega
  have ld : 0 < lv.getD d 0 := by
    rcases Int.lt_or_le 0 (lv.getD d 0) with h | h
    · exact h
    · have := parV_none (cs := cs) h; omega
  obtain ⟨j, hj, hpj, ht, hn, hl⟩ := T.up hc lc
  obtain rfl : j = i := by omega
  obtain ⟨j', hj', hpj', ht', hn', hl'⟩ := T.up hd ld
  obtain rfl : j' = j := by omega
  generalize pnT cs lv c = x at *
  generalize pnT cs lv d = y at *
  rcases ht with ⟨q1, q2⟩ | ⟨q1, q2⟩ <;> rcases ht' with ⟨q3, q4⟩ | ⟨q3, q4⟩
  · omega
  · have e1 : c = y := by omega
    have e2 : d = x := by omega
    subst e1; subst e2; omega
  · have e1 : c = y := by omega
    have e2 : d = x := by omega
    subst e1; subst e2; omega
  · omega
theorem mem_outT {W : Nat → Bool} {f u : Nat} {ov : Int} {x : Nat × Int} : x ∈ outT cs lv W (f + 1) u ov ↔ ∃ i : Nat, i < cs.length ∧ goB cs lv u ov i = true ∧ (x ∈ outT cs lv W f (othN cs u i) (i : Int) ∨ (needT cs lv W f (othN cs u i) (i : Int) = true ∧ x = (u, (i : Int)))) := by
  rw [outT, List.mem_flatMap]
  constructor
  · rintro ⟨i, hi, hx⟩
    split at hx
    · rename_i hg
      refine ⟨i, List.mem_range.1 hi, hg, ?_⟩
      rcases List.mem_append.1 hx with h | h
      · exact .inl h
      · split at h
        · rename_i hn
          exact .inr ⟨hn, List.mem_singleton.1 h⟩
        · cases h
    · cases hx
  · rintro ⟨i, hi, hg, hx⟩
    refine ⟨i, List.mem_range.2 hi, ?_⟩
    rw [if_pos hg]
    rcases hx with h | ⟨hn, h⟩
    · exact List.mem_append_left _ h
    · rw [if_pos hn]
      exact List.mem_append_right _ (List.mem_singleton.2 h)
theorem mem_needT {W : Nat → Bool} {f u : Nat} {ov : Int} : needT cs lv W (f + 1) u ov = true ↔ W u = true ∨ ∃ i : Nat, i < cs.length ∧ goB cs lv u ov i = true ∧ needT cs lv W f (othN cs u i) (i : Int) = true := by
  rw [needT, Bool.or_eq_true, List.any_eq_true]
  simp only [List.mem_range, Bool.and_eq_true]
/-- A wanted node is below. -/
def wbT (cs : List Cb) (lv : List Int) (W : Nat → Bool) (c : Nat) : Prop := ∃ m, W m = true ∧ belowT cs lv c m
theorem TOk.down (T : TOk ns cs lv) {W : Nat → Bool} (hW : ∀ m, W m = true → m < ns.length ∧ 0 ≤ lv.getD m 0) (f : Nat) : ∀ u, u < ns.length → 0 ≤ lv.getD u 0 → FitsT cs lv f u (parV cs lv u) →
    (needT cs lv W f u (parV cs lv u) = true ↔ wbT cs lv W u) ∧
    ∀ a i, (a, i) ∈ outT cs lv W f u (parV cs lv u) ↔ belowT cs lv u a ∧ ∃ c, c < ns.length ∧ 0 < lv.getD c 0 ∧ parV cs lv c = i ∧ pnT cs lv c = a ∧ wbT cs lv W c := by
  induction f with
  | zero => intro u _ _ h; cases h
  | succ f ih =>
    intro u hu h0 hf
    have G : ∀ i, i < cs.length → goB cs lv u (parV cs lv u) i = true → ∃ c, othN cs u i = c ∧ c < ns.length ∧ 0 < lv.getD c 0 ∧ parV cs lv c = (i : Int) ∧ pnT cs lv c = u ∧ (needT cs lv W f c (i : Int) = true ↔ wbT cs lv W c) ∧
        ∀ a j, (a, j) ∈ outT cs lv W f c (i : Int) ↔ belowT cs lv c a ∧ ∃ d, d < ns.length ∧ 0 < lv.getD d 0 ∧ parV cs lv d = j ∧ pnT cs lv d = a ∧ wbT cs lv W d := by
      intro i hi hg
      obtain ⟨hne, hc⟩ := T.go_cases hu hi hg
      rcases hc with ⟨hp, _⟩ | ⟨hcn, hcl, hp, hpu⟩
      · exact absurd hp.symm hne
      · have hf' := hf i hi hg
        rw [← hp] at hf'
        obtain ⟨i1, i2⟩ := ih (othN cs u i) hcn (by omega) hf'
        rw [hp] at i1 i2
        exact ⟨othN cs u i, rfl, hcn, hcl, hp, hpu, i1, i2⟩
    have K : ∀ c, c < ns.length → 0 < lv.getD c 0 → pnT cs lv c = u → ∃ i : Nat, i < cs.length ∧ parV cs lv c = (i : Int) ∧ goB cs lv u (parV cs lv u) i = true ∧ othN cs u i = c := by
      intro c hc hcl hpu
      obtain ⟨i, hi, hp, ht, hpn, hpl⟩ := T.up hc hcl
      have hne : (i : Int) ≠ parV cs lv u := by
        intro e
        have := T.par_inj hc hu hp e.symm
        subst this
        rw [hpu] at hpl
        omega
      obtain ⟨_, h2, h3⟩ := T.go_child hc hcl hp hne
      rw [hpu] at h2 h3
      exact ⟨i, hi, hp, h2, h3⟩
    constructor
    · rw [mem_needT]
      constructor
      · rintro (h | ⟨i, hi, hg, hn⟩)
        · exact ⟨u, h, below_self u⟩
        · obtain ⟨c, e, hcn, hcl, hp, hpu, i1, _⟩ := G i hi hg
          rw [e] at hn
          obtain ⟨m, hm, hb⟩ := i1.1 hn
          exact ⟨m, hm, by rw [← hpu]; exact T.bup hcn hcl (hW m hm).1 (hW m hm).2 hb⟩
      · rintro ⟨m, hm, hb⟩
        by_cases e : u = m
        · subst e; exact .inl hm
        · obtain ⟨c, hc, hcl, hpu, hbc⟩ := T.bchild (hW m hm).1 (hW m hm).2 hb e
          obtain ⟨i, hi, hp, hg, ho⟩ := K c hc hcl hpu
          obtain ⟨c', e', _, _, _, _, i1, _⟩ := G i hi hg
          have ec : c' = c := by rw [← e', ho]
          subst ec
          exact .inr ⟨i, hi, hg, by rw [ho]; exact i1.2 ⟨m, hm, hbc⟩⟩
    · intro a j
      rw [mem_outT]
      constructor
      · rintro ⟨i, hi, hg, hx⟩
        obtain ⟨c, e, hcn, hcl, hp, hpu, i1, i2⟩ := G i hi hg
        rw [e] at hx
        rcases hx with h | ⟨h, h2⟩
        · obtain ⟨hb, d, hd, hdl, hdp, hda, hdw⟩ := (i2 a j).1 h
          have ha : a < ns.length ∧ 0 ≤ lv.getD a 0 := by
            obtain ⟨_, _, _, _, q1, q2⟩ := T.up hd hdl
            rw [hda] at q1 q2
            exact ⟨q1, by omega⟩
          exact ⟨by rw [← hpu]; exact T.bup hcn hcl ha.1 ha.2 hb, d, hd, hdl, hdp, hda, hdw⟩
        · injection h2 with h3 h4
          subst h3; subst h4
          exact ⟨below_self _, c, hcn, hcl, hp, hpu, i1.1 h⟩
      · rintro ⟨hb, d, hd, hdl, hdp, hda, hdw⟩
        have ha : a < ns.length ∧ 0 ≤ lv.getD a 0 := by
          obtain ⟨_, _, _, _, q1, q2⟩ := T.up hd hdl
          rw [hda] at q1 q2
          exact ⟨q1, by omega⟩
        by_cases e : u = a
        · subst e
          obtain ⟨i, hi, hp, hg, ho⟩ := K d hd hdl hda
          obtain ⟨c', e', _, _, _, _, i1, _⟩ := G i hi hg
          have ec : c' = d := by rw [← e', ho]
          subst ec
          refine ⟨i, hi, hg, .inr ⟨by rw [ho]; exact i1.2 hdw, ?_⟩⟩
          rw [← hdp, hp]
        · obtain ⟨c, hc, hcl, hpu, hbc⟩ := T.bchild ha.1 ha.2 hb e
          obtain ⟨i, hi, hp, hg, ho⟩ := K c hc hcl hpu
          obtain ⟨c', e', _, _, _, _, _, i2⟩ := G i hi hg
          have ec : c' = c := by rw [← e', ho]
          subst ec
          refine ⟨i, hi, hg, .inl ?_⟩
          rw [ho]
          exact (i2 a j).2 ⟨hbc, d, hd, hdl, hdp, hda, hdw⟩
end
end Go.Proofs.YtljojgpjgjfddaaGreat

/- The tree of tree.Make in closed form, upward from the source; and that each node's cables ascend. No program in sight. -/
namespace Go.Proofs.YtljojgpjgjfddaaGreat
open Go.RowKit Go.Maps
set_option linter.unusedVariables false
set_option linter.unusedSimpArgs false

section
variable {ns : List Nd} {cs : List Cb} {lv : List Int}
/-- What is not searched from u, since the search came from there. -/
def ExT (ns : List Nd) (cs : List Cb) (lv : List Int) (u : Nat) (ov : Int) (E : Nat → Prop) : Prop :=
  (ov = -1 ∧ ∀ m, ¬ E m) ∨ ∃ c0, c0 < ns.length ∧ 0 < lv.getD c0 0 ∧ pnT cs lv c0 = u ∧ parV cs lv c0 = ov ∧ ∀ m, E m ↔ belowT cs lv c0 m
/-- The pairs of the tree: cables that lead up from a above the source, and such that lead down to c. -/
def PairT (ns : List Nd) (cs : List Cb) (lv : List Int) (W : Nat → Bool) (E : Nat → Prop) (u a : Nat) (i : Int) : Prop :=
  (a < ns.length ∧ 0 < lv.getD a 0 ∧ belowT cs lv a u ∧ parV cs lv a = i ∧ ∃ m, W m = true ∧ ¬ belowT cs lv a m) ∨
  ∃ c, c < ns.length ∧ 0 < lv.getD c 0 ∧ parV cs lv c = i ∧ pnT cs lv c = a ∧ ¬ E c ∧ ¬ belowT cs lv c u ∧ wbT cs lv W c
theorem TOk.pnl (T : TOk ns cs lv) {c : Nat} (hc : c < ns.length) (hl : 0 < lv.getD c 0) : pnT cs lv c < ns.length ∧ lv.getD (pnT cs lv c) 0 = lv.getD c 0 - 1 := by
  obtain ⟨_, _, _, _, h1, h2⟩ := T.up hc hl
  exact ⟨h1, h2⟩
/-- Two nodes of one level above the same node are equal. -/
theorem TOk.same (T : TOk ns cs lv) {m c d : Nat} (hm : m < ns.length) (h0 : 0 ≤ lv.getD m 0) (hc : belowT cs lv c m) (hd : belowT cs lv d m) (h : lv.getD c 0 = lv.getD d 0) : c = d := by
  have h1 := T.bcomp hm h0 hc hd (by omega)
  have h2 := T.blv hm h0 hd
  exact (T.blv h2.1 h2.2.1 h1).2.2.2 h
theorem TOk.upw (T : TOk ns cs lv) {W : Nat → Bool} (hW : ∀ m, W m = true → m < ns.length ∧ 0 ≤ lv.getD m 0) (f : Nat) : ∀ u ov E, u < ns.length → 0 ≤ lv.getD u 0 → ExT ns cs lv u ov E → FitsT cs lv f u ov →
    (needT cs lv W f u ov = true ↔ ∃ m, W m = true ∧ ¬ E m) ∧ ∀ a i, (a, i) ∈ outT cs lv W f u ov ↔ PairT ns cs lv W E u a i := by
  induction f with
  | zero => intro u ov E _ _ _ h; cases h
  | succ f ih =>
    intro u ov E hu h0 hE hf
    -- what is excluded lies below one child
    have E1 : ∀ m, m < ns.length → 0 ≤ lv.getD m 0 → E m → belowT cs lv u m ∧ u ≠ m := by
      intro m hm hm0 he
      rcases hE with ⟨_, h⟩ | ⟨c0, hc, hcl, hpu, hp, h⟩
      · exact absurd he (h m)
      · have hb := (h m).1 he
        have hl := T.pnl hc hcl
        have h2 := T.bup hc hcl hm hm0 hb
        rw [hpu] at h2 hl
        exact ⟨h2, fun e => by subst e; have := (T.blv hm hm0 hb).2.2.1; omega⟩
    have E2 : ∀ m c, m < ns.length → 0 ≤ lv.getD m 0 → E m → c < ns.length → 0 < lv.getD c 0 → pnT cs lv c = u → belowT cs lv c m → parV cs lv c = ov ∧ E c := by
      intro m c hm hm0 he hc hcl hpu hb
      rcases hE with ⟨_, h⟩ | ⟨c0, hc0, hcl0, hpu0, hp, h⟩
      · exact absurd he (h m)
      · have l1 := (T.pnl hc hcl).2
        have l2 := (T.pnl hc0 hcl0).2
        rw [hpu] at l1
        rw [hpu0] at l2
        have := T.same hm hm0 hb ((h m).1 he) (by omega)
        subst this
        exact ⟨hp, (h c).2 (below_self c)⟩
    have E3 : ∀ c, c < ns.length → 0 < lv.getD c 0 → pnT cs lv c = u → ¬ E c → parV cs lv c ≠ ov := by
      intro c hc hcl hpu hne e
      rcases hE with ⟨h1, _⟩ | ⟨c0, hc0, hcl0, hpu0, hp, h⟩
      · obtain ⟨i, _, hi, _⟩ := T.up hc hcl; omega
      · obtain ⟨i, _, hi, _⟩ := T.up hc hcl
        have := T.par_inj hc hc0 hi (by omega)
        subst this
        exact hne ((h c).2 (below_self c))
    have E4 : ∀ m x, m < ns.length → 0 ≤ lv.getD m 0 → belowT cs lv x m → E x → E m := by
      intro m x hm hm0 hb he
      rcases hE with ⟨_, h⟩ | ⟨c0, hc0, hcl0, hpu0, hp, h⟩
      · exact absurd he (h x)
      · exact (h m).2 (T.btrans hm hm0 ((h x).1 he) hb)
    have G : ∀ i, i < cs.length → goB cs lv u ov i = true →
        (parV cs lv u = (i : Int) ∧ 0 < lv.getD u 0 ∧ othN cs u i = pnT cs lv u ∧ (needT cs lv W f (pnT cs lv u) (i : Int) = true ↔ ∃ m, W m = true ∧ ¬ belowT cs lv u m) ∧ ∀ a j, (a, j) ∈ outT cs lv W f (pnT cs lv u) (i : Int) ↔ PairT ns cs lv W (belowT cs lv u) (pnT cs lv u) a j) ∨
        ∃ c, othN cs u i = c ∧ c < ns.length ∧ 0 < lv.getD c 0 ∧ parV cs lv c = (i : Int) ∧ pnT cs lv c = u ∧ ¬ E c ∧ (needT cs lv W f c (i : Int) = true ↔ wbT cs lv W c) ∧
        ∀ a j, (a, j) ∈ outT cs lv W f c (i : Int) ↔ belowT cs lv c a ∧ ∃ d, d < ns.length ∧ 0 < lv.getD d 0 ∧ parV cs lv d = j ∧ pnT cs lv d = a ∧ wbT cs lv W d := by
      intro i hi hg
      obtain ⟨hne, hc⟩ := T.go_cases hu hi hg
      have hf' := hf i hi hg
      rcases hc with ⟨hp, hl, ho⟩ | ⟨hcn, hcl, hp, hpu⟩
      · left
        rw [ho] at hf'
        obtain ⟨h1, h2⟩ := T.pnl hu hl
        have := ih (pnT cs lv u) i (belowT cs lv u) h1 (by omega) (.inr ⟨u, hu, hl, rfl, hp, fun m => Iff.rfl⟩) hf'
        exact ⟨hp, hl, ho, this⟩
      · right
        rw [← hp] at hf'
        obtain ⟨i1, i2⟩ := T.down hW f (othN cs u i) hcn (by omega) hf'
        rw [hp] at i1 i2
        exact ⟨othN cs u i, rfl, hcn, hcl, hp, hpu, fun he => by have := (E2 _ _ hcn (by omega) he hcn hcl hpu (below_self _)).1; rw [hp] at this; exact hne this, i1, i2⟩
    have K : ∀ c, c < ns.length → 0 < lv.getD c 0 → pnT cs lv c = u → ¬ E c → ∃ i : Nat, i < cs.length ∧ parV cs lv c = (i : Int) ∧ goB cs lv u ov i = true ∧ othN cs u i = c := by
      intro c hc hcl hpu hne
      obtain ⟨i, hi, hp, ht, hpn, hpl⟩ := T.up hc hcl
      have h5 := E3 c hc hcl hpu hne
      rw [hp] at h5
      obtain ⟨_, h2, h3⟩ := T.go_child hc hcl hp h5
      rw [hpu] at h2 h3
      exact ⟨i, hi, hp, h2, h3⟩
    have KU : 0 < lv.getD u 0 → ∃ i : Nat, i < cs.length ∧ parV cs lv u = (i : Int) ∧ goB cs lv u ov i = true ∧ othN cs u i = pnT cs lv u := by
      intro hl
      obtain ⟨i, hi, hp, ht, hpn, hpl⟩ := T.up hu hl
      have hne : (i : Int) ≠ ov := by
        intro e
        rcases hE with ⟨h1, _⟩ | ⟨c0, hc0, hcl0, hpu0, hp0, h⟩
        · omega
        · have := T.par_inj hu hc0 hp (by omega)
          subst this
          rw [hpu0] at hpl
          omega
      obtain ⟨_, h2, h3⟩ := T.go_up hu hl hp hne
      exact ⟨i, hi, hp, h2, h3⟩
    have ROOT : ∀ m, m < ns.length → 0 ≤ lv.getD m 0 → ¬ belowT cs lv u m → 0 < lv.getD u 0 := by
      intro m hm hm0 hb
      rcases Int.lt_or_le 0 (lv.getD u 0) with h | h
      · exact h
      · exact absurd (T.broot _ rfl hu (by omega) hm hm0) hb
    constructor
    · rw [mem_needT]
      constructor
      · rintro (h | ⟨i, hi, hg, hn⟩)
        · exact ⟨u, h, fun he => (E1 u hu h0 he).2 rfl⟩
        · rcases G i hi hg with ⟨hp, hl, ho, i1, _⟩ | ⟨c, e, hcn, hcl, hp, hpu, hnE, i1, _⟩
          · rw [ho] at hn
            obtain ⟨m, hm, hb⟩ := i1.1 hn
            exact ⟨m, hm, fun he => hb (E1 m (hW m hm).1 (hW m hm).2 he).1⟩
          · rw [e] at hn
            obtain ⟨m, hm, hb⟩ := i1.1 hn
            exact ⟨m, hm, fun he => hnE (E2 m c (hW m hm).1 (hW m hm).2 he hcn hcl hpu hb).2⟩
      · rintro ⟨m, hm, hne⟩
        obtain ⟨hmn, hm0⟩ := hW m hm
        by_cases hb : belowT cs lv u m
        · by_cases e : u = m
          · subst e; exact .inl hm
          · obtain ⟨c, hc, hcl, hpu, hbc⟩ := T.bchild hmn hm0 hb e
            have hnE : ¬ E c := fun he => hne (E4 m c hmn hm0 hbc he)
            obtain ⟨i, hi, hp, hg, ho⟩ := K c hc hcl hpu hnE
            rcases G i hi hg with ⟨hp', hl, ho', _⟩ | ⟨c', e', _, _, _, _, _, i1, _⟩
            · have := T.par_inj hc hu hp hp'
              subst this
              have := (T.pnl hc hcl).2
              rw [hpu] at this
              omega
            · have ec : c' = c := by rw [← e', ho]
              subst ec
              exact .inr ⟨i, hi, hg, by rw [ho]; exact i1.2 ⟨m, hm, hbc⟩⟩
        · have hl := ROOT m hmn hm0 hb
          obtain ⟨i, hi, hp, hg, ho⟩ := KU hl
          rcases G i hi hg with ⟨hp', _, ho', i1, _⟩ | ⟨c', e', hc', hcl', hp', hpu', _⟩
          · exact .inr ⟨i, hi, hg, by rw [ho]; exact i1.2 ⟨m, hm, hb⟩⟩
          · have := T.par_inj hc' hu hp' hp
            subst this
            have := (T.pnl hc' hcl').2
            rw [hpu'] at this
            omega
    · intro a j
      rw [mem_outT]
      constructor
      · rintro ⟨i, hi, hg, hx⟩
        rcases G i hi hg with ⟨hp, hl, ho, i1, i2⟩ | ⟨c, e, hcn, hcl, hp, hpu, hnE, i1, i2⟩
        · rw [ho] at hx
          rcases hx with h | ⟨h, h2⟩
          · rcases (i2 a j).1 h with ⟨ha, hal, hb, hpa, hm⟩ | ⟨c, hc, hcl, hpc, hpa, hnb, hnb2, hw⟩
            · exact .inl ⟨ha, hal, (T.below_cons hu hl a).2 (.inr hb), hpa, hm⟩
            · refine .inr ⟨c, hc, hcl, hpc, hpa, fun he => hnb (E1 c hc (by omega) he).1, fun hb => ?_, hw⟩
              rcases (T.below_cons hu hl c).1 hb with e | hb
              · subst e; exact hnb (below_self _)
              · exact hnb2 hb
          · injection h2 with h3 h4
            subst h3; subst h4
            exact .inl ⟨hu, hl, below_self _, hp, i1.1 h⟩
        · rw [e] at hx
          have lc := (T.pnl hcn hcl).2
          rw [hpu] at lc
          rcases hx with h | ⟨h, h2⟩
          · obtain ⟨hb, d, hd, hdl, hdp, hda, hdw⟩ := (i2 a j).1 h
            obtain ⟨q1, q2⟩ := T.pnl hd hdl
            rw [hda] at q1 q2
            have hbd : belowT cs lv c d := (T.below_cons hd hdl c).2 (.inr (by rw [hda]; exact hb))
            have hla := (T.blv q1 (by omega) hb).2.2.1
            exact .inr ⟨d, hd, hdl, hdp, hda, fun he => hnE (E2 d c hd (by omega) he hcn hcl hpu hbd).2, fun hb2 => by have := (T.blv hu h0 hb2).2.2.1; omega, hdw⟩
          · injection h2 with h3 h4
            subst h3; subst h4
            exact .inr ⟨c, hcn, hcl, hp, hpu, hnE, fun hb2 => by have := (T.blv hu h0 hb2).2.2.1; omega, i1.1 h⟩
      · rintro (⟨ha, hal, hb, hpa, m, hm, hnb⟩ | ⟨c, hc, hcl, hpc, hpa, hnE, hnb, hw⟩)
        · by_cases e : a = u
          · subst e
            obtain ⟨i, hi, hp, hg, ho⟩ := KU hal
            rcases G i hi hg with ⟨hp', _, ho', i1, _⟩ | ⟨c', e', hc', hcl', hp', hpu', _⟩
            · exact ⟨i, hi, hg, .inr ⟨by rw [ho]; exact i1.2 ⟨m, hm, hnb⟩, by rw [← hpa, hp]⟩⟩
            · have := T.par_inj hc' hu hp' hp
              subst this
              have := (T.pnl hc' hcl').2
              rw [hpu'] at this
              omega
          · have hl : 0 < lv.getD u 0 := by
              rcases Int.lt_or_le 0 (lv.getD u 0) with h | h
              · exact h
              · exact absurd ((below_root h).1 hb) e
            obtain ⟨i, hi, hp, hg, ho⟩ := KU hl
            rcases G i hi hg with ⟨hp', _, ho', _, i2⟩ | ⟨c', e', hc', hcl', hp', hpu', _⟩
            · refine ⟨i, hi, hg, .inl ?_⟩
              rw [ho]
              refine (i2 a j).2 (.inl ⟨ha, hal, ?_, hpa, m, hm, hnb⟩)
              rcases (T.below_cons hu hl a).1 hb with h | h
              · exact absurd h e
              · exact h
            · have := T.par_inj hc' hu hp' hp
              subst this
              have := (T.pnl hc' hcl').2
              rw [hpu'] at this
              omega
        · obtain ⟨q1, q2⟩ := T.pnl hc hcl
          rw [hpa] at q1 q2
          by_cases hb : belowT cs lv u a
          · by_cases e : u = a
            · subst e
              obtain ⟨i, hi, hp, hg, ho⟩ := K c hc hcl hpa hnE
              rcases G i hi hg with ⟨hp', hl, ho', _⟩ | ⟨c', e', _, _, _, _, _, i1, _⟩
              · have := T.par_inj hc hu hp hp'
                subst this
                omega
              · have ec : c' = c := by rw [← e', ho]
                subst ec
                exact ⟨i, hi, hg, .inr ⟨by rw [ho]; exact i1.2 hw, by rw [← hpc, hp]⟩⟩
            · obtain ⟨c2, hc2, hcl2, hpu2, hbc2⟩ := T.bchild q1 (by omega) hb e
              have hbd : belowT cs lv c2 c := (T.below_cons hc hcl c2).2 (.inr (by rw [hpa]; exact hbc2))
              obtain ⟨i, hi, hp, hg, ho⟩ := K c2 hc2 hcl2 hpu2 (fun he => hnE (E4 c c2 hc (by omega) hbd he))
              rcases G i hi hg with ⟨hp', hl, ho', _⟩ | ⟨c', e', _, _, _, _, _, _, i2⟩
              · have := T.par_inj hc2 hu hp hp'
                subst this
                have := (T.pnl hc2 hcl2).2
                rw [hpu2] at this
                omega
              · have ec : c' = c2 := by rw [← e', ho]
                subst ec
                refine ⟨i, hi, hg, .inl ?_⟩
                rw [ho]
                exact (i2 a j).2 ⟨hbc2, c, hc, hcl, hpc, hpa, hw⟩
          · have hl := ROOT a q1 (by omega) hb
            obtain ⟨i, hi, hp, hg, ho⟩ := KU hl
            rcases G i hi hg with ⟨hp', _, ho', _, i2⟩ | ⟨c', e', hc', hcl', hp', hpu', _⟩
            · refine ⟨i, hi, hg, .inl ?_⟩
              rw [ho]
              refine (i2 a j).2 (.inr ⟨c, hc, hcl, hpc, hpa, fun h => ?_, fun h => hnb ((T.below_cons hu hl c).2 (.inr h)), hw⟩)
              rcases (T.below_cons hc hcl u).1 h with e | h
              · subst e; exact hnb (below_self _)
              · rw [hpa] at h; exact hb h
            · have := T.par_inj hc' hu hp' hp
              subst this
              have := (T.pnl hc' hcl').2
              rw [hpu'] at this
              omega
/-- The pairs at one node ascend. -/
def AscT (L : List (Nat × Int)) : Prop := ∀ a, (outAt L a).Pairwise (· < ·)
theorem outAt_flat {α : Type} (L : List α) (F : α → List (Nat × Int)) (a : Nat) : outAt (L.flatMap F) a = L.flatMap fun x => outAt (F x) a := by
  induction L with
  | nil => rfl
  | cons x L ih => rw [List.flatMap_cons, List.flatMap_cons, outAt_append, ih]
theorem asc_step {W : Nat → Bool} {f u : Nat} {ov : Int} (h1 : ∀ i, i < cs.length → goB cs lv u ov i = true → AscT (outT cs lv W f (othN cs u i) (i : Int)) ∧ ∀ y, (u, y) ∉ outT cs lv W f (othN cs u i) (i : Int))
    (h2 : ∀ i j, i < cs.length → j < cs.length → i ≠ j → goB cs lv u ov i = true → goB cs lv u ov j = true → ∀ a x y, (a, x) ∈ outT cs lv W f (othN cs u i) (i : Int) → (a, y) ∈ outT cs lv W f (othN cs u j) (j : Int) → False) : AscT (outT cs lv W (f + 1) u ov) := by
  intro a
  rw [outT, outAt_flat, List.pairwise_flatMap]
  have nil : ∀ i, i < cs.length → goB cs lv u ov i = true → outAt (outT cs lv W f (othN cs u i) (i : Int)) u = [] := fun i hi hg => by
    rw [List.eq_nil_iff_forall_not_mem]
    intro x hx
    exact (h1 i hi hg).2 x (outAt_mem.1 hx)
  constructor
  · intro i hi
    rw [List.mem_range] at hi
    split
    · rename_i hg
      rw [outAt_append]
      by_cases e : a = u
      · subst e
        rw [nil i hi hg, List.nil_append]
        split
        · rw [outAt_same]; exact List.pairwise_singleton _ _
        · exact List.Pairwise.nil
      · split
        · rw [outAt_other _ e, List.append_nil]; exact (h1 i hi hg).1 a
        · rw [outAt_nil, List.append_nil]; exact (h1 i hi hg).1 a
    · exact List.Pairwise.nil
  · refine List.Pairwise.imp_of_mem ?_ (List.pairwise_lt_range (n := cs.length))
    intro i j hi hj hlt x hx y hy
    rw [List.mem_range] at hi hj
    split at hx
    · rename_i hgi
      split at hy
      · rename_i hgj
        rw [outAt_append] at hx hy
        by_cases e : a = u
        · subst e
          rw [nil i hi hgi, List.nil_append] at hx
          rw [nil j hj hgj, List.nil_append] at hy
          split at hx
          · split at hy
            · rw [outAt_same, List.mem_singleton] at hx hy
              omega
            · cases hy
          · cases hx
        · have fx : x ∈ outAt (outT cs lv W f (othN cs u i) (i : Int)) a := by
            rcases List.mem_append.1 hx with h | h
            · exact h
            · split at h
              · rw [outAt_other _ e] at h; cases h
              · cases h
          have fy : y ∈ outAt (outT cs lv W f (othN cs u j) (j : Int)) a := by
            rcases List.mem_append.1 hy with h | h
            · exact h
            · split at h
              · rw [outAt_other _ e] at h; cases h
              · cases h
          exact absurd (outAt_mem.1 fy) (fun h => h2 i j hi hj (by omega) hgi hgj a x y (outAt_mem.1 fx) h)
      · cases hy
    · cases hx
theorem TOk.asc_down (T : TOk ns cs lv) {W : Nat → Bool} (hW : ∀ m, W m = true → m < ns.length ∧ 0 ≤ lv.getD m 0) (f : Nat) : ∀ u, u < ns.length → 0 ≤ lv.getD u 0 → FitsT cs lv f u (parV cs lv u) → AscT (outT cs lv W f u (parV cs lv u)) := by
  induction f with
  | zero => intro u _ _ h; cases h
  | succ f ih =>
    intro u hu h0 hf
    have G : ∀ i, i < cs.length → goB cs lv u (parV cs lv u) i = true → ∃ c, othN cs u i = c ∧ c < ns.length ∧ 0 < lv.getD c 0 ∧ parV cs lv c = (i : Int) ∧ pnT cs lv c = u ∧ FitsT cs lv f c (parV cs lv c) := by
      intro i hi hg
      obtain ⟨hne, hc⟩ := T.go_cases hu hi hg
      rcases hc with ⟨hp, _⟩ | ⟨hcn, hcl, hp, hpu⟩
      · exact absurd hp.symm hne
      · have hf' := hf i hi hg
        rw [← hp] at hf'
        exact ⟨othN cs u i, rfl, hcn, hcl, hp, hpu, hf'⟩
    refine asc_step (fun i hi hg => ?_) (fun i j hi hj hne hgi hgj a x y hx hy => ?_)
    · obtain ⟨c, e, hcn, hcl, hp, hpu, hf'⟩ := G i hi hg
      rw [e, ← hp]
      refine ⟨ih c hcn (by omega) hf', fun y hy => ?_⟩
      have hb := (((T.down hW f c hcn (by omega) hf').2 u y).1 hy).1
      have h1 := (T.pnl hcn hcl).2
      have h2 := (T.blv hu h0 hb).2.2.1
      rw [hpu] at h1
      omega
    · obtain ⟨c, e, hcn, hcl, hp, hpu, hf'⟩ := G i hi hgi
      obtain ⟨d, e2, hdn, hdl, hp2, hpu2, hf2⟩ := G j hj hgj
      rw [e, ← hp] at hx
      rw [e2, ← hp2] at hy
      obtain ⟨hb, k, hk, hkl, _, hka, _⟩ := ((T.down hW f c hcn (by omega) hf').2 a x).1 hx
      obtain ⟨hb2, _⟩ := ((T.down hW f d hdn (by omega) hf2).2 a y).1 hy
      have h1 := (T.pnl hcn hcl).2
      have h2 := (T.pnl hdn hdl).2
      obtain ⟨h3, h4⟩ := T.pnl hk hkl
      rw [hpu] at h1
      rw [hpu2] at h2
      rw [hka] at h3 h4
      have := T.same h3 (by omega) hb hb2 (by omega)
      subst this
      omega
theorem TOk.asc_up (T : TOk ns cs lv) {W : Nat → Bool} (hW : ∀ m, W m = true → m < ns.length ∧ 0 ≤ lv.getD m 0) (f : Nat) : ∀ u ov E, u < ns.length → 0 ≤ lv.getD u 0 → ExT ns cs lv u ov E → FitsT cs lv f u ov → AscT (outT cs lv W f u ov) := by
  induction f with
  | zero => intro u ov E _ _ _ h; cases h
  | succ f ih =>
    intro u ov E hu h0 hE hf
    have G : ∀ i, i < cs.length → goB cs lv u ov i = true →
        (parV cs lv u = (i : Int) ∧ 0 < lv.getD u 0 ∧ othN cs u i = pnT cs lv u ∧ FitsT cs lv f (pnT cs lv u) (i : Int) ∧ ∀ a x, (a, x) ∈ outT cs lv W f (pnT cs lv u) (i : Int) → a < ns.length ∧ 0 ≤ lv.getD a 0 ∧ ¬ belowT cs lv u a) ∨
        ∃ c, othN cs u i = c ∧ c < ns.length ∧ 0 < lv.getD c 0 ∧ parV cs lv c = (i : Int) ∧ pnT cs lv c = u ∧ FitsT cs lv f c (parV cs lv c) ∧ ∀ a x, (a, x) ∈ outT cs lv W f c (i : Int) → a < ns.length ∧ 0 ≤ lv.getD a 0 ∧ belowT cs lv c a := by
      intro i hi hg
      obtain ⟨hne, hc⟩ := T.go_cases hu hi hg
      have hf' := hf i hi hg
      rcases hc with ⟨hp, hl, ho⟩ | ⟨hcn, hcl, hp, hpu⟩
      · left
        rw [ho] at hf'
        obtain ⟨h1, h2⟩ := T.pnl hu hl
        refine ⟨hp, hl, ho, hf', fun a x hx => ?_⟩
        have := ((T.upw hW f (pnT cs lv u) i (belowT cs lv u) h1 (by omega) (.inr ⟨u, hu, hl, rfl, hp, fun m => Iff.rfl⟩) hf').2 a x).1 hx
        rcases this with ⟨ha, hal, hb, _⟩ | ⟨c, hc, hcl, _, hpa, hnb, _⟩
        · refine ⟨ha, by omega, fun h => ?_⟩
          have h3 := (T.blv h1 (by omega) hb).2.2.1
          have h4 := (T.blv ha (by omega) h).2.2.1
          omega
        · obtain ⟨q1, q2⟩ := T.pnl hc hcl
          rw [hpa] at q1 q2
          exact ⟨q1, by omega, fun h => hnb ((T.below_cons hc hcl u).2 (.inr (by rw [hpa]; exact h)))⟩
      · right
        rw [← hp] at hf'
        refine ⟨othN cs u i, rfl, hcn, hcl, hp, hpu, hf', fun a x hx => ?_⟩
        rw [← hp] at hx
        obtain ⟨hb, k, hk, hkl, _, hka, _⟩ := ((T.down hW f _ hcn (by omega) hf').2 a x).1 hx
        obtain ⟨h3, h4⟩ := T.pnl hk hkl
        rw [hka] at h3 h4
        exact ⟨h3, by omega, hb⟩
    refine asc_step (fun i hi hg => ?_) (fun i j hi hj hne hgi hgj a x y hx hy => ?_)
    · rcases G i hi hg with ⟨hp, hl, ho, hf', hr⟩ | ⟨c, e, hcn, hcl, hp, hpu, hf', hr⟩
      · obtain ⟨h1, h2⟩ := T.pnl hu hl
        rw [ho]
        exact ⟨ih (pnT cs lv u) i (belowT cs lv u) h1 (by omega) (.inr ⟨u, hu, hl, rfl, hp, fun m => Iff.rfl⟩) hf', fun y hy => (hr u y hy).2.2 (below_self u)⟩
      · rw [e]
        have h1 := (T.pnl hcn hcl).2
        rw [hpu] at h1
        refine ⟨by rw [← hp]; exact T.asc_down hW f c hcn (by omega) hf', fun y hy => ?_⟩
        have := (T.blv hu h0 (hr u y hy).2.2).2.2.1
        omega
    · have BU : ∀ c, c < ns.length → 0 < lv.getD c 0 → pnT cs lv c = u → ∀ a, a < ns.length → 0 ≤ lv.getD a 0 → belowT cs lv c a → belowT cs lv u a := fun c hc hcl hpu a ha ha0 hb => by
        rw [← hpu]; exact T.bup hc hcl ha ha0 hb
      rcases G i hi hgi with ⟨hp, hl, ho, hf', hr⟩ | ⟨c, e, hcn, hcl, hp, hpu, hf', hr⟩
      · rcases G j hj hgj with ⟨hp2, _⟩ | ⟨d, e2, hdn, hdl, hp2, hpu2, hf2, hr2⟩
        · omega
        · rw [ho] at hx
          rw [e2] at hy
          obtain ⟨q1, q2, q3⟩ := hr a x hx
          exact q3 (BU d hdn hdl hpu2 a q1 q2 (hr2 a y hy).2.2)
      · rcases G j hj hgj with ⟨hp2, hl2, ho2, hf2, hr2⟩ | ⟨d, e2, hdn, hdl, hp2, hpu2, hf2, hr2⟩
        · rw [e] at hx
          rw [ho2] at hy
          obtain ⟨q1, q2, q3⟩ := hr2 a y hy
          exact q3 (BU c hcn hcl hpu a q1 q2 (hr a x hx).2.2)
        · rw [e] at hx
          rw [e2] at hy
          obtain ⟨q1, q2, q3⟩ := hr a x hx
          have h1 := (T.pnl hcn hcl).2
          have h2 := (T.pnl hdn hdl).2
          rw [hpu] at h1
          rw [hpu2] at h2
          have := T.same q1 q2 q3 (hr2 a y hy).2.2 (by omega)
          subst this
          omega
end
end Go.Proofs.YtljojgpjgjfddaaGreat

/- The reference's tree path and the tree that it makes, in plain Lean: the same pairs as the search of tree.Make. No program in sight. -/
namespace Go.Proofs.YtljojgpjgjfddaaGreat
open Go.RowKit Go.Maps
set_option linter.unusedVariables false
set_option linter.unusedSimpArgs false

/-- a rises rather than b falls. -/
def riseB (lv : List Int) (a b : Nat) : Bool := decide (lv.getD b 0 < lv.getD a 0) || (decide (lv.getD a 0 = lv.getD b 0) && decide (0 < lv.getD a 0))
def pathP (cs : List Cb) (lv : List Int) : Nat → Nat → Nat → List Int
  | 0, _, _ => []
  | f + 1, a, b => if a = b then [] else if riseB lv a b = true then parV cs lv a :: pathP cs lv f (pnT cs lv a) b else pathP cs lv f a (pnT cs lv b) ++ [parV cs lv b]
def wpairs (cs : List Cb) (lv : List Int) : Nat → Nat → Nat → List (Nat × Int)
  | 0, _, _ => []
  | f + 1, a, b => if a = b then [] else if riseB lv a b = true then (a, parV cs lv a) :: wpairs cs lv f (pnT cs lv a) b else wpairs cs lv f a (pnT cs lv b) ++ [(pnT cs lv b, parV cs lv b)]
/-- Insertion into an ascending list. -/
def insA (l : List Int) (n : Int) : List Int := if n ∈ l then l else l.filter (fun x => decide (x < n)) ++ n :: l.filter (fun x => decide (n < x))
section
variable {ns : List Nd} {cs : List Cb} {lv : List Int}
theorem wpairs_snd (f : Nat) : ∀ a b, (wpairs cs lv f a b).map (·.2) = pathP cs lv f a b := by
  induction f with
  | zero => intro a b; rfl
  | succ f ih =>
    intro a b
    unfold wpairs pathP
    split
    · rfl
    · split
      · rw [List.map_cons, ih]
      · rw [List.map_append, ih]; rfl
theorem TOk.rise_cases (T : TOk ns cs lv) {a b : Nat} (ha : a < ns.length) (hb : b < ns.length) (a0 : 0 ≤ lv.getD a 0) (b0 : 0 ≤ lv.getD b 0) (hne : a ≠ b) :
    (riseB lv a b = true ∧ 0 < lv.getD a 0 ∧ lv.getD b 0 ≤ lv.getD a 0) ∨ (riseB lv a b = false ∧ 0 < lv.getD b 0 ∧ lv.getD a 0 ≤ lv.getD b 0) := by
  unfold riseB
  by_cases h : lv.getD b 0 < lv.getD a 0
  · left; exact ⟨by rw [decide_eq_true h]; rfl, by omega, by omega⟩
  · by_cases h2 : lv.getD a 0 = lv.getD b 0
    · by_cases h3 : 0 < lv.getD a 0
      · left; exact ⟨by rw [decide_eq_true h2, decide_eq_true h3]; simp, h3, by omega⟩
      · exact absurd (T.root a b ha hb (by omega) (by omega)) hne
    · right; exact ⟨by rw [decide_eq_false h, decide_eq_false h2]; rfl, by omega, by omega⟩
theorem TOk.mem_wpairs (T : TOk ns cs lv) (f : Nat) : ∀ a b, a < ns.length → b < ns.length → 0 ≤ lv.getD a 0 → 0 ≤ lv.getD b 0 → lv.getD a 0 + lv.getD b 0 < f →
    ∀ x i, (x, i) ∈ wpairs cs lv f a b ↔ (x < ns.length ∧ 0 < lv.getD x 0 ∧ belowT cs lv x a ∧ ¬ belowT cs lv x b ∧ parV cs lv x = i) ∨ ∃ c, c < ns.length ∧ 0 < lv.getD c 0 ∧ parV cs lv c = i ∧ pnT cs lv c = x ∧ belowT cs lv c b ∧ ¬ belowT cs lv c a := by
  induction f with
  | zero => intro a b _ _ h1 h2 h; omega
  | succ f ih =>
    intro a b ha hb a0 b0 hf x i
    unfold wpairs
    by_cases e : a = b
    · subst e
      rw [if_pos rfl]
      constructor
      · intro h; cases h
      · rintro (⟨_, _, h1, h2, _⟩ | ⟨_, _, _, _, _, h1, h2⟩)
        · exact absurd h1 h2
        · exact absurd h1 h2
    · rw [if_neg e]
      rcases T.rise_cases ha hb a0 b0 e with ⟨hr, hal, hle⟩ | ⟨hr, hbl, hle⟩
      · rw [if_pos hr]
        obtain ⟨q1, q2⟩ := T.pnl ha hal
        have nab : ¬ belowT cs lv a b := fun h => by
          obtain ⟨_, _, h3, h4⟩ := T.blv hb b0 h
          exact e (h4 (by omega))
        rw [List.mem_cons, ih (pnT cs lv a) b q1 hb (by omega) b0 (by omega)]
        constructor
        · rintro (h | ⟨h1, h2, h3, h4, h5⟩ | ⟨c, h1, h2, h3, h4, h5, h6⟩)
          · injection h with h1 h2
            subst h1; subst h2
            exact .inl ⟨ha, hal, below_self _, nab, rfl⟩
          · exact .inl ⟨h1, h2, (T.below_cons ha hal x).2 (.inr h3), h4, h5⟩
          · refine .inr ⟨c, h1, h2, h3, h4, h5, fun h => ?_⟩
            rcases (T.below_cons ha hal c).1 h with rfl | h
            · exact nab h5
            · exact h6 h
        · rintro (⟨h1, h2, h3, h4, h5⟩ | ⟨c, h1, h2, h3, h4, h5, h6⟩)
          · rcases (T.below_cons ha hal x).1 h3 with rfl | h
            · exact .inl (by rw [h5])
            · exact .inr (.inl ⟨h1, h2, h, h4, h5⟩)
          · exact .inr (.inr ⟨c, h1, h2, h3, h4, h5, fun h => h6 ((T.below_cons ha hal c).2 (.inr h))⟩)
      · rw [if_neg (by rw [hr]; decide)]
        obtain ⟨q1, q2⟩ := T.pnl hb hbl
        have nba : ¬ belowT cs lv b a := fun h => by
          obtain ⟨_, _, h3, h4⟩ := T.blv ha a0 h
          exact e (h4 (by omega)).symm
        rw [List.mem_append, List.mem_singleton, ih a (pnT cs lv b) ha q1 a0 (by omega) (by omega)]
        constructor
        · rintro ((⟨h1, h2, h3, h4, h5⟩ | ⟨c, h1, h2, h3, h4, h5, h6⟩) | h)
          · refine .inl ⟨h1, h2, h3, fun h => ?_, h5⟩
            rcases (T.below_cons hb hbl x).1 h with rfl | h
            · exact nba h3
            · exact h4 h
          · exact .inr ⟨c, h1, h2, h3, h4, (T.below_cons hb hbl c).2 (.inr h5), h6⟩
          · injection h with h1 h2
            subst h1; subst h2
            exact .inr ⟨b, hb, hbl, rfl, rfl, below_self _, nba⟩
        · rintro (⟨h1, h2, h3, h4, h5⟩ | ⟨c, h1, h2, h3, h4, h5, h6⟩)
          · exact .inl (.inl ⟨h1, h2, h3, fun h => h4 ((T.below_cons hb hbl x).2 (.inr h)), h5⟩)
          · rcases (T.below_cons hb hbl c).1 h5 with rfl | h
            · exact .inr (by rw [h3, h4])
            · exact .inl (.inr ⟨c, h1, h2, h3, h4, h, h6⟩)
theorem pairT_iff {W : Nat → Bool} {E : Nat → Prop} (T : TOk ns cs lv) (hW : ∀ m, W m = true → m < ns.length ∧ 0 ≤ lv.getD m 0) (hE : ∀ m, ¬ E m) {s : Nat} (hs : s < ns.length) (s0 : 0 ≤ lv.getD s 0) {f : Nat} (hf : ∀ m, W m = true → lv.getD s 0 + lv.getD m 0 < f) (a : Nat) (i : Int) :
    PairT ns cs lv W E s a i ↔ ∃ m, W m = true ∧ (a, i) ∈ wpairs cs lv f s m := by
  unfold PairT wbT
  constructor
  · rintro (⟨h1, h2, h3, h4, m, h5, h6⟩ | ⟨c, h1, h2, h3, h4, _, h5, m, h6, h7⟩)
    · exact ⟨m, h5, (T.mem_wpairs f s m hs (hW m h5).1 s0 (hW m h5).2 (hf m h5) a i).2 (.inl ⟨h1, h2, h3, h6, h4⟩)⟩
    · exact ⟨m, h6, (T.mem_wpairs f s m hs (hW m h6).1 s0 (hW m h6).2 (hf m h6) a i).2 (.inr ⟨c, h1, h2, h3, h4, h7, h5⟩)⟩
  · rintro ⟨m, hm, hx⟩
    rcases (T.mem_wpairs f s m hs (hW m hm).1 s0 (hW m hm).2 (hf m hm) a i).1 hx with ⟨h1, h2, h3, h4, h5⟩ | ⟨c, h1, h2, h3, h4, h5, h6⟩
    · exact .inl ⟨h1, h2, h3, h5, m, hm, h4⟩
    · exact .inr ⟨c, h1, h2, h3, h4, hE c, h6, m, hm, h5⟩
end
theorem mem_insA {l : List Int} {n x : Int} : x ∈ insA l n ↔ x ∈ l ∨ x = n := by
  unfold insA
  split
  · rename_i h
    constructor
    · exact .inl
    · rintro (h2 | rfl)
      · exact h2
      · exact h
  · rename_i h
    rw [List.mem_append, List.mem_cons, List.mem_filter, List.mem_filter]
    constructor
    · rintro (⟨h1, _⟩ | h1 | ⟨h1, _⟩)
      · exact .inl h1
      · exact .inr h1
      · exact .inl h1
    · rintro (h1 | h1)
      · rcases Int.lt_trichotomy x n with h2 | h2 | h2
        · exact .inl ⟨h1, by simpa using h2⟩
        · exact .inr (.inl h2)
        · exact .inr (.inr ⟨h1, by simpa using h2⟩)
      · exact .inr (.inl h1)
theorem insA_asc {l : List Int} {n : Int} (h : l.Pairwise (· < ·)) : (insA l n).Pairwise (· < ·) := by
  unfold insA
  split
  · exact h
  · rw [List.pairwise_append, List.pairwise_cons]
    refine ⟨h.filter _, ⟨fun x hx => ?_, h.filter _⟩, fun x hx y hy => ?_⟩
    · simpa using (List.mem_filter.1 hx).2
    · have h1 : x < n := by simpa using (List.mem_filter.1 hx).2
      rcases List.mem_cons.1 hy with rfl | hy
      · exact h1
      · have h2 : n < y := by simpa using (List.mem_filter.1 hy).2
        omega
/-- Ascending lists with the same members are equal. -/
theorem asc_extT {l m : List Int} (hl : l.Pairwise (· < ·)) (hm : m.Pairwise (· < ·)) (h : ∀ x, x ∈ l ↔ x ∈ m) : l = m := by
  induction l generalizing m with
  | nil =>
    cases m with
    | nil => rfl
    | cons y m => exact absurd ((h y).2 (List.mem_cons_self ..)) (by simp)
  | cons x l ih =>
    cases m with
    | nil => exact absurd ((h x).1 (List.mem_cons_self ..)) (by simp)
    | cons y m =>
      obtain ⟨l1, l2⟩ := List.pairwise_cons.1 hl
      obtain ⟨m1, m2⟩ := List.pairwise_cons.1 hm
      have e : x = y := by
        rcases List.mem_cons.1 ((h x).1 (List.mem_cons_self ..)) with h1 | h1
        · exact h1
        · rcases List.mem_cons.1 ((h y).2 (List.mem_cons_self ..)) with h2 | h2
          · exact h2.symm
          · have := m1 x h1
            have := l1 y h2
            omega
      subst e
      congr 1
      refine ih l2 m2 fun z => ?_
      constructor
      · intro hz
        rcases List.mem_cons.1 ((h z).1 (List.mem_cons_of_mem _ hz)) with h1 | h1
        · subst h1; have := l1 _ hz; omega
        · exact h1
      · intro hz
        rcases List.mem_cons.1 ((h z).2 (List.mem_cons_of_mem _ hz)) with h1 | h1
        · subst h1; have := m1 _ hz; omega
        · exact h1
theorem asc_len {l : List Int} {n : Nat} (h : l.Pairwise (· < ·)) (hb : ∀ x ∈ l, 0 ≤ x ∧ x < n) : l.length ≤ n := by
  have key : ∀ (l : List Int) (a : Int), l.Pairwise (· < ·) → (∀ x ∈ l, a ≤ x ∧ x < n) → (l.length : Int) ≤ max 0 (n - a) := by
    intro l
    induction l with
    | nil => intro a _ _; simp; omega
    | cons x l ih =>
      intro a hp hb
      obtain ⟨h1, h2⟩ := List.pairwise_cons.1 hp
      have h3 := hb x (List.mem_cons_self ..)
      have := ih (x + 1) h2 (fun y hy => ⟨by have := h1 y hy; omega, (hb y (List.mem_cons_of_mem _ hy)).2⟩)
      simp only [List.length_cons]
      omega
  have := key l 0 h hb
  omega
end Go.Proofs.YtljojgpjgjfddaaGreat
