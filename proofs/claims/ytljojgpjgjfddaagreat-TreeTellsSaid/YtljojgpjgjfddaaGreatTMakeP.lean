/- What tree.Make returns, in plain Lean. No program in sight. -/
import Derived.Test.YtljojgpjgjfddaaGreatTPathP
import Derived.Test.YtljojgpjgjfddaaGreatTCheck
namespace Go.Proofs.YtljojgpjgjfddaaGreat
open Go.RowKit Go.Maps
set_option linter.unusedVariables false
set_option linter.unusedSimpArgs false

def memW (ms : List Int) (v : Nat) : Bool := ms.any fun m => m == (v : Int)
def makeOut (ns : List Nd) (cs : List Cb) (lv ms : List Int) (s u : Nat) : List Int := outAt (outT cs lv (memW ms) (ns.length + ns.length + 2) s (-1)) u
section
variable {ns : List Nd} {cs : List Cb} {lv ms : List Int}
theorem countP_two (l : List Int) {u v : Nat} (hu : u < v) (hv : v < l.length) (h1 : l.getD u 0 = 0) (h2 : l.getD v 0 = 0) : 2 ≤ l.countP (· == 0) := by
  have e := List.take_append_drop v l
  have c : l.countP (· == 0) = (l.take v).countP (· == 0) + (l.drop v).countP (· == 0) := by rw [← List.countP_append, e]
  have p1 : 0 < (l.take v).countP (· == 0) := by
    rw [List.countP_pos_iff]
    refine ⟨l.getD u 0, ?_, by rw [h1]; rfl⟩
    have : u < (l.take v).length := by rw [List.length_take]; omega
    have h3 : (l.take v)[u] = l.getD u 0 := by simp [List.getD, show u < l.length by omega]
    rw [← h3]
    exact List.getElem_mem this
  have p2 : 0 < (l.drop v).countP (· == 0) := by
    rw [List.countP_pos_iff]
    refine ⟨l.getD v 0, ?_, by rw [h2]; rfl⟩
    have : 0 < (l.drop v).length := by rw [List.length_drop]; omega
    have h3 : (l.drop v)[0] = l.getD v 0 := by simp [List.getD, hv]
    rw [← h3]
    exact List.getElem_mem this
  omega
theorem parV_some {v i : Nat} (hi : i < cs.length) (h : pOk lv v (cs.getD i cb0) = true) : ∃ j : Nat, parV cs lv v = (j : Int) := by
  unfold parV
  cases hf : (List.range cs.length).find? (fun i => pOk lv v (cs.getD i cb0)) with
  | some j => exact ⟨j, rfl⟩
  | none =>
    have := List.find?_eq_none.1 hf i (List.mem_range.2 hi)
    exact absurd h this
theorem leads_pOk {v : Nat} {c : Cb} (h0 : 0 < lv.getD v 0) (h : leads lv v c = true) : pOk lv v c = true := by
  unfold leads at h
  unfold pOk
  rw [decide_eq_true h0]
  simp only [Bool.true_and, Bool.or_eq_true, Bool.and_eq_true, beq_iff_eq]
  split at h
  · rename_i h1
    have e : c.b = (v : Int) := by simpa using h
    right
    refine ⟨e, ?_⟩
    rw [e] at h1
    simpa [lvAt] using h1
  · split at h
    · rename_i h1
      have e : c.a = (v : Int) := by simpa using h
      left
      refine ⟨e, ?_⟩
      rw [e] at h1
      simpa [lvAt] using h1
    · cases h
theorem tok_of (h : orderB ⟨ns, cs⟩ lv = true) : TOk ns cs lv := by
  obtain ⟨h1, h2, h3, h4, h5⟩ := orderB_spec h
  simp only at h2 h3 h5
  refine ⟨h1, h2, fun j hj => ?_, fun v hv h0 => ?_, fun u v hu hv e1 e2 => ?_⟩
  · have hm : lv.getD j 0 ∈ lv := by simp [List.getD, show j < lv.length by omega]
    have := List.all_eq_true.1 h3 _ hm
    simpa [levelOk] using this
  · have := List.all_eq_true.1 h5 v (List.mem_range.2 (by omega))
    unfold nodeOk at this
    rw [decide_eq_true h0] at this
    simp only [Bool.not_true, Bool.false_or] at this
    unfold ledTo at this
    rw [List.take_length, List.any_eq_true] at this
    obtain ⟨c, hc, hl⟩ := this
    obtain ⟨i, hi, e⟩ := List.getElem_of_mem hc
    refine parV_some hi ?_
    have e2 : cs.getD i cb0 = c := by simp [List.getD, hi, e]
    rw [e2]
    exact leads_pOk h0 hl
  · rcases Nat.lt_trichotomy u v with h6 | h6 | h6
    · have := countP_two lv h6 (by omega) e1 e2; omega
    · exact h6
    · have := countP_two lv h6 (by omega) e2 e1; omega
/-- What the arguments of Make are when there is no error. -/
structure MOk (ns : List Nd) (cs : List Cb) (lv ms : List Int) (s : Nat) : Prop where
  T : TOk ns cs lv
  hs : s < ns.length
  s0 : 0 ≤ lv.getD s 0
  node : ∀ m ∈ ms, 0 ≤ m ∧ m < ns.length ∧ 0 ≤ lv.getD m.toNat 0
  nodup : ms.Nodup
theorem twTo_nodup : ∀ (l : List Int), twTo sameI 0 l l.length = false → l.Nodup := by
  intro l h
  rw [List.nodup_iff_pairwise_ne, List.pairwise_iff_getElem]
  intro i j hi hj hij e
  have h2 : twTo sameI 0 l (j + 1) = true := by
    rw [twTo_succ]
    rw [Bool.or_eq_true]
    right
    rw [List.any_eq_true]
    refine ⟨l[i], ?_, ?_⟩
    · have : i < (l.take j).length := by rw [List.length_take]; omega
      have h3 : (l.take j)[i] = l[i] := by simp
      rw [← h3]; exact List.getElem_mem this
    · unfold sameI; simp [List.getD, hj, e]
  rw [twTo_mono sameI 0 l (j + 1) h2 l.length (by omega)] at h
  cases h
theorem nodup_twTo (l : List Int) (h : l.Nodup) : twTo sameI 0 l l.length = false := by
  unfold twTo
  rw [List.any_eq_false]
  intro j hj
  rw [List.mem_range] at hj
  rw [Bool.not_eq_true, List.any_eq_false]
  intro y hy
  obtain ⟨i, hi, e⟩ := List.getElem_of_mem hy
  rw [List.length_take] at hi
  have e2 : l[i]'(by omega) = y := by rw [← e]; simp
  unfold sameI
  simp only [List.getD, hj, List.getElem?_eq_getElem, Option.getD_some]
  intro h3
  have h4 : y = l[j] := by simpa using h3
  rw [List.nodup_iff_pairwise_ne, List.pairwise_iff_getElem] at h
  exact h i j (by omega) hj (by omega) (e2.trans h4)
theorem mok_of {s : Int} (h : tErr ⟨ns, cs⟩ lv ms s = 0) : ∃ k : Nat, s = k ∧ MOk ns cs lv ms k := by
  unfold tErr at h
  split at h
  · cases h
  · rename_i h1
    split at h
    · cases h
    · rename_i h2
      split at h
      · cases h
      · rename_i h3
        split at h
        · cases h
        · rename_i h4
          split at h
          · cases h
          · rename_i h5
            split at h
            · cases h
            · rename_i h6
              simp only [Bool.not_eq_false, Bool.not_eq_true] at h1 h2 h3 h4 h5 h6
              have h2' : 0 ≤ s ∧ s < ns.length := by simpa [isNodeB] using h2
              refine ⟨s.toNat, by omega, tok_of h1, by omega, ?_, fun m hm => ?_, twTo_nodup ms h4⟩
              · simpa [lvB, lvAt] using h6
              · have q1 := List.all_eq_true.1 h3 m hm
                have q2 := List.all_eq_true.1 h5 m hm
                have q1' : 0 ≤ m ∧ m < ns.length := by simpa [isNodeB] using q1
                exact ⟨q1'.1, q1'.2, by simpa [lvB, lvAt] using q2⟩
theorem MOk.err {s : Nat} (h : MOk ns cs lv ms s) (ho : orderB ⟨ns, cs⟩ lv = true) : tErr ⟨ns, cs⟩ lv ms s = 0 := by
  refine te0 ho ?_ ?_ (nodup_twTo ms h.nodup) ?_ ?_
  · have := h.hs; unfold isNodeB; simp; omega
  · rw [List.all_eq_true]; intro m hm; obtain ⟨q1, q2, _⟩ := h.node m hm; unfold isNodeB; simp [q1, q2]
  · rw [List.all_eq_true]; intro m hm; have := (h.node m hm).2.2; unfold lvB lvAt; simpa using this
  · have := h.s0; unfold lvB lvAt; simpa using this
variable {s : Nat}
theorem memW_iff {v : Nat} : memW ms v = true ↔ (v : Int) ∈ ms := by
  unfold memW
  rw [List.any_eq_true]
  constructor
  · rintro ⟨m, hm, e⟩
    have : m = v := by simpa using e
    rw [← this]; exact hm
  · intro h; exact ⟨_, h, by simp⟩
theorem MOk.hW (h : MOk ns cs lv ms s) : ∀ m, memW ms m = true → m < ns.length ∧ 0 ≤ lv.getD m 0 := by
  intro m hm
  obtain ⟨_, h2, h3⟩ := h.node _ (memW_iff.1 hm)
  exact ⟨by omega, by simpa using h3⟩
theorem MOk.fits (h : MOk ns cs lv ms s) : FitsT cs lv (ns.length + ns.length + 2) s (-1) :=
  fits_any_ov h.T.hv (valid_abT h.T.hv) (fun j hj => (h.T.lt j hj).2) ns.length s (-1) h.hs (by have := (h.T.lt s h.hs).2; omega)
theorem MOk.ex (h : MOk ns cs lv ms s) : ExT ns cs lv s (-1) (fun _ => False) := .inl ⟨rfl, fun _ h => h⟩
theorem MOk.pair (h : MOk ns cs lv ms s) (u : Nat) (i : Int) : i ∈ makeOut ns cs lv ms s u ↔ PairT ns cs lv (memW ms) (fun _ => False) s u i := by
  unfold makeOut
  rw [outAt_mem]
  exact (h.T.upw h.hW _ s (-1) _ h.hs h.s0 h.ex h.fits).2 u i
theorem MOk.asc (h : MOk ns cs lv ms s) (u : Nat) : (makeOut ns cs lv ms s u).Pairwise (· < ·) := h.T.asc_up h.hW _ s (-1) _ h.hs h.s0 h.ex h.fits u
theorem PairT.cable (T : TOk ns cs lv) {W : Nat → Bool} {E : Nat → Prop} {a : Nat} {i : Int} (h : PairT ns cs lv W E s a i) : ∃ k : Nat, i = k ∧ k < cs.length ∧ a < ns.length ∧ endT (cs.getD k cb0) (a : Int) = true ∧ othN cs a k < ns.length := by
  rcases h with ⟨h1, h2, h3, h4, _⟩ | ⟨c, h1, h2, h3, h4, _⟩
  · obtain ⟨k, hk, hp, ht, hn, _⟩ := T.up h1 h2
    exact ⟨k, by omega, hk, h1, touch_end ht, by rw [oth_of ht]; exact hn⟩
  · obtain ⟨k, hk, hp, ht, hn, _⟩ := T.up h1 h2
    rw [h4] at ht hn
    exact ⟨k, by omega, hk, hn, touch_end (touchT_symm ht), by rw [oth_of (touchT_symm ht)]; exact h1⟩
theorem MOk.len (h : MOk ns cs lv ms s) (u : Nat) : (makeOut ns cs lv ms s u).length ≤ cs.length :=
  asc_len (h.asc u) fun x hx => by
    obtain ⟨k, e, hk, _⟩ := PairT.cable h.T ((h.pair u x).1 hx)
    omega
theorem MOk.mem (h : MOk ns cs lv ms s) (u : Nat) (i : Int) : i ∈ makeOut ns cs lv ms s u ↔ ∃ m : Nat, (m : Int) ∈ ms ∧ (u, i) ∈ wpairs cs lv (ns.length + ns.length + 1) s m := by
  rw [h.pair, pairT_iff h.T h.hW (fun _ h => h) h.hs h.s0 (f := ns.length + ns.length + 1) (fun m hm => by
    have h1 := (h.T.lt s h.hs).2
    have h2 := (h.T.lt m (h.hW m hm).1).2
    omega)]
  constructor
  · rintro ⟨m, h1, h2⟩; exact ⟨m, memW_iff.1 h1, h2⟩
  · rintro ⟨m, h1, h2⟩; exact ⟨m, memW_iff.2 h1, h2⟩
/-- Whatever the order of the members. -/
theorem MOk.perm {ms' : List Int} (h : MOk ns cs lv ms s) (h' : MOk ns cs lv ms' s) (e : ∀ m, m ∈ ms ↔ m ∈ ms') (u : Nat) : makeOut ns cs lv ms s u = makeOut ns cs lv ms' s u :=
  asc_extT (h.asc u) (h'.asc u) fun x => by
    rw [h.mem, h'.mem]
    constructor
    · rintro ⟨m, h1, h2⟩; exact ⟨m, (e _).1 h1, h2⟩
    · rintro ⟨m, h1, h2⟩; exact ⟨m, (e _).2 h1, h2⟩
theorem MOk.mono {ms' : List Int} (h : MOk ns cs lv ms s) (h' : MOk ns cs lv ms' s) (e : ∀ m, m ∈ ms → m ∈ ms') (u : Nat) : ∀ i, i ∈ makeOut ns cs lv ms s u → i ∈ makeOut ns cs lv ms' s u := by
  intro i hi
  rw [h.mem] at hi
  rw [h'.mem]
  obtain ⟨m, h1, h2⟩ := hi
  exact ⟨m, e m h1, h2⟩
end
end Go.Proofs.YtljojgpjgjfddaaGreat
