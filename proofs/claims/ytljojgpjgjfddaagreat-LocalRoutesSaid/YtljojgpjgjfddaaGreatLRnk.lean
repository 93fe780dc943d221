/- The canonical ranks of channels, in plain Lean: they increase along every turn that may be taken, so the parts of such dependencies are right. No program in sight. -/
import Derived.Test.YtljojgpjgjfddaaGreatLPlcP
import Derived.Test.YtljojgpjgjfddaaGreatLCheck
namespace Go.Proofs.YtljojgpjgjfddaaGreat
open Go.RowKit Go.Maps
set_option linter.unusedVariables false
set_option linter.unusedSimpArgs false

/-- The canonical rank of a channel from u to v. -/
def rankV (lv : List Int) (u v : Int) : Int :=
  if lv.getD u.toNat 0 < 0 ∨ lv.getD v.toNat 0 < 0 then -1
  else if aboveB lv v u = true then (lv.length : Int) - 1 - (placesL lv).getD u.toNat 0
  else (lv.length : Int) + (placesL lv).getD v.toNat 0
def ranksV (cs : List Cb) (lv : List Int) : List Int := cs.flatMap fun c => [rankV lv c.a c.b, rankV lv c.b c.a]
theorem ranksV_len (cs : List Cb) (lv : List Int) : (ranksV cs lv).length = 2 * cs.length := by
  unfold ranksV
  induction cs with
  | nil => rfl
  | cons c l ih => rw [List.flatMap_cons, List.length_append, ih]; simp; omega
theorem pairs_at (f g : Cb → Int) : ∀ (cs : List Cb) (i : Nat), i < cs.length → (cs.flatMap fun c => [f c, g c]).getD (2 * i) 0 = f (cs.getD i cb0) ∧ (cs.flatMap fun c => [f c, g c]).getD (2 * i + 1) 0 = g (cs.getD i cb0) := by
  intro cs
  induction cs with
  | nil => intro i h; simp at h
  | cons c l ih =>
    intro i h
    rw [List.flatMap_cons]
    match i with
    | 0 => exact ⟨rfl, rfl⟩
    | i + 1 =>
      obtain ⟨h1, h2⟩ := ih i (by simpa using h)
      rw [show 2 * (i + 1) = 2 * i + 1 + 1 from by omega]
      exact ⟨by simpa using h1, by simpa using h2⟩
theorem ranksV_get (cs : List Cb) (lv : List Int) {c : Int} (h0 : 0 ≤ c) (h1 : c < 2 * cs.length) : (ranksV cs lv).getD c.toNat 0 = rankV lv (chEnds cs c).1 (chEnds cs c).2 := by
  obtain ⟨k1, k2⟩ := pairs_at (fun c => rankV lv c.a c.b) (fun c => rankV lv c.b c.a) cs (c / 2).toNat (by omega)
  unfold chEnds
  by_cases hp : c % 2 = 0
  · rw [if_pos hp, show c.toNat = 2 * (c / 2).toNat from by omega]
    exact k1
  · rw [if_neg hp, show c.toNat = 2 * (c / 2).toNat + 1 from by omega]
    exact k2
theorem placesL_get {lv : List Int} {v : Nat} (hv : v < lv.length) (h : 0 ≤ lv.getD v 0) : (placesL lv).getD v 0 = (placeN lv lv.length v : Int) := by
  have e : (placesL lv).getD v 0 = if 0 ≤ lv.getD v 0 then (placeN lv lv.length v : Int) else -1 := by unfold placesL; simp [List.getD, hv]
  rw [e, if_pos h]
theorem TurnOk.rankV {cs : List Cb} {lv : List Int} {n : Nat} (hll : lv.length = n) (hne : ∀ y ∈ cs, y.a ≠ y.b) {d : Dp} (h : TurnOk n cs lv d) : rankV lv (chEnds cs d.1).1 (chEnds cs d.1).2 < rankV lv (chEnds cs d.2.1).1 (chEnds cs d.2.1).2 := by
  obtain ⟨u, v, x, i, i2, hu, hv, hx, hi, hi2, _, _, _, _, e1, e2, _, _, _, t1, t2, lu, lv', lx, hup, _⟩ := h
  subst hll
  have m2 : cs.getD i2 cb0 ∈ cs := by simp [List.getD, hi2]
  rw [e1, e2]
  unfold Go.Proofs.YtljojgpjgjfddaaGreat.rankV
  simp only [Int.toNat_natCast]
  rw [placesL_get hu lu, placesL_get hv lv', placesL_get hx lx, if_neg (show ¬ (lv.getD u 0 < 0 ∨ lv.getD v 0 < 0) by omega), if_neg (show ¬ (lv.getD v 0 < 0 ∨ lv.getD x 0 < 0) by omega)]
  cases h2 : aboveB lv (x : Int) (v : Int) with
  | true =>
    have h1 : aboveB lv (v : Int) (u : Int) = true := hup h2
    rw [h1, if_pos rfl, if_pos rfl]
    have := placeN_lt hv h1
    omega
  | false =>
    have hvx : v ≠ x := fun e => by
      rcases t2 with ⟨q1, q2⟩ | ⟨q1, q2⟩
      · exact hne _ m2 (by rw [q1, q2, e])
      · exact hne _ m2 (by rw [q1, q2, e])
    have h3 := above_total (a := x) (b := v) (by omega) (by omega) lx lv' (Ne.symm hvx) h2
    have h4 := placeN_lt hv h3
    rw [if_neg (show ¬ (false = true) by simp)]
    cases h1 : aboveB lv (v : Int) (u : Int) with
    | true => rw [if_pos rfl]; omega
    | false => rw [if_neg (by simp)]; omega
theorem TurnOk.fits {ns : List Nd} {cs : List Cb} {lv : List Int} {d : Dp} (h : TurnOk ns.length cs lv d) : fitsB ⟨ns, cs⟩ d d.2.2 = true := by
  obtain ⟨u, v, x, i, i2, hu, hv, hx, hi, hi2, q1, q2, q3, q4, e1, e2, e3, _, _, t1, t2, _⟩ := h
  unfold fitsB isNodeB existsB
  rw [e1, e2, e3]
  simp only [Bool.and_eq_true, decide_eq_true_eq, and_true]
  first | exact ⟨⟨⟨by omega, by omega⟩, q1, q2⟩, q3, q4⟩ | exact ⟨⟨⟨⟨by omega, by omega⟩, trivial⟩, q1, q2⟩, q3, q4⟩
theorem depsErr_zero {p : Pl} {node : Int} {E : Ens} : ∀ (ds : List Dp), (∀ d ∈ ds, fitsB p d node = true ∧ rankE E d.1 < rankE E d.2.1) → depsErr p node E ds = 0 := by
  intro ds
  induction ds with
  | nil => intro _; rfl
  | cons d l ih =>
    intro h
    obtain ⟨h1, h2⟩ := h d List.mem_cons_self
    unfold depsErr
    rw [if_neg (by rw [h1]; simp), if_neg (by omega)]
    exact ih fun e he => h e (List.mem_cons_of_mem _ he)
theorem split_turns {ns : List Nd} {cs : List Cb} {lv : List Int} (hv : validP ⟨ns, cs⟩ = 0) {ds : List Dp} (h : ∀ d ∈ ds, TurnOk ns.length cs lv d) : splitErr ⟨ns, cs⟩ ds (ranksV cs lv) = 0 := by
  refine split0 ?_ ?_
  · rintro (h1 | h1)
    · exact h1 hv
    · exact h1 (ranksV_len cs lv)
  · rw [List.all_eq_true]
    exact fun d hd => (h d hd).fits
theorem check_turns {ns : List Nd} {cs : List Cb} {lv : List Int} (hv : validP ⟨ns, cs⟩ = 0) (hll : lv.length = ns.length) (hne : ∀ y ∈ cs, y.a ≠ y.b) {ds : List Dp} (h : ∀ d ∈ ds, TurnOk ns.length cs lv d) {i : Nat} (hi : i < ns.length) :
    checkErr ⟨ns, cs⟩ (splitPt ⟨ns, cs⟩ ds (ranksV cs lv) i) = 0 := by
  have key : ∀ c : Int, 0 ≤ c → c < 2 * cs.length → ((chEnds cs c).1 = i ∨ (chEnds cs c).2 = i) → rankE (ranksOf cs (ranksV cs lv) i) c = rankV lv (chEnds cs c).1 (chEnds cs c).2 := by
    intro c h0 h1 he
    have hc : c ∈ chansAt cs (i : Int) := by
      obtain ⟨k1, k2⟩ := ends_at h0 h1
      rcases he with e | e
      · rw [← e]; exact k1
      · rw [← e]; exact k2
    unfold rankE
    rw [lookE_ranksOf, if_pos hc]
    exact ranksV_get cs lv h0 h1
  refine (chkD hv ?_ ?_ ?_).trans (depsErr_zero _ ?_)
  · show isNodeB ns (i : Int) = true
    unfold isNodeB
    simp only [Bool.and_eq_true, decide_eq_true_eq]
    omega
  · show ((chansAt cs (i : Int)).all fun c => (lookE (ranksOf cs (ranksV cs lv) i) c).isSome) = true
    rw [List.all_eq_true]
    intro c hc
    rw [lookE_ranksOf, if_pos hc]
    rfl
  · show (ranksOf cs (ranksV cs lv) i).length = (chansAt cs (i : Int)).length
    unfold ranksOf
    rw [List.length_map]
  · intro d hd
    have hd' : d ∈ ownDeps ds (i : Int) := hd
    unfold ownDeps at hd'
    rw [List.mem_filter] at hd'
    obtain ⟨hd1, hd2⟩ := hd'
    have hn : d.2.2 = (i : Int) := by simpa using hd2
    have ht := h d hd1
    refine ⟨by have := ht.fits; rw [hn] at this; exact this, ?_⟩
    have hr := ht.rankV hll hne
    obtain ⟨u, v, x, i1, i2, hu, hv', hx, hi1, hi2, q1, q2, q3, q4, e1, e2, e3, _⟩ := ht
    show rankE (ranksOf cs (ranksV cs lv) i) d.1 < rankE (ranksOf cs (ranksV cs lv) i) d.2.1
    rw [key d.1 q1 q2 (.inr (by rw [e1]; omega)), key d.2.1 q3 q4 (.inl (by rw [e2]; omega))]
    exact hr

theorem TurnOk.wfD {n : Nat} {cs : List Cb} {lv : List Int} {d : Dp} (h : TurnOk n cs lv d) (hn : n ≤ 16) (hc : cs.length ≤ 32) : (Lit.int .i64 d.1).wf = true ∧ (Lit.int .i64 d.2.1).wf = true ∧ (Lit.int .i64 d.2.2).wf = true := by
  obtain ⟨u, v, x, i, i2, hu, hv, hx, hi, hi2, a1, a2, a3, a4, _, _, e, _⟩ := h
  exact ⟨wf_small _ (by omega) (by omega), wf_small _ (by omega) (by omega), wf_small _ (by omega) (by omega)⟩
theorem Net.depsLen {ns : List Nd} {cs : List Cb} {us : List Bool} {lv : List Int} {G : GT} (h : Net ns cs us lv G) : (depsD ⟨ns, cs⟩ lv (tabOf ns.length G)).length ≤ 10000 := by
  obtain ⟨n16, c32⟩ := valid_sizes h.valid
  unfold depsD; rw [sortD_length]
  show (setOfD (depA cs lv (tabOf ns.length G) ns.length (2 * cs.length))).length ≤ 10000
  have g1 := setOfD_len (depA cs lv (tabOf ns.length G) ns.length (2 * cs.length))
  have g2 := depA_len cs lv (tabOf ns.length G) ns.length (2 * cs.length)
  have g3 : 2 * ns.length * (2 * cs.length) ≤ 32 * 64 := Nat.mul_le_mul (by omega) (by omega)
  omega
theorem placesL_range {lv : List Int} {v : Nat} (hv : v < lv.length) : -1 ≤ (placesL lv).getD v 0 ∧ (placesL lv).getD v 0 ≤ lv.length := by
  have e : (placesL lv).getD v 0 = if 0 ≤ lv.getD v 0 then (placeN lv lv.length v : Int) else -1 := by unfold placesL; simp [List.getD, hv]
  rw [e]
  have := placeN_le lv lv.length v
  split <;> omega
theorem rankV_range {lv : List Int} {u v : Nat} (hu : u < lv.length) (hv : v < lv.length) : -1 ≤ rankV lv (u : Int) (v : Int) ∧ rankV lv (u : Int) (v : Int) ≤ 2 * lv.length := by
  have h1 := placesL_range hu
  have h2 := placesL_range hv
  unfold Go.Proofs.YtljojgpjgjfddaaGreat.rankV
  simp only [Int.toNat_natCast]
  split
  · omega
  · split <;> omega
theorem ranksV_wf {ns : List Nd} {cs : List Cb} {lv : List Int} (hv : validP ⟨ns, cs⟩ = 0) (hll : lv.length = ns.length) : WfI (ranksV cs lv) := by
  obtain ⟨n16, c32⟩ := valid_sizes hv
  intro x hx
  unfold ranksV at hx
  obtain ⟨c, hc, hx⟩ := List.mem_flatMap.1 hx
  obtain ⟨⟨a0, a1⟩, b0, b1⟩ := cab_node hv hc
  obtain ⟨a, ha⟩ : ∃ a : Nat, c.a = a := ⟨c.a.toNat, by omega⟩
  obtain ⟨b, hb⟩ : ∃ b : Nat, c.b = b := ⟨c.b.toNat, by omega⟩
  rw [ha, hb] at hx
  have r1 := rankV_range (lv := lv) (u := a) (v := b) (by omega) (by omega)
  have r2 := rankV_range (lv := lv) (u := b) (v := a) (by omega) (by omega)
  simp only [List.mem_cons, List.not_mem_nil, or_false] at hx
  rcases hx with rfl | rfl
  · exact wf_small _ (by omega) (by omega)
  · exact wf_small _ (by omega) (by omega)
theorem live_order {p : Pl} {lv : List Int} (h : orderB p lv = true) : 0 < (liveN lv lv.length).length := by
  unfold orderB at h
  simp only [Bool.and_eq_true, decide_eq_true_eq] at h
  have h1 := h.1.2
  have h2 : 0 < lv.countP (· == 0) := by omega
  obtain ⟨x, hx, hx0⟩ := List.countP_pos_iff.1 h2
  obtain ⟨i, hi, e⟩ := List.mem_iff_getElem.1 hx
  have h3 : i ∈ liveN lv lv.length := mem_liveN.2 ⟨hi, by
    have : lv.getD i 0 = x := by simp [List.getD, hi, e]
    rw [this]
    have : x = 0 := by simpa using hx0
    omega⟩
  exact List.length_pos_of_mem h3
end Go.Proofs.YtljojgpjgjfddaaGreat
