/- The tree of tree.Make is valid (its form put to the laws of trees). No program in sight. -/
import Derived.Test.YtljojgpjgjfddaaGreatTValP
namespace Go.Proofs.YtljojgpjgjfddaaGreat
open Go.RowKit Go.Maps
set_option linter.unusedVariables false
set_option linter.unusedSimpArgs false

def rowsM (ns : List Nd) (cs : List Cb) (lv ms : List Int) (s : Nat) : List (List Int) := (List.range ns.length).map (makeOut ns cs lv ms s)
def rkM (ns : List Nd) (cs : List Cb) (lv : List Int) (s v : Nat) : Nat := if v ∈ chainF cs lv (lv.getD s 0).toNat s then (lv.getD s 0 - lv.getD v 0).toNat else ns.length + (lv.getD v 0).toNat
section
variable {ns : List Nd} {cs : List Cb} {lv ms : List Int} {s : Nat}
theorem rkM_in {v : Nat} (h : belowT cs lv v s) : rkM ns cs lv s v = (lv.getD s 0 - lv.getD v 0).toNat := if_pos h
theorem rkM_out {v : Nat} (h : ¬ belowT cs lv v s) : rkM ns cs lv s v = ns.length + (lv.getD v 0).toNat := if_neg h
theorem rowsM_len : (rowsM ns cs lv ms s).length = ns.length := by simp [rowsM]
theorem rowsM_at {u : Nat} (hu : u < ns.length) : (rowsM ns cs lv ms s).getD u [] = makeOut ns cs lv ms s u := by simp [rowsM, List.getD, hu]
theorem rowsM_out {u : Nat} (hu : ¬ u < ns.length) : (rowsM ns cs lv ms s).getD u [] = [] := by
  have : (rowsM ns cs lv ms s).length ≤ u := by rw [rowsM_len]; omega
  simp [List.getD, List.getElem?_eq_none this]
/-- A pair of the tree: up or down. -/
theorem MOk.edge (h : MOk ns cs lv ms s) {u : Nat} {o : Int} (ho : o ∈ (rowsM ns cs lv ms s).getD u []) :
    u < ns.length ∧ 0 ≤ o ∧ 0 ≤ lv.getD u 0 ∧ ((0 < lv.getD u 0 ∧ belowT cs lv u s ∧ parV cs lv u = o ∧ othN cs u o.toNat = pnT cs lv u ∧ ∃ m, memW ms m = true ∧ ¬ belowT cs lv u m) ∨
      ∃ c, c < ns.length ∧ 0 < lv.getD c 0 ∧ parV cs lv c = o ∧ pnT cs lv c = u ∧ othN cs u o.toNat = c ∧ ¬ belowT cs lv c s ∧ wbT cs lv (memW ms) c) := by
  by_cases hu : u < ns.length
  · rw [rowsM_at hu, h.pair] at ho
    rcases ho with ⟨h1, h2, h3, h4, h5⟩ | ⟨c, h1, h2, h3, h4, _, h5, h6⟩
    · obtain ⟨k, _, hk, _⟩ := h.T.up h1 h2
      exact ⟨hu, by omega, by omega, .inl ⟨h2, h3, h4, by subst h4; rfl, h5⟩⟩
    · obtain ⟨k, hk, hp, ht, hn, hl⟩ := h.T.up h1 h2
      rw [h4] at ht hl
      have e : o.toNat = k := by omega
      exact ⟨hu, by omega, by omega, .inr ⟨c, h1, h2, h3, h4, by rw [e]; exact oth_of (touchT_symm ht), h5, h6⟩⟩
  · rw [rowsM_out hu] at ho; cases ho
theorem MOk.edge_up (h : MOk ns cs lv ms s) {u m : Nat} (hu : u < ns.length) (hl : 0 < lv.getD u 0) (hb : belowT cs lv u s) (hm : memW ms m = true) (hn : ¬ belowT cs lv u m) : parV cs lv u ∈ (rowsM ns cs lv ms s).getD u [] ∧ ET cs (rowsM ns cs lv ms s) u (pnT cs lv u) := by
  have : parV cs lv u ∈ (rowsM ns cs lv ms s).getD u [] := by
    rw [rowsM_at hu, h.pair]
    exact .inl ⟨hu, hl, hb, rfl, m, hm, hn⟩
  exact ⟨this, _, this, rfl⟩
theorem MOk.edge_down (h : MOk ns cs lv ms s) {c : Nat} (hc : c < ns.length) (hl : 0 < lv.getD c 0) (hb : ¬ belowT cs lv c s) (hw : wbT cs lv (memW ms) c) : parV cs lv c ∈ (rowsM ns cs lv ms s).getD (pnT cs lv c) [] ∧ ET cs (rowsM ns cs lv ms s) (pnT cs lv c) c := by
  obtain ⟨k, hk, hp, ht, hn, hlp⟩ := h.T.up hc hl
  have : parV cs lv c ∈ (rowsM ns cs lv ms s).getD (pnT cs lv c) [] := by
    rw [rowsM_at hn, h.pair]
    exact .inr ⟨c, hc, hl, rfl, rfl, fun h => h, hb, hw⟩
  refine ⟨this, _, this, ?_⟩
  rw [hp, Int.toNat_natCast]
  exact oth_of (touchT_symm ht)
theorem MOk.intree (h : MOk ns cs lv ms s) : InTree ns.length cs (rowsM ns cs lv ms s) (rkM ns cs lv s) := by
  refine ⟨fun u o ho => ?_, fun u u' o o' ho ho' e => ?_, fun u => ?_⟩
  · obtain ⟨hu, ho0, hu0, hc⟩ := h.edge ho
    rcases hc with ⟨h1, h2, h3, h4, h5⟩ | ⟨c, h1, h2, h3, h4, h5, h6, h7⟩
    · obtain ⟨q1, q2⟩ := h.T.pnl hu h1
      have hb := h.T.bup hu h1 h.hs h.s0 h2
      have hl := (h.T.blv h.hs h.s0 h2).2.2.1
      rw [h4]
      refine ⟨hu, q1, ho0, ?_⟩
      rw [rkM_in h2, rkM_in hb, q2]
      omega
    · have hlp := (h.T.pnl h1 h2).2
      rw [h4] at hlp
      rw [h5]
      refine ⟨hu, h1, ho0, ?_⟩
      rw [rkM_out h6]
      by_cases hb : belowT cs lv u s
      · rw [rkM_in hb]
        have := (h.T.lt s h.hs).2
        omega
      · rw [rkM_out hb]; omega
  · obtain ⟨hu, _, _, hc⟩ := h.edge ho
    obtain ⟨hu', _, _, hc'⟩ := h.edge ho'
    rcases hc with ⟨h1, h2, h3, h4, h5⟩ | ⟨c, h1, h2, h3, h4, h5, h6, h7⟩ <;> rcases hc' with ⟨g1, g2, g3, g4, g5⟩ | ⟨d, g1, g2, g3, g4, g5, g6, g7⟩
    · have q1 := (h.T.pnl hu h1).2
      have q2 := (h.T.pnl hu' g1).2
      rw [h4, g4] at e
      rw [e] at q1
      have := h.T.same h.hs h.s0 h2 g2 (by omega)
      subst this
      exact ⟨rfl, by rw [← h3, ← g3]⟩
    · have hb := h.T.bup hu h1 h.hs h.s0 h2
      rw [← h4, e, g5] at hb
      exact absurd hb g6
    · have hb := h.T.bup hu' g1 h.hs h.s0 g2
      rw [← g4, ← e, h5] at hb
      exact absurd hb h6
    · have : c = d := by rw [← h5, ← g5, e]
      subst this
      exact ⟨by rw [← h4, ← g4], by rw [← h3, ← g3]⟩
  · by_cases hu : u < ns.length
    · rw [rowsM_at hu]; exact (h.asc u).imp fun hab => by omega
    · rw [rowsM_out hu]; exact List.nodup_nil
/-- Upward from the source the tree reaches. -/
theorem MOk.up1 (h : MOk ns cs lv ms s) {m : Nat} (hm : memW ms m = true) (k : Nat) : ∀ a, (lv.getD s 0 - lv.getD a 0).toNat = k → a < ns.length → 0 < lv.getD a 0 → belowT cs lv a s → ¬ belowT cs lv a m → DT cs (rowsM ns cs lv ms s) s (pnT cs lv a) := by
  induction k with
  | zero =>
    intro a hk ha hl hb hn
    have q := h.T.blv h.hs h.s0 hb
    have e : a = s := q.2.2.2 (by omega)
    subst e
    exact DT.snoc (DT.refl _) (h.edge_up ha hl hb hm hn).2
  | succ k ih =>
    intro a hk ha hl hb hn
    have hne : a ≠ s := fun e => by subst e; omega
    obtain ⟨c, h1, h2, h3, h4⟩ := h.T.bchild h.hs h.s0 hb hne
    have hlp := (h.T.pnl h1 h2).2
    rw [h3] at hlp
    have hnc : ¬ belowT cs lv c m := fun hc => hn (by rw [← h3]; exact h.T.bup h1 h2 (h.hW m hm).1 (h.hW m hm).2 hc)
    have := ih c (by omega) h1 h2 h4 hnc
    rw [h3] at this
    exact DT.snoc this (h.edge_up ha hl hb hm hn).2
theorem MOk.reach_up (h : MOk ns cs lv ms s) {m a : Nat} (hm : memW ms m = true) (ha : a < ns.length) (ha0 : 0 ≤ lv.getD a 0) (hb : belowT cs lv a s) (hn : ∀ c, c < ns.length → 0 < lv.getD c 0 → pnT cs lv c = a → belowT cs lv c s → ¬ belowT cs lv c m) : DT cs (rowsM ns cs lv ms s) s a := by
  by_cases e : a = s
  · subst e; exact DT.refl _
  · obtain ⟨c, h1, h2, h3, h4⟩ := h.T.bchild h.hs h.s0 hb e
    have := h.up1 hm _ c rfl h1 h2 h4 (hn c h1 h2 h3 h4)
    rw [h3] at this
    exact this
theorem MOk.root_up (h : MOk ns cs lv ms s) {a m : Nat} (ha : a < ns.length) (hm : m < ns.length) (m0 : 0 ≤ lv.getD m 0) (hn : ¬ belowT cs lv a m) (ha0 : 0 ≤ lv.getD a 0) : 0 < lv.getD a 0 := by
  rcases Int.lt_or_le 0 (lv.getD a 0) with q | q
  · exact q
  · exact absurd (h.T.broot _ rfl ha (by omega) hm m0) hn
theorem MOk.down1 (h : MOk ns cs lv ms s) (k : Nat) : ∀ c, (lv.getD c 0).toNat = k → c < ns.length → 0 < lv.getD c 0 → ¬ belowT cs lv c s → wbT cs lv (memW ms) c → DT cs (rowsM ns cs lv ms s) s (pnT cs lv c) := by
  induction k with
  | zero => intro c hk _ hl; omega
  | succ k ih =>
    intro c hk hc hl hb hw
    obtain ⟨q1, q2⟩ := h.T.pnl hc hl
    obtain ⟨m, hm, hbm⟩ := hw
    obtain ⟨hmn, hm0⟩ := h.hW m hm
    by_cases hps : belowT cs lv (pnT cs lv c) s
    · refine h.reach_up hm q1 (by omega) hps fun d h1 h2 h3 h4 h5 => ?_
      have q3 := (h.T.pnl h1 h2).2
      rw [h3] at q3
      have e := h.T.same hmn hm0 h5 hbm (by omega)
      subst e
      exact hb h4
    · have hpl := h.root_up q1 h.hs h.s0 hps (by omega)
      have hw2 : wbT cs lv (memW ms) (pnT cs lv c) := ⟨m, hm, h.T.bup hc hl hmn hm0 hbm⟩
      exact DT.snoc (ih (pnT cs lv c) (by omega) q1 hpl hps hw2) (h.edge_down q1 hpl hps hw2).2
theorem MOk.reach_mem (h : MOk ns cs lv ms s) {m : Nat} (hm : memW ms m = true) : DT cs (rowsM ns cs lv ms s) s m := by
  obtain ⟨hmn, hm0⟩ := h.hW m hm
  by_cases hb : belowT cs lv m s
  · refine h.reach_up hm hmn hm0 hb fun c h1 h2 h3 _ h5 => ?_
    have q3 := (h.T.pnl h1 h2).2
    rw [h3] at q3
    have := (h.T.blv hmn hm0 h5).2.2.1
    omega
  · have hl := h.root_up hmn h.hs h.s0 hb hm0
    have hw : wbT cs lv (memW ms) m := ⟨m, hm, below_self m⟩
    exact DT.snoc (h.down1 _ m rfl hmn hl hb hw) (h.edge_down hmn hl hb hw).2
theorem MOk.reach_row (h : MOk ns cs lv ms s) {u : Nat} (hne : (rowsM ns cs lv ms s).getD u [] ≠ []) : DT cs (rowsM ns cs lv ms s) s u := by
  obtain ⟨o, ho⟩ := List.exists_mem_of_ne_nil _ hne
  obtain ⟨hu, _, hu0, hc⟩ := h.edge ho
  rcases hc with ⟨h1, h2, h3, h4, m, hm, h5⟩ | ⟨c, h1, h2, h3, h4, h5, h6, h7⟩
  · refine h.reach_up hm hu hu0 h2 fun c g1 g2 g3 g4 g5 => h5 ?_
    have := h.T.bup g1 g2 (h.hW m hm).1 (h.hW m hm).2 g5
    rw [g3] at this
    exact this
  · have := h.down1 _ c rfl h1 h2 h6 h7
    rw [h4] at this
    exact this
/-- A leaf is a member. -/
theorem MOk.leaf (h : MOk ns cs lv ms s) {u : Nat} (hne : u ≠ s) (hd : DT cs (rowsM ns cs lv ms s) s u) (he : (rowsM ns cs lv ms s).getD u [] = []) : memW ms u = true := by
  obtain ⟨k, hk⟩ := hd
  cases k with
  | zero => exact absurd (Eq.symm hk) hne
  | succ k =>
    obtain ⟨y, _, o, ho, e⟩ := dsc_last k hk
    obtain ⟨hy, _, hy0, hc⟩ := h.edge ho
    rcases hc with ⟨h1, h2, h3, h4, m, hm, h5⟩ | ⟨c, h1, h2, h3, h4, h5, h6, m, hm, h7⟩
    · rw [h4] at e
      subst e
      obtain ⟨q1, q2⟩ := h.T.pnl hy h1
      obtain ⟨hmn, hm0⟩ := h.hW m hm
      have hbs := h.T.bup hy h1 h.hs h.s0 h2
      by_cases hbm : belowT cs lv (pnT cs lv y) m
      · by_cases e : pnT cs lv y = m
        · rw [e]; exact hm
        · obtain ⟨c, g1, g2, g3, g4⟩ := h.T.bchild hmn hm0 hbm e
          have q3 := (h.T.pnl g1 g2).2
          rw [g3] at q3
          have hcs : ¬ belowT cs lv c s := fun hb => by
            have := h.T.same h.hs h.s0 hb h2 (by omega)
            subst this
            exact h5 g4
          have := (h.edge_down g1 g2 hcs ⟨m, hm, g4⟩).1
          rw [g3, he] at this
          cases this
      · have hl := h.root_up q1 hmn hm0 hbm (by omega)
        have := (h.edge_up q1 hl hbs hm hbm).1
        rw [he] at this
        cases this
    · rw [h5] at e
      subst e
      obtain ⟨hmn, hm0⟩ := h.hW m hm
      by_cases e : c = m
      · rw [e]; exact hm
      · obtain ⟨d, g1, g2, g3, g4⟩ := h.T.bchild hmn hm0 h7 e
        have hds : ¬ belowT cs lv d s := fun hb => by
          have := h.T.bup g1 g2 h.hs h.s0 hb
          rw [g3] at this
          exact h6 this
        have := (h.edge_down g1 g2 hds ⟨m, hm, g4⟩).1
        rw [g3, he] at this
        cases this
theorem ascB_of {l : List Int} (h : l.Pairwise (· < ·)) : ascB l = true := by
  induction l with
  | nil => rfl
  | cons a l ih =>
    rw [List.pairwise_cons] at h
    cases l with
    | nil => rfl
    | cons b l =>
      unfold ascB
      rw [decide_eq_true (h.1 b (List.mem_cons_self ..)), Bool.true_and]
      exact ih h.2
theorem MOk.rows_ok (h : MOk ns cs lv ms s) : rowsOk cs (rowsM ns cs lv ms s) = true := by
  unfold Go.Proofs.YtljojgpjgjfddaaGreat.rowsOk
  rw [List.all_eq_true]
  intro u hu
  rw [rowsM_len, List.mem_range] at hu
  rw [rowsM_at hu, ascB_of (h.asc u), Bool.true_and, List.all_eq_true]
  intro o ho
  obtain ⟨k, e, hk, _, he, _⟩ := PairT.cable h.T ((h.pair u o).1 ho)
  unfold isEndB
  rw [decide_eq_true (show 0 ≤ o by omega), decide_eq_true (show o < cs.length by omega), show o.toNat = k by omega, he]
  rfl
/-- The tree of Make, with its deliveries in order, is valid. -/
theorem MOk.ways (h : MOk ns cs lv ms s) {x : Tr} (hx : x.out = rowsM ns cs lv ms s) (hs : x.src = s) (hda : x.del.Pairwise (· < ·)) (hd : ∀ v, v ∈ x.del ↔ v ∈ ms) : waysB ns cs x = true := by
  refine ways_tree h.T.hv h.intree hx hs h.hs rowsM_len h.rows_ok (ascB_of hda) (fun v hv => ?_) (fun u hu => h.reach_row hu) (fun u hne hdt he => (hd _).2 (memW_iff.1 (h.leaf hne hdt he)))
  obtain ⟨h1, h2, _⟩ := h.node v ((hd v).1 hv)
  refine ⟨v.toNat, by omega, by omega, h.reach_mem (memW_iff.2 ?_)⟩
  have : ((v.toNat : Nat) : Int) = v := by omega
  rw [this]
  exact (hd v).1 hv
end
end Go.Proofs.YtljojgpjgjfddaaGreat
