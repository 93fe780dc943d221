/- The tree of tree.Make in closed form, upward from the source; and that each node's cables ascend. No program in sight. -/
import Derived.Test.YtljojgpjgjfddaaTForm
namespace Go.Proofs.Ytljojgpjgjfddaa
open Go.RowKit Go.Maps
set_option linter.unusedVariables false
set_option linter.unusedSimpArgs false

section
variable {ns : List Nd} {cs : List Cb} {lv : List Int}
/-- What is not searched from u, since the search came from there. -/
def ExT (ns : List Nd) (cs : List Cb) (lv : List Int) (u : Nat) (ov : Int) (E : Nat → Prop) : Prop :=
  (ov = -1 ∧ ∀ m, ¬ E m) ∨ ∃ c0, c0 < ns.length ∧ 0 < lv.getD c0 0 ∧ pnT cs lv c0 = u ∧ parV cs lv c0 = ov ∧ ∀ m, E m ↔ belowT cs lv c0 m
/-- The pairs of the tree: cables that lead up from a above the source, and such that lead down to c. -/
def PairT (ns : List Nd) (cs : List Cb) (lv : List Int) (W : Nat → Bool) (E : Nat → Prop) (u a : Nat) (i : Int) : Prop :=
  (a < ns.length ∧ 0 < lv.getD a 0 ∧ belowT cs lv a u ∧ parV cs lv a = i ∧ ∃ m, W m = true ∧ ¬ belowT cs lv a m) ∨
  ∃ c, c < ns.length ∧ 0 < lv.getD c 0 ∧ parV cs lv c = i ∧ pnT cs lv c = a ∧ ¬ E c ∧ ¬ belowT cs lv c u ∧ wbT cs lv W c
theorem TOk.pnl (T : TOk ns cs lv) {c : Nat} (hc : c < ns.length) (hl : 0 < lv.getD c 0) : pnT cs lv c < ns.length ∧ lv.getD (pnT cs lv c) 0 = lv.getD c 0 - 1 := by
  obtain ⟨_, _, _, _, h1, h2⟩ := T.up hc hl
  exact ⟨h1, h2⟩
/-- Two nodes of one level above the same node are equal. -/
theorem TOk.same (T : TOk ns cs lv) {m c d : Nat} (hm : m < ns.length) (h0 : 0 ≤ lv.getD m 0) (hc : belowT cs lv c m) (hd : belowT cs lv d m) (h : lv.getD c 0 = lv.getD d 0) : c = d := by
  have h1 := T.bcomp hm h0 hc hd (by omega)
  have h2 := T.blv hm h0 hd
  exact (T.blv h2.1 h2.2.1 h1).2.2.2 h
theorem TOk.upw (T : TOk ns cs lv) {W : Nat → Bool} (hW : ∀ m, W m = true → m < ns.length ∧ 0 ≤ lv.getD m 0) (f : Nat) : ∀ u ov E, u < ns.length → 0 ≤ lv.getD u 0 → ExT ns cs lv u ov E → FitsT cs lv f u ov →
    (needT cs lv W f u ov = true ↔ ∃ m, W m = true ∧ ¬ E m) ∧ ∀ a i, (a, i) ∈ outT cs lv W f u ov ↔ PairT ns cs lv W E u a i := by
  induction f with
  | zero => intro u ov E _ _ _ h; cases h
  | succ f ih =>
    intro u ov E hu h0 hE hf
    -- what is excluded lies below one child
    have E1 : ∀ m, m < ns.length → 0 ≤ lv.getD m 0 → E m → belowT cs lv u m ∧ u ≠ m := by
      intro m hm hm0 he
      rcases hE with ⟨_, h⟩ | ⟨c0, hc, hcl, hpu, hp, h⟩
      · exact absurd he (h m)
      · have hb := (h m).1 he
        have hl := T.pnl hc hcl
        have h2 := T.bup hc hcl hm hm0 hb
        rw [hpu] at h2 hl
        exact ⟨h2, fun e => by subst e; have := (T.blv hm hm0 hb).2.2.1; omega⟩
    have E2 : ∀ m c, m < ns.length → 0 ≤ lv.getD m 0 → E m → c < ns.length → 0 < lv.getD c 0 → pnT cs lv c = u → belowT cs lv c m → parV cs lv c = ov ∧ E c := by
      intro m c hm hm0 he hc hcl hpu hb
      rcases hE with ⟨_, h⟩ | ⟨c0, hc0, hcl0, hpu0, hp, h⟩
      · exact absurd he (h m)
      · have l1 := (T.pnl hc hcl).2
        have l2 := (T.pnl hc0 hcl0).2
        rw [hpu] at l1
        rw [hpu0] at l2
        have := T.same hm hm0 hb ((h m).1 he) (by omega)
        subst this
        exact ⟨hp, (h c).2 (below_self c)⟩
    have E3 : ∀ c, c < ns.length → 0 < lv.getD c 0 → pnT cs lv c = u → ¬ E c → parV cs lv c ≠ ov := by
      intro c hc hcl hpu hne e
      rcases hE with ⟨h1, _⟩ | ⟨c0, hc0, hcl0, hpu0, hp, h⟩
      · obtain ⟨i, _, hi, _⟩ := T.up hc hcl; omega
      · obtain ⟨i, _, hi, _⟩ := T.up hc hcl
        have := T.par_inj hc hc0 hi (by omega)
        subst this
        exact hne ((h c).2 (below_self c))
    have E4 : ∀ m x, m < ns.length → 0 ≤ lv.getD m 0 → belowT cs lv x m → E x → E m := by
      intro m x hm hm0 hb he
      rcases hE with ⟨_, h⟩ | ⟨c0, hc0, hcl0, hpu0, hp, h⟩
      · exact absurd he (h x)
      · exact (h m).2 (T.btrans hm hm0 ((h x).1 he) hb)
    have G : ∀ i, i < cs.length → goB cs lv u ov i = true →
        (parV cs lv u = (i : Int) ∧ 0 < lv.getD u 0 ∧ othN cs u i = pnT cs lv u ∧ (needT cs lv W f (pnT cs lv u) (i : Int) = true ↔ ∃ m, W m = true ∧ ¬ belowT cs lv u m) ∧ ∀ a j, (a, j) ∈ outT cs lv W f (pnT cs lv u) (i : Int) ↔ PairT ns cs lv W (belowT cs lv u) (pnT cs lv u) a j) ∨
        ∃ c, othN cs u i = c ∧ c < ns.length ∧ 0 < lv.getD c 0 ∧ parV cs lv c = (i : Int) ∧ pnT cs lv c = u ∧ ¬ E c ∧ (needT cs lv W f c (i : Int) = true ↔ wbT cs lv W c) ∧
        ∀ a j, (a, j) ∈ outT cs lv W f c (i : Int) ↔ belowT cs lv c a ∧ ∃ d, d < ns.length ∧ 0 < lv.getD d 0 ∧ parV cs lv d = j ∧ pnT cs lv d = a ∧ wbT cs lv W d := by
      intro i hi hg
      obtain ⟨hne, hc⟩ := T.go_cases hu hi hg
      have hf' := hf i hi hg
      rcases hc with ⟨hp, hl, ho⟩ | ⟨hcn, hcl, hp, hpu⟩
      · left
        rw [ho] at hf'
        obtain ⟨h1, h2⟩ := T.pnl hu hl
        have := ih (pnT cs lv u) i (belowT cs lv u) h1 (by omega) (.inr ⟨u, hu, hl, rfl, hp, fun m => Iff.rfl⟩) hf'
        exact ⟨hp, hl, ho, this⟩
      · right
        rw [← hp] at hf'
        obtain ⟨i1, i2⟩ := T.down hW f (othN cs u i) hcn (by omega) hf'
        rw [hp] at i1 i2
        exact ⟨othN cs u i, rfl, hcn, hcl, hp, hpu, fun he => by have := (E2 _ _ hcn (by omega) he hcn hcl hpu (below_self _)).1; rw [hp] at this; exact hne this, i1, i2⟩
    have K : ∀ c, c < ns.length → 0 < lv.getD c 0 → pnT cs lv c = u → ¬ E c → ∃ i : Nat, i < cs.length ∧ parV cs lv c = (i : Int) ∧ goB cs lv u ov i = true ∧ othN cs u i = c := by
      intro c hc hcl hpu hne
      obtain ⟨i, hi, hp, ht, hpn, hpl⟩ := T.up hc hcl
      have h5 := E3 c hc hcl hpu hne
      rw [hp] at h5
      obtain ⟨_, h2, h3⟩ := T.go_child hc hcl hp h5
      rw [hpu] at h2 h3
      exact ⟨i, hi, hp, h2, h3⟩
    have KU : 0 < lv.getD u 0 → ∃ i : Nat, i < cs.length ∧ parV cs lv u = (i : Int) ∧ goB cs lv u ov i = true ∧ othN cs u i = pnT cs lv u := by
      intro hl
      obtain ⟨i, hi, hp, ht, hpn, hpl⟩ := T.up hu hl
      have hne : (i : Int) ≠ ov := by
        intro e
        rcases hE with ⟨h1, _⟩ | ⟨c0, hc0, hcl0, hpu0, hp0, h⟩
        · omega
        · have := T.par_inj hu hc0 hp (by omega)
          subst this
          rw [hpu0] at hpl
          omega
      obtain ⟨_, h2, h3⟩ := T.go_up hu hl hp hne
      exact ⟨i, hi, hp, h2, h3⟩
    have ROOT : ∀ m, m < ns.length → 0 ≤ lv.getD m 0 → ¬ belowT cs lv u m → 0 < lv.getD u 0 := by
      intro m hm hm0 hb
      rcases Int.lt_or_le 0 (lv.getD u 0) with h | h
      · exact h
      · exact absurd (T.broot _ rfl hu (by omega) hm hm0) hb
    constructor
    · rw [mem_needT]
      constructor
      · rintro (h | ⟨i, hi, hg, hn⟩)
        · exact ⟨u, h, fun he => (E1 u hu h0 he).2 rfl⟩
        · rcases G i hi hg with ⟨hp, hl, ho, i1, _⟩ | ⟨c, e, hcn, hcl, hp, hpu, hnE, i1, _⟩
          · rw [ho] at hn
            obtain ⟨m, hm, hb⟩ := i1.1 hn
            exact ⟨m, hm, fun he => hb (E1 m (hW m hm).1 (hW m hm).2 he).1⟩
          · rw [e] at hn
            obtain ⟨m, hm, hb⟩ := i1.1 hn
            exact ⟨m, hm, fun he => hnE (E2 m c (hW m hm).1 (hW m hm).2 he hcn hcl hpu hb).2⟩
      · rintro ⟨m, hm, hne⟩
        obtain ⟨hmn, hm0⟩ := hW m hm
        by_cases hb : belowT cs lv u m
        · by_cases e : u = m
          · subst e; exact .inl hm
          · obtain ⟨c, hc, hcl, hpu, hbc⟩ := T.bchild hmn hm0 hb e
            have hnE : ¬ E c := fun he => hne (E4 m c hmn hm0 hbc he)
            obtain ⟨i, hi, hp, hg, ho⟩ := K c hc hcl hpu hnE
            rcases G i hi hg with ⟨hp', hl, ho', _⟩ | ⟨c', e', _, _, _, _, _, i1, _⟩
            · have := T.par_inj hc hu hp hp'
              subst this
              have := (T.pnl hc hcl).2
              rw [hpu] at this
              omega
            · have ec : c' = c := by rw [← e', ho]
              subst ec
              exact .inr ⟨i, hi, hg, by rw [ho]; exact i1.2 ⟨m, hm, hbc⟩⟩
        · have hl := ROOT m hmn hm0 hb
          obtain ⟨i, hi, hp, hg, ho⟩ := KU hl
          rcases G i hi hg with ⟨hp', _, ho', i1, _⟩ | ⟨c', e', hc', hcl', hp', hpu', _⟩
          · exact .inr ⟨i, hi, hg, by rw [ho]; exact i1.2 ⟨m, hm, hb⟩⟩
          · have := T.par_inj hc' hu hp' hp
            subst this
            have := (T.pnl hc' hcl').2
            rw [hpu'] at this
            omega
    · intro a j
      rw [mem_outT]
      constructor
      · rintro ⟨i, hi, hg, hx⟩
        rcases G i hi hg with ⟨hp, hl, ho, i1, i2⟩ | ⟨c, e, hcn, hcl, hp, hpu, hnE, i1, i2⟩
        · rw [ho] at hx
          rcases hx with h | ⟨h, h2⟩
          · rcases (i2 a j).1 h with ⟨ha, hal, hb, hpa, hm⟩ | ⟨c, hc, hcl, hpc, hpa, hnb, hnb2, hw⟩
            · exact .inl ⟨ha, hal, (T.below_cons hu hl a).2 (.inr hb), hpa, hm⟩
            · refine .inr ⟨c, hc, hcl, hpc, hpa, fun he => hnb (E1 c hc (by omega) he).1, fun hb => ?_, hw⟩
              rcases (T.below_cons hu hl c).1 hb with e | hb
              · subst e; exact hnb (below_self _)
              · exact hnb2 hb
          · injection h2 with h3 h4
            subst h3; subst h4
            exact .inl ⟨hu, hl, below_self _, hp, i1.1 h⟩
        · rw [e] at hx
          have lc := (T.pnl hcn hcl).2
          rw [hpu] at lc
          rcases hx with h | ⟨h, h2⟩
          · obtain ⟨hb, d, hd, hdl, hdp, hda, hdw⟩ := (i2 a j).1 h
            obtain ⟨q1, q2⟩ := T.pnl hd hdl
            rw [hda] at q1 q2
            have hbd : belowT cs lv c d := (T.below_cons hd hdl c).2 (.inr (by rw [hda]; exact hb))
            have hla := (T.blv q1 (by omega) hb).2.2.1
            exact .inr ⟨d, hd, hdl, hdp, hda, fun he => hnE (E2 d c hd (by omega) he hcn hcl hpu hbd).2, fun hb2 => by have := (T.blv hu h0 hb2).2.2.1; omega, hdw⟩
          · injection h2 with h3 h4
            subst h3; subst h4
            exact .inr ⟨c, hcn, hcl, hp, hpu, hnE, fun hb2 => by have := (T.blv hu h0 hb2).2.2.1; omega, i1.1 h⟩
      · rintro (⟨ha, hal, hb, hpa, m, hm, hnb⟩ | ⟨c, hc, hcl, hpc, hpa, hnE, hnb, hw⟩)
        · by_cases e : a = u
          · subst e
            obtain ⟨i, hi, hp, hg, ho⟩ := KU hal
            rcases G i hi hg with ⟨hp', _, ho', i1, _⟩ | ⟨c', e', hc', hcl', hp', hpu', _⟩
            · exact ⟨i, hi, hg, .inr ⟨by rw [ho]; exact i1.2 ⟨m, hm, hnb⟩, by rw [← hpa, hp]⟩⟩
            · have := T.par_inj hc' hu hp' hp
              subst this
              have := (T.pnl hc' hcl').2
              rw [hpu'] at this
              omega
          · have hl : 0 < lv.getD u 0 := by
              rcases Int.lt_or_le 0 (lv.getD u 0) with h | h
              · exact h
              · exact absurd ((below_root h).1 hb) e
            obtain ⟨i, hi, hp, hg, ho⟩ := KU hl
            rcases G i hi hg with ⟨hp', _, ho', _, i2⟩ | ⟨c', e', hc', hcl', hp', hpu', _⟩
            · refine ⟨i, hi, hg, .inl ?_⟩
              rw [ho]
              refine (i2 a j).2 (.inl ⟨ha, hal, ?_, hpa, m, hm, hnb⟩)
              rcases (T.below_cons hu hl a).1 hb with h | h
              · exact absurd h e
              · exact h
            · have := T.par_inj hc' hu hp' hp
              subst this
              have := (T.pnl hc' hcl').2
              rw [hpu'] at this
              omega
        · obtain ⟨q1, q2⟩ := T.pnl hc hcl
          rw [hpa] at q1 q2
          by_cases hb : belowT cs lv u a
          · by_cases e : u = a
            · subst e
              obtain ⟨i, hi, hp, hg, ho⟩ := K c hc hcl hpa hnE
              rcases G i hi hg with ⟨hp', hl, ho', _⟩ | ⟨c', e', _, _, _, _, _, i1, _⟩
              · have := T.par_inj hc hu hp hp'
                subst this
                omega
              · have ec : c' = c := by rw [← e', ho]
                subst ec
                exact ⟨i, hi, hg, .inr ⟨by rw [ho]; exact i1.2 hw, by rw [← hpc, hp]⟩⟩
            · obtain ⟨c2, hc2, hcl2, hpu2, hbc2⟩ := T.bchild q1 (by omega) hb e
              have hbd : belowT cs lv c2 c := (T.below_cons hc hcl c2).2 (.inr (by rw [hpa]; exact hbc2))
              obtain ⟨i, hi, hp, hg, ho⟩ := K c2 hc2 hcl2 hpu2 (fun he => hnE (E4 c c2 hc (by omega) hbd he))
              rcases G i hi hg with ⟨hp', hl, ho', _⟩ | ⟨c', e', _, _, _, _, _, _, i2⟩
              · have := T.par_inj hc2 hu hp hp'
                subst this
                have := (T.pnl hc2 hcl2).2
                rw [hpu2] at this
                omega
              · have ec : c' = c2 := by rw [← e', ho]
                subst ec
                refine ⟨i, hi, hg, .inl ?_⟩
                rw [ho]
                exact (i2 a j).2 ⟨hbc2, c, hc, hcl, hpc, hpa, hw⟩
          · have hl := ROOT a q1 (by omega) hb
            obtain ⟨i, hi, hp, hg, ho⟩ := KU hl
            rcases G i hi hg with ⟨hp', _, ho', _, i2⟩ | ⟨c', e', hc', hcl', hp', hpu', _⟩
            · refine ⟨i, hi, hg, .inl ?_⟩
              rw [ho]
              refine (i2 a j).2 (.inr ⟨c, hc, hcl, hpc, hpa, fun h => ?_, fun h => hnb ((T.below_cons hu hl c).2 (.inr h)), hw⟩)
              rcases (T.below_cons hc hcl u).1 h with e | h
              · subst e; exact hnb (below_self _)
              · rw [hpa] at h; exact hb h
            · have := T.par_inj hc' hu hp' hp
              subst this
              have := (T.pnl hc' hcl').2
              rw [hpu'] at this
              omega
/-- The pairs at one node ascend. -/
def AscT (L : List (Nat × Int)) : Prop := ∀ a, (outAt L a).Pairwise (· < ·)
theorem outAt_flat {α : Type} (L : List α) (F : α → List (Nat × Int)) (a : Nat) : outAt (L.flatMap F) a = L.flatMap fun x => outAt (F x) a := by
  induction L with
  | nil => rfl
  | cons x L ih => rw [List.flatMap_cons, List.flatMap_cons, outAt_append, ih]
theorem asc_step {W : Nat → Bool} {f u : Nat} {ov : Int} (h1 : ∀ i, i < cs.length → goB cs lv u ov i = true → AscT (outT cs lv W f (othN cs u i) (i : Int)) ∧ ∀ y, (u, y) ∉ outT cs lv W f (othN cs u i) (i : Int))
    (h2 : ∀ i j, i < cs.length → j < cs.length → i ≠ j → goB cs lv u ov i = true → goB cs lv u ov j = true → ∀ a x y, (a, x) ∈ outT cs lv W f (othN cs u i) (i : Int) → (a, y) ∈ outT cs lv W f (othN cs u j) (j : Int) → False) : AscT (outT cs lv W (f + 1) u ov) := by
  intro a
  rw [outT, outAt_flat, List.pairwise_flatMap]
  have nil : ∀ i, i < cs.length → goB cs lv u ov i = true → outAt (outT cs lv W f (othN cs u i) (i : Int)) u = [] := fun i hi hg => by
    rw [List.eq_nil_iff_forall_not_mem]
    intro x hx
    exact (h1 i hi hg).2 x (outAt_mem.1 hx)
  constructor
  · intro i hi
    rw [List.mem_range] at hi
    split
    · rename_i hg
      rw [outAt_append]
      by_cases e : a = u
      · subst e
        rw [nil i hi hg, List.nil_append]
        split
        · rw [outAt_same]; exact List.pairwise_singleton _ _
        · exact List.Pairwise.nil
      · split
        · rw [outAt_other _ e, List.append_nil]; exact (h1 i hi hg).1 a
        · rw [outAt_nil, List.append_nil]; exact (h1 i hi hg).1 a
    · exact List.Pairwise.nil
  · refine List.Pairwise.imp_of_mem ?_ (List.pairwise_lt_range (n := cs.length))
    intro i j hi hj hlt x hx y hy
    rw [List.mem_range] at hi hj
    split at hx
    · rename_i hgi
      split at hy
      · rename_i hgj
        rw [outAt_append] at hx hy
        by_cases e : a = u
        · subst e
          rw [nil i hi hgi, List.nil_append] at hx
          rw [nil j hj hgj, List.nil_append] at hy
          split at hx
          · split at hy
            · rw [outAt_same, List.mem_singleton] at hx hy
              omega
            · cases hy
          · cases hx
        · have fx : x ∈ outAt (outT cs lv W f (othN cs u i) (i : Int)) a := by
            rcases List.mem_append.1 hx with h | h
            · exact h
            · split at h
              · rw [outAt_other _ e] at h; cases h
              · cases h
          have fy : y ∈ outAt (outT cs lv W f (othN cs u j) (j : Int)) a := by
            rcases List.mem_append.1 hy with h | h
            · exact h
            · split at h
              · rw [outAt_other _ e] at h; cases h
              · cases h
          exact absurd (outAt_mem.1 fy) (fun h => h2 i j hi hj (by omega) hgi hgj a x y (outAt_mem.1 fx) h)
      · cases hy
    · cases hx
theorem TOk.asc_down (T : TOk ns cs lv) {W : Nat → Bool} (hW : ∀ m, W m = true → m < ns.length ∧ 0 ≤ lv.getD m 0) (f : Nat) : ∀ u, u < ns.length → 0 ≤ lv.getD u 0 → FitsT cs lv f u (parV cs lv u) → AscT (outT cs lv W f u (parV cs lv u)) := by
  induction f with
  | zero => intro u _ _ h; cases h
  | succ f ih =>
    intro u hu h0 hf
    have G : ∀ i, i < cs.length → goB cs lv u (parV cs lv u) i = true → ∃ c, othN cs u i = c ∧ c < ns.length ∧ 0 < lv.getD c 0 ∧ parV cs lv c = (i : Int) ∧ pnT cs lv c = u ∧ FitsT cs lv f c (parV cs lv c) := by
      intro i hi hg
      obtain ⟨hne, hc⟩ := T.go_cases hu hi hg
      rcases hc with ⟨hp, _⟩ | ⟨hcn, hcl, hp, hpu⟩
      · exact absurd hp.symm hne
      · have hf' := hf i hi hg
        rw [← hp] at hf'
        exact ⟨othN cs u i, rfl, hcn, hcl, hp, hpu, hf'⟩
    refine asc_step (fun i hi hg => ?_) (fun i j hi hj hne hgi hgj a x y hx hy => ?_)
    · obtain ⟨c, e, hcn, hcl, hp, hpu, hf'⟩ := G i hi hg
      rw [e, ← hp]
      refine ⟨ih c hcn (by omega) hf', fun y hy => ?_⟩
      have hb := (((T.down hW f c hcn (by omega) hf').2 u y).1 hy).1
      have h1 := (T.pnl hcn hcl).2
      have h2 := (T.blv hu h0 hb).2.2.1
      rw [hpu] at h1
      omega
    · obtain ⟨c, e, hcn, hcl, hp, hpu, hf'⟩ := G i hi hgi
      obtain ⟨d, e2, hdn, hdl, hp2, hpu2, hf2⟩ := G j hj hgj
      rw [e, ← hp] at hx
      rw [e2, ← hp2] at hy
      obtain ⟨hb, k, hk, hkl, _, hka, _⟩ := ((T.down hW f c hcn (by omega) hf').2 a x).1 hx
      obtain ⟨hb2, _⟩ := ((T.down hW f d hdn (by omega) hf2).2 a y).1 hy
      have h1 := (T.pnl hcn hcl).2
      have h2 := (T.pnl hdn hdl).2
      obtain ⟨h3, h4⟩ := T.pnl hk hkl
      rw [hpu] at h1
      rw [hpu2] at h2
      rw [hka] at h3 h4
      have := T.same h3 (by omega) hb hb2 (by omega)
      subst this
      omega
theorem TOk.asc_up (T : TOk ns cs lv) {W : Nat → Bool} (hW : ∀ m, W m = true → m < ns.length ∧ 0 ≤ lv.getD m 0) (f : Nat) : ∀ u ov E, u < ns.length → 0 ≤ lv.getD u 0 → ExT ns cs lv u ov E → FitsT cs lv f u ov → AscT (outT cs lv W f u ov) := by
  induction f with
  | zero => intro u ov E _ _ _ h; cases h
  | succ f ih =>
    intro u ov E hu h0 hE hf
    have G : ∀ i, i < cs.length → goB cs lv u ov i = true →
        (parV cs lv u = (i : Int) ∧ 0 < lv.getD u 0 ∧ othN cs u i = pnT cs lv u ∧ FitsT cs lv f (pnT cs lv u) (i : Int) ∧ ∀ a x, (a, x) ∈ outT cs lv W f (pnT cs lv u) (i : Int) → a < ns.length ∧ 0 ≤ lv.getD a 0 ∧ ¬ belowT cs lv u a) ∨
        ∃ c, othN cs u i = c ∧ c < ns.length ∧ 0 < lv.getD c 0 ∧ parV cs lv c = (i : Int) ∧ pnT cs lv c = u ∧ FitsT cs lv f c (parV cs lv c) ∧ ∀ a x, (a, x) ∈ outT cs lv W f c (i : Int) → a < ns.length ∧ 0 ≤ lv.getD a 0 ∧ belowT cs lv c a := by
      intro i hi hg
      obtain ⟨hne, hc⟩ := T.go_cases hu hi hg
      have hf' := hf i hi hg
      rcases hc with ⟨hp, hl, ho⟩ | ⟨hcn, hcl, hp, hpu⟩
      · left
        rw [ho] at hf'
        obtain ⟨h1, h2⟩ := T.pnl hu hl
        refine ⟨hp, hl, ho, hf', fun a x hx => ?_⟩
        have := ((T.upw hW f (pnT cs lv u) i (belowT cs lv u) h1 (by omega) (.inr ⟨u, hu, hl, rfl, hp, fun m => Iff.rfl⟩) hf').2 a x).1 hx
        rcases this with ⟨ha, hal, hb, _⟩ | ⟨c, hc, hcl, _, hpa, hnb, _⟩
        · refine ⟨ha, by omega, fun h => ?_⟩
          have h3 := (T.blv h1 (by omega) hb).2.2.1
          have h4 := (T.blv ha (by omega) h).2.2.1
          omega
        · obtain ⟨q1, q2⟩ := T.pnl hc hcl
          rw [hpa] at q1 q2
          exact ⟨q1, by omega, fun h => hnb ((T.below_cons hc hcl u).2 (.inr (by rw [hpa]; exact h)))⟩
      · right
        rw [← hp] at hf'
        refine ⟨othN cs u i, rfl, hcn, hcl, hp, hpu, hf', fun a x hx => ?_⟩
        rw [← hp] at hx
        obtain ⟨hb, k, hk, hkl, _, hka, _⟩ := ((T.down hW f _ hcn (by omega) hf').2 a x).1 hx
        obtain ⟨h3, h4⟩ := T.pnl hk hkl
        rw [hka] at h3 h4
        exact ⟨h3, by omega, hb⟩
    refine asc_step (fun i hi hg => ?_) (fun i j hi hj hne hgi hgj a x y hx hy => ?_)
    · rcases G i hi hg with ⟨hp, hl, ho, hf', hr⟩ | ⟨c, e, hcn, hcl, hp, hpu, hf', hr⟩
      · obtain ⟨h1, h2⟩ := T.pnl hu hl
        rw [ho]
        exact ⟨ih (pnT cs lv u) i (belowT cs lv u) h1 (by omega) (.inr ⟨u, hu, hl, rfl, hp, fun m => Iff.rfl⟩) hf', fun y hy => (hr u y hy).2.2 (below_self u)⟩
      · rw [e]
        have h1 := (T.pnl hcn hcl).2
        rw [hpu] at h1
        refine ⟨by rw [← hp]; exact T.asc_down hW f c hcn (by omega) hf', fun y hy => ?_⟩
        have := (T.blv hu h0 (hr u y hy).2.2).2.2.1
        omega
    · have BU : ∀ c, c < ns.length → 0 < lv.getD c 0 → pnT cs lv c = u → ∀ a, a < ns.length → 0 ≤ lv.getD a 0 → belowT cs lv c a → belowT cs lv u a := fun c hc hcl hpu a ha ha0 hb => by
        rw [← hpu]; exact T.bup hc hcl ha ha0 hb
      rcases G i hi hgi with ⟨hp, hl, ho, hf', hr⟩ | ⟨c, e, hcn, hcl, hp, hpu, hf', hr⟩
      · rcases G j hj hgj with ⟨hp2, _⟩ | ⟨d, e2, hdn, hdl, hp2, hpu2, hf2, hr2⟩
        · omega
        · rw [ho] at hx
          rw [e2] at hy
          obtain ⟨q1, q2, q3⟩ := hr a x hx
          exact q3 (BU d hdn hdl hpu2 a q1 q2 (hr2 a y hy).2.2)
      · rcases G j hj hgj with ⟨hp2, hl2, ho2, hf2, hr2⟩ | ⟨d, e2, hdn, hdl, hp2, hpu2, hf2, hr2⟩
        · rw [e] at hx
          rw [ho2] at hy
          obtain ⟨q1, q2, q3⟩ := hr2 a y hy
          exact q3 (BU c hcn hcl hpu a q1 q2 (hr a x hx).2.2)
        · rw [e] at hx
          rw [e2] at hy
          obtain ⟨q1, q2, q3⟩ := hr a x hx
          have h1 := (T.pnl hcn hcl).2
          have h2 := (T.pnl hdn hdl).2
          rw [hpu] at h1
          rw [hpu2] at h2
          have := T.same q1 q2 q3 (hr2 a y hy).2.2 (by omega)
          subst this
          omega
end
end Go.Proofs.Ytljojgpjgjfddaa
