/- Several texts in one: TSpoilP, TValG, TDepP, CEnds, TDepA, TDepB. -/
import Derived.Test.YtljojgpjgjfddaaGreatTValM
import Derived.Test.YtljojgpjgjfddaaGreatCAbove
import Derived.Test.YtljojgpjgjfddaaGreatTVal
import Derived.Test.YtljojgpjgjfddaaGreatR14b
import Derived.Test.YtljojgpjgjfddaaGreatCCmp
import Derived.Test.YtljojgpjgjfddaaGreatLaidD
import Derived.Shelf.SlSortCmp.NoneTotal

/- Spoilt trees are not valid; what reach tells of a tree that it finds sound. No program in sight. -/
namespace Go.Proofs.YtljojgpjgjfddaaGreat
open Go.RowKit Go.Maps
set_option linter.unusedVariables false
set_option linter.unusedSimpArgs false

section
variable {n : Nat} {cs : List Cb} {out : List (List Int)} {r : Nat → Nat}
theorem goR_true {g : List Int → Nat → Int → List Int × Bool} {u : Nat} {o : Int} {l ov : List Int} (h : (goR cs g u (o :: l) ov).2 = true) : (g ov (othN cs u o.toNat) o).2 = true ∧ goR cs g u (o :: l) ov = goR cs g u l (g ov (othN cs u o.toNat) o).1 := by
  rw [goR] at h ⊢
  by_cases q : (g ov (othN cs u o.toNat) o).2 = true
  · rw [if_pos q]; exact ⟨q, rfl⟩
  · rw [if_neg q] at h; cases h
theorem visR_sound (H : ∀ u o, o ∈ out.getD u [] → othN cs u o.toNat < n ∧ o ≠ -2) (f : Nat) : ∀ (ov : List Int) (u : Nat) (c : Int), ov.length = n → u < n → c ≠ -2 → (visR cs out f ov u c).2 = true →
    (∀ x, ov.getD x 0 ≠ -2 → (visR cs out f ov u c).1.getD x 0 = ov.getD x 0) ∧ (visR cs out f ov u c).1.getD u 0 = c ∧ ov.getD u 0 = -2 ∧ ∀ x, ov.getD x 0 = -2 → (visR cs out f ov u c).1.getD x 0 ≠ -2 → ∀ o ∈ out.getD x [], (visR cs out f ov u c).1.getD (othN cs x o.toNat) 0 = o := by
  induction f with
  | zero => intro ov u c _ _ _ h; cases h
  | succ f ih =>
    intro ov u c hl hu hc h
    by_cases h0 : ov.getD u 0 = -2
    · have hv : visR cs out (f + 1) ov u c = goR cs (visR cs out f) u (out.getD u []) (ov.set u c) := by rw [visR, if_pos h0]
      rw [hv] at h ⊢
      have G : ∀ (l : List Int) (ov1 : List Int), (∀ o ∈ l, o ∈ out.getD u []) → ov1.length = n → (goR cs (visR cs out f) u l ov1).2 = true →
          (∀ x, ov1.getD x 0 ≠ -2 → (goR cs (visR cs out f) u l ov1).1.getD x 0 = ov1.getD x 0) ∧ (∀ o ∈ l, (goR cs (visR cs out f) u l ov1).1.getD (othN cs u o.toNat) 0 = o) ∧
          ∀ x, ov1.getD x 0 = -2 → (goR cs (visR cs out f) u l ov1).1.getD x 0 ≠ -2 → ∀ o ∈ out.getD x [], (goR cs (visR cs out f) u l ov1).1.getD (othN cs x o.toNat) 0 = o := by
        intro l
        induction l with
        | nil => intro ov1 _ _ _; exact ⟨fun x _ => rfl, fun o ho => (by cases ho), fun x h1 h2 => absurd h1 h2⟩
        | cons o l ihl =>
          intro ov1 hm hl1 ht
          obtain ⟨t1, t2⟩ := goR_true ht
          obtain ⟨hvn, ho2⟩ := H u o (hm o (List.mem_cons_self ..))
          obtain ⟨a1, a2, _, a4⟩ := ih ov1 (othN cs u o.toNat) o hl1 hvn ho2 t1
          rw [t2] at ht ⊢
          obtain ⟨b1, b2, b3⟩ := ihl (visR cs out f ov1 (othN cs u o.toNat) o).1 (fun o' ho' => hm o' (List.mem_cons_of_mem _ ho')) (by rw [visR_len]; exact hl1) ht
          refine ⟨fun x hx => ?_, fun o' ho' => ?_, fun x h1 h2 o' ho' => ?_⟩
          · have e := a1 x hx
            rw [b1 x (by rw [e]; exact hx), e]
          · rcases List.mem_cons.1 ho' with rfl | ho'
            · rw [b1 _ (by rw [a2]; exact ho2), a2]
            · exact b2 o' ho'
          · by_cases q : (visR cs out f ov1 (othN cs u o.toNat) o).1.getD x 0 = -2
            · exact b3 x q h2 o' ho'
            · have e := a4 x h1 q o' ho'
              have := (H x o' ho').2
              rw [b1 _ (by rw [e]; exact this), e]
      have hset : ∀ x, x ≠ u → (ov.set u c).getD x 0 = ov.getD x 0 := fun x hx => by simp [List.getD, List.getElem?_set, show ¬ u = x from fun e => hx e.symm]
      have hsu : (ov.set u c).getD u 0 = c := by simp [List.getD, show u < ov.length by omega]
      obtain ⟨g1, g2, g3⟩ := G (out.getD u []) (ov.set u c) (fun o ho => ho) (by rw [List.length_set]; exact hl) h
      refine ⟨fun x hx => ?_, ?_, h0, fun x h1 h2 => ?_⟩
      · have hne : x ≠ u := fun e => hx (e ▸ h0)
        rw [g1 x (by rw [hset x hne]; exact hx), hset x hne]
      · rw [g1 u (by rw [hsu]; exact hc), hsu]
      · by_cases e : x = u
        · subst e; exact g2
        · exact g3 x (by rw [hset x e]; exact h1) h2
    · have hv : visR cs out (f + 1) ov u c = (ov, false) := by rw [visR, if_neg h0]
      rw [hv] at h; cases h
theorem reach_sound (H : ∀ u o, o ∈ out.getD u [] → othN cs u o.toNat < n ∧ o ≠ -2) {x : Tr} (hx : x.out = out) {s : Nat} (hs : x.src = s) (hsn : s < n) (h : (reachR n cs x).2 = true) :
    (reachR n cs x).1.getD s 0 = -1 ∧ (∀ v, v < n → (reachR n cs x).1.getD v 0 ≠ -2 → ∀ o ∈ out.getD v [], (reachR n cs x).1.getD (othN cs v o.toNat) 0 = o) ∧ ∀ v, DT cs out s v → v < n ∧ (reachR n cs x).1.getD v 0 ≠ -2 := by
  unfold reachR at h ⊢
  rw [hs, Int.toNat_natCast, hx] at h ⊢
  have hz : ∀ v, v < n → (over0 n).getD v 0 = -2 := fun v hv => by unfold over0; simp [List.getD, hv]
  obtain ⟨h1, h2, h3, h4⟩ := visR_sound H (n + 1) (over0 n) s (-1) (by unfold over0; simp) hsn (by decide) h
  have h5 : ∀ v, v < n → (visR cs out (n + 1) (over0 n) s (-1)).1.getD v 0 ≠ -2 → ∀ o ∈ out.getD v [], (visR cs out (n + 1) (over0 n) s (-1)).1.getD (othN cs v o.toNat) 0 = o := fun v hv hq => h4 v (hz v hv) hq
  refine ⟨h2, h5, ?_⟩
  rintro v ⟨k, hk⟩
  induction k generalizing v with
  | zero => cases hk; exact ⟨hsn, by rw [h2]; decide⟩
  | succ k ih =>
    obtain ⟨y, hy, o, ho, rfl⟩ := dsc_last k hk
    obtain ⟨q1, q2⟩ := ih y hy
    obtain ⟨q3, q4⟩ := H y o ho
    exact ⟨q3, by rw [h5 y q1 q2 o ho]; exact q4⟩
theorem InTree.sub {out' : List (List Int)} (I : InTree n cs out r) (hs : ∀ u, (out'.getD u []).Sublist (out.getD u [])) : InTree n cs out' r :=
  ⟨fun u o ho => I.go u o ((hs u).subset ho), fun u u' o o' ho ho' e => I.one u u' o o' ((hs u).subset ho) ((hs u').subset ho') e, fun u => (hs u).nodup (I.nodup u)⟩
theorem DT.mono {out' : List (List Int)} (hs : ∀ u o, o ∈ out.getD u [] → o ∈ out'.getD u []) {s v : Nat} (h : DT cs out s v) : DT cs out' s v := by
  obtain ⟨k, hk⟩ := h
  induction k generalizing s with
  | zero => exact ⟨0, hk⟩
  | succ k ih => obtain ⟨w, ⟨o, ho, e⟩, h2⟩ := hk; exact DT.step ⟨o, hs _ o ho, e⟩ (ih h2)
end
section
variable {ns : List Nd} {cs : List Cb} {lv ms : List Int} {s : Nat}
theorem rows_touch (hv : validP ⟨ns, cs⟩ = 0) {out : List (List Int)} (hr : rowsOk cs out = true) {u : Nat} {o : Int} (ho : o ∈ out.getD u []) : ∃ k : Nat, o = k ∧ k < cs.length ∧ touchT (cs.getD k cb0) u (othN cs u k) ∧ othN cs u k < ns.length := by
  have hu : u < out.length := by
    rcases Nat.lt_or_ge u out.length with q | q
    · exact q
    · simp [List.getD, List.getElem?_eq_none q] at ho
  unfold Go.Proofs.YtljojgpjgjfddaaGreat.rowsOk at hr
  have h1 := List.all_eq_true.1 hr u (List.mem_range.2 hu)
  rw [Bool.and_eq_true] at h1
  have h2 := List.all_eq_true.1 h1.2 o ho
  unfold isEndB at h2
  simp only [Bool.and_eq_true, decide_eq_true_eq] at h2
  obtain ⟨⟨q1, q2⟩, q3⟩ := h2
  have hk : o.toNat < cs.length := by omega
  have hm : cs.getD o.toNat cb0 ∈ cs := by simp [List.getD, hk]
  obtain ⟨⟨a0, a1⟩, b0, b1⟩ := cab_node hv hm
  obtain ⟨v, e, ht⟩ := oth_touch q3 a0 b0
  have e2 : othN cs u o.toNat = v := by unfold othN; rw [e]; simp
  refine ⟨o.toNat, by omega, hk, by rw [e2]; exact ht, ?_⟩
  rw [e2]
  rcases ht with ⟨_, h2⟩ | ⟨_, h2⟩ <;> omega
theorem waysB_parts {x : Tr} (h : waysB ns cs x = true) : validP ⟨ns, cs⟩ = 0 ∧ 0 ≤ x.src ∧ x.src < ns.length ∧ x.out.length = ns.length ∧ rowsOk cs x.out = true ∧ (reachR ns.length cs x).2 = true ∧ ascB x.del = true ∧ delOk ns.length (reachR ns.length cs x).1 x.del = true ∧ (List.range ns.length).all (rowFine (reachR ns.length cs x).1 x) = true := by
  unfold waysB waysB1 at h
  simp only [Bool.and_eq_true, decide_eq_true_eq] at h
  obtain ⟨⟨⟨⟨⟨h1, h2⟩, h3⟩, h4⟩, h5⟩, ⟨⟨h6, h7⟩, h8⟩, h9⟩ := h
  exact ⟨h1, h2, h3, h4, h5, h6, h7, h8, h9⟩
/-- With a cable back to where a frame came from, a tree is not valid. -/
theorem MOk.back_bad (h : MOk ns cs lv ms s) {z : Tr} (hs : z.src = s) (hsub : ∀ u o, o ∈ (rowsM ns cs lv ms s).getD u [] → o ∈ z.out.getD u []) {u : Nat} {c : Int} (hc : c ∈ (rowsM ns cs lv ms s).getD u []) (hz : c ∈ z.out.getD (othN cs u c.toNat) []) : waysB ns cs z = false := by
  cases hw : waysB ns cs z with
  | false => rfl
  | true =>
    obtain ⟨_, _, _, _, hr, ht, _⟩ := waysB_parts hw
    have H : ∀ u o, o ∈ z.out.getD u [] → othN cs u o.toNat < ns.length ∧ o ≠ -2 := fun u o ho => by
      obtain ⟨k, rfl, _, _, q⟩ := rows_touch h.T.hv hr ho
      rw [Int.toNat_natCast]
      exact ⟨q, by omega⟩
    obtain ⟨r1, r2, r3⟩ := reach_sound H rfl hs h.hs ht
    have hdx := h.reach_row (u := u) (fun e => by rw [e] at hc; cases hc)
    obtain ⟨u1, u2⟩ := r3 u (hdx.mono hsub)
    have hcz := hsub u c hc
    have v1 := r2 u u1 u2 c hcz
    obtain ⟨v2, v3⟩ := H u c hcz
    obtain ⟨k, hk, hkl, htc, _⟩ := rows_touch h.T.hv hr hcz
    subst hk
    rw [Int.toNat_natCast] at *
    have b1 := r2 _ v2 (by rw [v1]; exact v3) (k : Int) hz
    rw [Int.toNat_natCast, oth_of (touchT_symm htc)] at b1
    obtain ⟨j, hj⟩ := hdx
    cases j with
    | zero =>
      have e : s = u := hj
      subst e
      rw [r1] at b1
      omega
    | succ j =>
      obtain ⟨y, hy, o', ho', e⟩ := dsc_last j hj
      obtain ⟨y1, y2⟩ := r3 y (DT.mono hsub ⟨j, hy⟩)
      have q := r2 y y1 y2 o' (hsub y o' ho')
      rw [e, b1] at q
      subst q
      obtain ⟨k', hk', _, htk, _⟩ := rows_touch h.T.hv h.rows_ok ho'
      have : k' = k := by omega
      subst this
      rw [Int.toNat_natCast] at e
      rw [e] at htk
      have e2 : othN cs u k' = y := oth_of (touchT_symm htk)
      have g1 := (h.intree.go u _ hc).2.2.2
      have g2 := (h.intree.go y _ ho').2.2.2
      rw [Int.toNat_natCast] at g1 g2
      rw [e2] at g1
      rw [e] at g2
      omega
/-- With a cable taken away that leads on, a tree is not valid. -/
theorem MOk.cut_bad (h : MOk ns cs lv ms s) {y : Tr} (hs : y.src = s) (hdel : ∀ v, v ∈ ms → v ∈ y.del) {u : Nat} {c : Int} {l : List Int} (hu : (rowsM ns cs lv ms s).getD u [] = c :: l) (hy : ∀ w, y.out.getD w [] = if w = u then l else (rowsM ns cs lv ms s).getD w []) : waysB ns cs y = false := by
  have I := h.intree
  have I2 : InTree ns.length cs y.out (rkM ns cs lv s) := I.sub fun w => by
    rw [hy w]
    by_cases e : w = u
    · subst e; rw [if_pos rfl, hu]; exact List.sublist_cons_self c l
    · rw [if_neg e]; exact List.Sublist.refl _
  have hcm : c ∈ (rowsM ns cs lv ms s).getD u [] := by rw [hu]; exact List.mem_cons_self ..
  obtain ⟨hun, hvn, hc0, hrk⟩ := I.go u c hcm
  have hnd := I.nodup u
  rw [hu, List.nodup_cons] at hnd
  obtain ⟨_, _, _, _, r5⟩ := reach_tree I2 y rfl hs h.hs
  have hvs : othN cs u c.toNat ≠ s := fun e => by
    have : rkM ns cs lv s s = 0 := by rw [rkM_in (below_self s)]; omega
    rw [e, this] at hrk
    omega
  have hnr : ¬ DT cs y.out s (othN cs u c.toNat) := by
    rintro ⟨j, hj⟩
    cases j with
    | zero => exact hvs (Eq.symm hj)
    | succ j =>
      obtain ⟨w, _, o, ho, e⟩ := dsc_last j hj
      have hox : o ∈ (rowsM ns cs lv ms s).getD w [] := by
        rw [hy w] at ho
        by_cases q : w = u
        · subst q; rw [if_pos rfl] at ho; rw [hu]; exact List.mem_cons_of_mem _ ho
        · rw [if_neg q] at ho; exact ho
      obtain ⟨q1, q2⟩ := I.one _ _ _ _ hox hcm e
      subst q1; subst q2
      rw [hy w, if_pos rfl] at ho
      exact hnd.1 ho
  have hov := r5 _ hvn hnr
  have hvu : othN cs u c.toNat ≠ u := fun e => by rw [e] at hrk; omega
  by_cases hne : (rowsM ns cs lv ms s).getD (othN cs u c.toNat) [] = []
  · have hdv : DT cs (rowsM ns cs lv ms s) s (othN cs u c.toNat) := DT.snoc (h.reach_row (fun e => by rw [e] at hcm; cases hcm)) ⟨c, hcm, rfl⟩
    have hm := hdel _ (memW_iff.1 (h.leaf hvs hdv hne))
    refine wb7 ?_
    rw [List.all_eq_false]
    refine ⟨_, hm, ?_⟩
    unfold delB
    rw [Int.toNat_natCast, hov]
    simp
  · refine wb8 ?_
    rw [List.all_eq_false]
    refine ⟨_, List.mem_range.2 hvn, ?_⟩
    unfold rowFine
    have : 0 < (y.out.getD (othN cs u c.toNat) []).length := by
      rw [hy, if_neg hvu]
      exact List.length_pos_iff.2 hne
    rw [hov, decide_eq_true this]
    simp
/-- With a delivery at no node. -/
theorem del_bad {y : Tr} {v : Int} (hv : v ∈ y.del) (h : ¬ v < ns.length) : waysB ns cs y = false := by
  refine wb7 ?_
  rw [List.all_eq_false]
  refine ⟨v, hv, ?_⟩
  unfold delB
  rw [decide_eq_false h]
  simp
end
end Go.Proofs.YtljojgpjgjfddaaGreat

/- A valid tree, any: its cables make a tree from the source over which reach goes. No program in sight. -/
namespace Go.Proofs.YtljojgpjgjfddaaGreat
open Go.RowKit Go.Maps
set_option linter.unusedVariables false
set_option linter.unusedSimpArgs false

section
variable {n : Nat} {cs : List Cb} {out : List (List Int)}
theorem goR_reach {g : List Int → Nat → Int → List Int × Bool} {u : Nat} (hg : ∀ (ov : List Int) (o : Int) (v : Nat), (g ov (othN cs u o.toNat) o).1.getD v 0 ≠ -2 → ov.getD v 0 ≠ -2 ∨ DT cs out (othN cs u o.toNat) v) :
    ∀ (l : List Int) (ov : List Int) (v : Nat), (∀ o ∈ l, o ∈ out.getD u []) → (goR cs g u l ov).1.getD v 0 ≠ -2 → ov.getD v 0 ≠ -2 ∨ DT cs out u v := by
  intro l
  induction l with
  | nil => intro ov v _ h; exact .inl h
  | cons o l ih =>
    intro ov v hm h
    have E : DT cs out (othN cs u o.toNat) v → DT cs out u v := fun q => DT.step ⟨o, hm o (List.mem_cons_self ..), rfl⟩ q
    rw [goR] at h
    split at h
    · rcases ih _ v (fun o' ho' => hm o' (List.mem_cons_of_mem _ ho')) h with q | q
      · rcases hg ov o v q with q | q
        · exact .inl q
        · exact .inr (E q)
      · exact .inr q
    · rcases hg ov o v h with q | q
      · exact .inl q
      · exact .inr (E q)
theorem visR_reach (f : Nat) : ∀ (ov : List Int) (u : Nat) (c : Int) (v : Nat), (visR cs out f ov u c).1.getD v 0 ≠ -2 → ov.getD v 0 ≠ -2 ∨ DT cs out u v := by
  induction f with
  | zero => intro ov u c v h; exact .inl h
  | succ f ih =>
    intro ov u c v h
    rw [visR] at h
    split at h
    · rcases goR_reach (out := out) (fun ov o v => ih ov (othN cs u o.toNat) o v) (out.getD u []) (ov.set u c) v (fun o ho => ho) h with q | q
      · by_cases e : v = u
        · subst e; exact .inr (DT.refl _)
        · left
          rw [show (ov.set u c).getD v 0 = ov.getD v 0 by simp [List.getD, List.getElem?_set, show ¬ u = v from fun e2 => e e2.symm]] at q
          exact q
      · exact .inr q
    · exact .inl h
theorem reachR_reach {x : Tr} (hx : x.out = out) {s : Nat} (hs : x.src = s) {v : Nat} (hv : v < n) (h : (reachR n cs x).1.getD v 0 ≠ -2) : DT cs out s v := by
  unfold reachR at h
  rw [hs, Int.toNat_natCast, hx] at h
  rcases visR_reach (n + 1) (over0 n) s (-1) v h with q | q
  · exact absurd (by unfold over0; simp [List.getD, hv]) q
  · exact q
theorem asc_pair : ∀ {l : List Int}, ascB l = true → l.Pairwise (· < ·)
  | [], _ => List.Pairwise.nil
  | [a], _ => by simp
  | a :: b :: l, h => by
    unfold ascB at h
    rw [Bool.and_eq_true, decide_eq_true_eq] at h
    have ih := asc_pair h.2
    refine List.Pairwise.cons (fun y hy => ?_) ih
    rcases List.mem_cons.1 hy with rfl | hy
    · exact h.1
    · have := List.rel_of_pairwise_cons ih hy; omega
theorem asc_nodup : ∀ {l : List Int}, l.Pairwise (· < ·) → l.Nodup
  | [], _ => List.Pairwise.nil
  | a :: l, h => List.Pairwise.cons (fun y hy e => by have := List.rel_of_pairwise_cons h hy; omega) (asc_nodup (List.Pairwise.of_cons h))
/-- The number of cables from the source to a node. -/
noncomputable def depTT (cs : List Cb) (out : List (List Int)) (s v : Nat) : Nat := Classical.epsilon fun k => dscT (ET cs out) k s v
theorem dsc_depth {E : Nat → Nat → Prop} (hu : ∀ u u' v, E u v → E u' v → u = u') {s : Nat} (hs : ∀ u, ¬ E u s) (k : Nat) : ∀ {k' v : Nat}, dscT E k s v → dscT E k' s v → k = k' := by
  induction k with
  | zero =>
    intro k' v h h'
    cases k' with
    | zero => rfl
    | succ k' =>
      obtain rfl : s = v := h
      obtain ⟨y, _, h2⟩ := dsc_last k' h'
      exact (hs y h2).elim
  | succ k ih =>
    intro k' v h h'
    obtain ⟨y, h1, h2⟩ := dsc_last k h
    cases k' with
    | zero =>
      obtain rfl : s = v := h'
      exact (hs y h2).elim
    | succ k' =>
      obtain ⟨y', h3, h4⟩ := dsc_last k' h'
      obtain rfl := hu _ _ _ h2 h4
      rw [ih h1 h3]
theorem dep_eq (hu : ∀ u u' v, ET cs out u v → ET cs out u' v → u = u') {s : Nat} (hs : ∀ u, ¬ ET cs out u s) {k v : Nat} (h : dscT (ET cs out) k s v) : depTT cs out s v = k :=
  dsc_depth hu hs _ (Classical.epsilon_spec (p := fun k => dscT (ET cs out) k s v) ⟨k, h⟩) h
end
/-- What validity says. -/
structure VT (ns : List Nd) (cs : List Cb) (x : Tr) (s : Nat) (r : Nat → Nat) : Prop where
  hv : validP ⟨ns, cs⟩ = 0
  src : x.src = s
  hs : s < ns.length
  ol : x.out.length = ns.length
  rows : rowsOk cs x.out = true
  I : InTree ns.length cs x.out r
  top : ∀ u, ¬ ET cs x.out u s
  row : ∀ u, x.out.getD u [] ≠ [] → DT cs x.out s u
  del : ∀ v ∈ x.del, ∃ k : Nat, v = k ∧ k < ns.length ∧ DT cs x.out s k
  asc : x.del.Pairwise (· < ·)
  leaf : ∀ u, u ≠ s → DT cs x.out s u → x.out.getD u [] = [] → (u : Int) ∈ x.del
  okr : (reachR ns.length cs x).2 = true
  len : (reachR ns.length cs x).1.length = ns.length
  ov_s : (reachR ns.length cs x).1.getD s 0 = -1
  ov_e : ∀ u o, o ∈ x.out.getD u [] → (reachR ns.length cs x).1.getD (othN cs u o.toNat) 0 = o
  ov_n : ∀ v, v < ns.length → ((reachR ns.length cs x).1.getD v 0 = -2 ↔ ¬ DT cs x.out s v)
section
variable {ns : List Nd} {cs : List Cb} {x : Tr}
theorem valid_tree (h : waysB ns cs x = true) : ∃ (s : Nat) (r : Nat → Nat), VT ns cs x s r := by
  obtain ⟨hv, s0, s1, hol, hrw, hre, hda, hdl, hrf⟩ := waysB_parts h
  obtain ⟨s, hs⟩ : ∃ s : Nat, x.src = s := ⟨x.src.toNat, by omega⟩
  have hsn : s < ns.length := by omega
  have H : ∀ u o, o ∈ x.out.getD u [] → othN cs u o.toNat < ns.length ∧ o ≠ -2 := fun u o ho => by
    obtain ⟨k, rfl, _, _, q⟩ := rows_touch hv hrw ho
    rw [Int.toNat_natCast]
    exact ⟨q, by omega⟩
  obtain ⟨r1, r2, r3⟩ := reach_sound H rfl hs hsn hre
  have r4 : ∀ v, v < ns.length → (reachR ns.length cs x).1.getD v 0 ≠ -2 → DT cs x.out s v := fun v hv2 q => reachR_reach rfl hs hv2 q
  have ult : ∀ u o, o ∈ x.out.getD u [] → u < ns.length := fun u o ho => by
    rcases Nat.lt_or_ge u x.out.length with q | q
    · omega
    · simp [List.getD, List.getElem?_eq_none q] at ho
  have rowR : ∀ u o, o ∈ x.out.getD u [] → (reachR ns.length cs x).1.getD u 0 ≠ -2 := fun u o ho e => by
    have h1 := List.all_eq_true.1 hrf u (List.mem_range.2 (ult u o ho))
    unfold rowFine at h1
    rw [e] at h1
    have hp : 0 < (x.out.getD u []).length := List.length_pos_of_mem ho
    simp [hp] at h1
    exact absurd hp (by simpa using h1)
  have ove : ∀ u o, o ∈ x.out.getD u [] → (reachR ns.length cs x).1.getD (othN cs u o.toNat) 0 = o := fun u o ho => r2 u (ult u o ho) (rowR u o ho) o ho
  have one : ∀ u u' o o', o ∈ x.out.getD u [] → o' ∈ x.out.getD u' [] → othN cs u o.toNat = othN cs u' o'.toNat → u = u' ∧ o = o' := fun u u' o o' ho ho' e => by
    have a := ove u o ho
    have b := ove u' o' ho'
    rw [e] at a
    have hoo : o = o' := a.symm.trans b
    subst hoo
    obtain ⟨k, rfl, _, t, _⟩ := rows_touch hv hrw ho
    obtain ⟨k', hk', _, t', _⟩ := rows_touch hv hrw ho'
    obtain rfl : k = k' := by omega
    rw [Int.toNat_natCast] at e
    rw [e] at t
    exact ⟨(oth_of (touchT_symm t)).symm.trans (oth_of (touchT_symm t')), rfl⟩
  have uq : ∀ u u' v, ET cs x.out u v → ET cs x.out u' v → u = u' := by
    rintro u u' v ⟨o, ho, e⟩ ⟨o', ho', e'⟩
    exact (one u u' o o' ho ho' (e.trans e'.symm)).1
  have top : ∀ u, ¬ ET cs x.out u s := by
    rintro u ⟨o, ho, e⟩
    have a := ove u o ho
    rw [e, r1] at a
    obtain ⟨k, hk, _⟩ := rows_touch hv hrw ho
    omega
  have rowD : ∀ u, x.out.getD u [] ≠ [] → DT cs x.out s u := fun u hne => by
    obtain ⟨o, l, e⟩ := List.exists_cons_of_ne_nil hne
    have ho : o ∈ x.out.getD u [] := by rw [e]; exact List.mem_cons_self ..
    exact r4 u (ult u o ho) (rowR u o ho)
  refine ⟨s, depTT cs x.out s, hv, hs, hsn, hol, hrw, ⟨fun u o ho => ?_, one, fun u => ?_⟩, top, rowD, fun v hv2 => ?_, asc_pair hda, fun u hne hd he => ?_, hre, ?_, r1, ove, fun v hv2 => ⟨fun e hd => (r3 v hd).2 e, fun hd => Classical.byContradiction fun e => hd (r4 v hv2 e)⟩⟩
  · obtain ⟨k, hk⟩ := rowD u (fun e => by rw [e] at ho; cases ho)
    have hk2 := dsc_snoc k hk (⟨o, ho, rfl⟩ : ET cs x.out u (othN cs u o.toNat))
    rw [dep_eq uq top hk, dep_eq uq top hk2]
    obtain ⟨q, hq, _⟩ := rows_touch hv hrw ho
    exact ⟨ult u o ho, (H u o ho).1, by omega, by omega⟩
  · by_cases hu : u < x.out.length
    · unfold Go.Proofs.YtljojgpjgjfddaaGreat.rowsOk at hrw
      have h1 := List.all_eq_true.1 hrw u (List.mem_range.2 hu)
      rw [Bool.and_eq_true] at h1
      exact asc_nodup (asc_pair h1.1)
    · simp [List.getD, List.getElem?_eq_none (Nat.le_of_not_lt hu)]
  · unfold delOk at hdl
    have h1 := List.all_eq_true.1 hdl v hv2
    simp only [Bool.and_eq_true, decide_eq_true_eq] at h1
    exact ⟨v.toNat, by omega, by omega, r4 _ (by omega) h1.2⟩
  · obtain ⟨hun, hov⟩ := r3 u hd
    have h1 := List.all_eq_true.1 hrf u (List.mem_range.2 hun)
    unfold rowFine at h1
    have hnn : 0 ≤ (reachR ns.length cs x).1.getD u 0 := by
      obtain ⟨k, hk⟩ := hd
      cases k with
      | zero => exact absurd (Eq.symm hk) hne
      | succ k =>
        obtain ⟨y, _, o, ho, rfl⟩ := dsc_last k hk
        rw [ove y o ho]
        obtain ⟨q, hq, _⟩ := rows_touch hv hrw ho
        omega
    rw [he, decide_eq_true hnn] at h1
    simp at h1
    exact h1
  · unfold reachR; rw [visR_len]; unfold over0; simp
end
end Go.Proofs.YtljojgpjgjfddaaGreat

/- What tree.Deps returns, in plain Lean: a dependency for each cable of a node other than the source. No program in sight. -/
namespace Go.Proofs.YtljojgpjgjfddaaGreat
open Go.RowKit Go.Maps
set_option linter.unusedVariables false
set_option linter.unusedSimpArgs false

def depN (cs : List Cb) (ov : List Int) (out : List (List Int)) (u : Nat) : List Dp :=
  if ov.getD u 0 < 0 then [] else (out.getD u []).map fun o => (leavV cs (ov.getD u 0) (othN cs u (ov.getD u 0).toNat : Nat), leavV cs o (u : Int), (u : Int))
def depL (cs : List Cb) (ov : List Int) (out : List (List Int)) (k : Nat) : List Dp := (List.range k).flatMap (depN cs ov out)
def depT23 (n : Nat) (cs : List Cb) (x : Tr) : List Dp := depL cs (reachR n cs x).1 x.out n
def keyLt (a b : Dp) : Prop := a.1 < b.1 ∨ (a.1 = b.1 ∧ a.2.1 < b.2.1)
theorem depL_succ (cs : List Cb) (ov : List Int) (out : List (List Int)) (k : Nat) : depL cs ov out (k + 1) = depL cs ov out k ++ depN cs ov out k := by
  unfold depL; rw [List.range_succ, List.flatMap_append]; simp
theorem sum_at (f g : Nat → Nat) (s c : Nat) : ∀ n, (∀ u, u < n → f u = g u + if u = s then c else 0) → ((List.range n).map f).sum = ((List.range n).map g).sum + if s < n then c else 0
  | 0, _ => by simp
  | n + 1, h => by
    have ih := sum_at f g s c n (fun u hu => h u (by omega))
    rw [List.range_succ, List.map_append, List.map_append, List.sum_append, List.sum_append, ih]
    have h1 := h n (by omega)
    simp only [List.map_cons, List.map_nil, List.sum_cons, List.sum_nil, Nat.add_zero]
    rw [h1]
    by_cases e : n = s
    · subst e; rw [if_pos rfl, if_neg (Nat.lt_irrefl _), if_pos (Nat.lt_succ_self _)]; omega
    · rw [if_neg e]
      by_cases q : s < n
      · rw [if_pos q, if_pos (by omega)]; omega
      · rw [if_neg q, if_neg (by omega)]; omega
theorem sumL_range (rows : List (List Int)) : ∀ k, k ≤ rows.length → sumL (rows.take k) = ((List.range k).map fun u => (rows.getD u []).length).sum
  | 0, _ => by simp [sumL]
  | k + 1, h => by rw [sumL_take rows k (by omega), sumL_range rows k (by omega), List.range_succ, List.map_append, List.sum_append]; simp
theorem depL_len (cs : List Cb) (ov : List Int) (out : List (List Int)) (k : Nat) : (depL cs ov out k).length = ((List.range k).map fun u => if ov.getD u 0 < 0 then 0 else (out.getD u []).length).sum := by
  induction k with
  | zero => simp [depL]
  | succ k ih =>
    rw [depL_succ, List.length_append, ih, List.range_succ, List.map_append, List.sum_append]
    unfold depN
    simp only [List.map_cons, List.map_nil, List.sum_cons, List.sum_nil, Nat.add_zero]
    split
    · rfl
    · rw [List.length_map]
/-- The ends of the channel of a cable that leads from u to v. -/
theorem leav_endsT {cs : List Cb} {k u v : Nat} (hk : k < 32) (ht : touchT (cs.getD k cb0) u v) (hne : u ≠ v) :
    chEnds cs (leavV cs (k : Int) (u : Int)) = ((u : Int), (v : Int)) ∧ (leavV cs (k : Int) (u : Int)) / 2 = k ∧ 0 ≤ leavV cs (k : Int) (u : Int) := by
  have c0 : chanV (k : Int) 0 = 2 * k := by unfold chanV; rw [if_neg (by omega)]; omega
  have c1 : chanV (k : Int) 1 = 2 * k + 1 := by unfold chanV; rw [if_neg (by omega)]
  unfold leavV
  rw [Int.toNat_natCast]
  rcases ht with ⟨h1, h2⟩ | ⟨h1, h2⟩
  · rw [if_pos h1, c0]
    unfold chEnds
    rw [show (2 * (k : Int)) % 2 = 0 by omega, if_pos rfl, show (2 * (k : Int)) / 2 = k by omega, Int.toNat_natCast, h1, h2]
    exact ⟨rfl, rfl, by omega⟩
  · rw [if_neg (by rw [h2]; omega), c1]
    unfold chEnds
    rw [show (2 * (k : Int) + 1) % 2 = 1 by omega, if_neg (by decide), show (2 * (k : Int) + 1) / 2 = k by omega, Int.toNat_natCast, h1, h2]
    exact ⟨rfl, rfl, by omega⟩
section
variable {ns : List Nd} {cs : List Cb} {x : Tr} {s : Nat} {r : Nat → Nat}
theorem VT.edge (V : VT ns cs x s r) {u : Nat} {o : Int} (ho : o ∈ x.out.getD u []) : ∃ k : Nat, o = k ∧ k < cs.length ∧ touchT (cs.getD k cb0) u (othN cs u k) ∧ othN cs u k < ns.length ∧ u < ns.length ∧ u ≠ othN cs u k := by
  obtain ⟨k, rfl, hk, ht, hn⟩ := rows_touch V.hv V.rows ho
  have h1 := V.I.go u _ ho
  rw [Int.toNat_natCast] at h1
  exact ⟨k, rfl, hk, ht, hn, h1.1, fun e => by rw [← e] at h1; omega⟩
/-- How a node other than the source is reached. -/
theorem VT.inn (V : VT ns cs x s r) {u : Nat} (hu : u < ns.length) (h : ¬ (reachR ns.length cs x).1.getD u 0 < 0) : ∃ (y k : Nat), (k : Int) ∈ x.out.getD y [] ∧ othN cs y k = u ∧ (reachR ns.length cs x).1.getD u 0 = k ∧ touchT (cs.getD k cb0) y u ∧ k < cs.length ∧ y < ns.length ∧ y ≠ u ∧ u ≠ s ∧ othN cs u k = y ∧ r y < r u := by
  have hd : DT cs x.out s u := Classical.byContradiction fun q => by
    have := (V.ov_n u hu).2 q
    omega
  obtain ⟨j, hj⟩ := hd
  cases j with
  | zero =>
    obtain rfl : s = u := hj
    have := V.ov_s
    omega
  | succ j =>
    obtain ⟨y, _, o, ho, e⟩ := dsc_last j hj
    obtain ⟨k, rfl, hk, ht, hn, hy, hne⟩ := V.edge ho
    have h1 := V.ov_e y _ ho
    have h2 := (V.I.go y _ ho).2.2.2
    rw [Int.toNat_natCast] at e h1 h2
    rw [e] at ht hne h1 h2
    refine ⟨y, k, ho, e, h1, ht, hk, hy, hne, fun q => ?_, oth_of (touchT_symm ht), h2⟩
    subst q
    exact V.top y ⟨_, ho, by rw [Int.toNat_natCast]; exact e⟩
theorem VT.mem_dep (V : VT ns cs x s r) {d : Dp} (h : d ∈ depT23 ns.length cs x) : ∃ u y k k' : Nat, u < ns.length ∧ y < ns.length ∧ u ≠ s ∧ k < cs.length ∧ k' < cs.length ∧ k < 32 ∧ k' < 32 ∧ d = (leavV cs (k : Int) (y : Int), leavV cs (k' : Int) (u : Int), (u : Int)) ∧
    (k : Int) ∈ x.out.getD y [] ∧ (k' : Int) ∈ x.out.getD u [] ∧ touchT (cs.getD k cb0) y u ∧ y ≠ u ∧ touchT (cs.getD k' cb0) u (othN cs u k') ∧ u ≠ othN cs u k' ∧ (reachR ns.length cs x).1.getD u 0 = k := by
  unfold depT23 depL at h
  obtain ⟨u, hu, hd⟩ := List.mem_flatMap.1 h
  have hu := List.mem_range.1 hu
  have c32 := (valid_sizes V.hv).2
  unfold depN at hd
  split at hd
  · cases hd
  · rename_i h0
    obtain ⟨o, ho, rfl⟩ := List.mem_map.1 hd
    obtain ⟨y, k, h1, h2, h3, h4, h5, h6, h7, h8, h9, _⟩ := V.inn hu h0
    obtain ⟨k', rfl, g1, g2, g3, g4, g5⟩ := V.edge ho
    rw [h3, Int.toNat_natCast, h9]
    exact ⟨u, y, k, k', hu, h6, h8, h5, g1, by omega, by omega, rfl, h1, ho, h4, h7, g2, g5, h3⟩
theorem VT.dep_ends (V : VT ns cs x s r) {d : Dp} (h : d ∈ depT23 ns.length cs x) : (chEnds cs d.1).2 = d.2.2 ∧ (chEnds cs d.2.1).1 = d.2.2 ∧ d.2.2 ≠ x.src ∧ (0 ≤ d.1 ∧ d.1 < 2 * cs.length) ∧ 0 ≤ d.2.1 ∧ d.2.1 < 2 * cs.length := by
  obtain ⟨u, y, k, k', hu, hy, hus, hk, hk', h32, h32', rfl, _, _, ht, hne, ht', hne', _⟩ := V.mem_dep h
  obtain ⟨a1, a2, a3⟩ := leav_endsT h32 ht hne
  obtain ⟨b1, b2, b3⟩ := leav_endsT h32' ht' hne'
  simp only
  rw [a1, b1, V.src]
  exact ⟨rfl, rfl, by omega, by omega, by omega⟩
theorem VT.dep_key (V : VT ns cs x s r) : (depT23 ns.length cs x).Pairwise (fun a b => ¬ (a.1 = b.1 ∧ a.2.1 = b.2.1)) := by
  have c32 := (valid_sizes V.hv).2
  have key : ∀ k, k ≤ ns.length → (depL cs (reachR ns.length cs x).1 x.out k).Pairwise (fun a b => ¬ (a.1 = b.1 ∧ a.2.1 = b.2.1)) ∧ ∀ d ∈ depL cs (reachR ns.length cs x).1 x.out k, d ∈ depT23 ns.length cs x ∧ d.2.2 < k := by
    intro k
    induction k with
    | zero => intro _; unfold depL; simp
    | succ k ih =>
      intro hk
      obtain ⟨h1, h2⟩ := ih (by omega)
      have hmem : ∀ d ∈ depN cs (reachR ns.length cs x).1 x.out k, d ∈ depT23 ns.length cs x ∧ d.2.2 = k := fun d hd => by
        refine ⟨by unfold depT23 depL; exact List.mem_flatMap.2 ⟨k, List.mem_range.2 (by omega), hd⟩, ?_⟩
        unfold depN at hd
        split at hd
        · cases hd
        · obtain ⟨o, _, rfl⟩ := List.mem_map.1 hd; rfl
      rw [depL_succ]
      refine ⟨List.pairwise_append.2 ⟨h1, ?_, fun a ha b hb q => ?_⟩, fun d hd => ?_⟩
      · unfold depN
        split
        · exact List.Pairwise.nil
        · have gen : ∀ l : List Int, (∀ o ∈ l, o ∈ x.out.getD k []) → l.Nodup → (l.map fun o => ((leavV cs ((reachR ns.length cs x).1.getD k 0) (othN cs k ((reachR ns.length cs x).1.getD k 0).toNat : Nat), leavV cs o (k : Int), (k : Int)) : Dp)).Pairwise (fun a b => ¬ (a.1 = b.1 ∧ a.2.1 = b.2.1)) := by
            intro l
            induction l with
            | nil => intro _ _; exact List.Pairwise.nil
            | cons o l ihl =>
              intro hm hn
              rw [List.nodup_cons] at hn
              rw [List.map_cons]
              refine List.Pairwise.cons (fun b hb q => ?_) (ihl (fun o' ho' => hm o' (List.mem_cons_of_mem _ ho')) hn.2)
              obtain ⟨o', ho', rfl⟩ := List.mem_map.1 hb
              obtain ⟨q1, rfl, g1, g2, g3, g4, g5⟩ := V.edge (hm o (List.mem_cons_self ..))
              obtain ⟨q2, rfl, g1', g2', g3', g4', g5'⟩ := V.edge (hm o' (List.mem_cons_of_mem _ ho'))
              have e1 := (leav_endsT (by omega) g2 g5).2.1
              have e2 := (leav_endsT (by omega) g2' g5').2.1
              have q3 := q.2
              simp only at q3
              rw [q3, e2] at e1
              exact hn.1 (by rw [← e1]; exact ho')
          exact gen _ (fun o ho => ho) (V.I.nodup k)
      · obtain ⟨m1, lt⟩ := h2 a ha
        obtain ⟨m2, e2⟩ := hmem b hb
        have d1 := (V.dep_ends m1).1
        have d2 := (V.dep_ends m2).1
        rw [q.1, d2] at d1
        omega
      · rcases List.mem_append.1 hd with hd | hd
        · exact ⟨(h2 d hd).1, by have := (h2 d hd).2; omega⟩
        · exact ⟨(hmem d hd).1, by have := (hmem d hd).2; omega⟩
  exact (key ns.length (Nat.le_refl _)).1
/-- In order of their channels they ascend. -/
theorem VT.dep_asc (V : VT ns cs x s r) {l : List Dp} (hp : l.Perm (depT23 ns.length cs x)) (hs : l.Pairwise (fun a b => ¬ keyLt b a)) : l.Pairwise keyLt := by
  have h1 : l.Pairwise (fun a b => ¬ (a.1 = b.1 ∧ a.2.1 = b.2.1)) := (hp.pairwise_iff (fun {a b} h q => h ⟨q.1.symm, q.2.symm⟩)).2 V.dep_key
  have h2 := hs.and h1
  refine List.Pairwise.imp (fun {a b} h => ?_) h2
  obtain ⟨h3, h4⟩ := h
  unfold keyLt at *
  omega
theorem VT.dep_len (V : VT ns cs x s r) : (depT23 ns.length cs x).length + (x.out.getD s []).length = sumL x.out := by
  have h1 := sumL_range x.out x.out.length (Nat.le_refl _)
  rw [List.take_length, V.ol] at h1
  rw [h1]
  unfold depT23
  rw [depL_len]
  have h2 := sum_at (fun u => (x.out.getD u []).length) (fun u => if (reachR ns.length cs x).1.getD u 0 < 0 then 0 else (x.out.getD u []).length) s (x.out.getD s []).length ns.length (fun u hu => by
    by_cases e : u = s
    · subst e
      have := V.ov_s
      rw [if_pos (by omega), if_pos rfl]; omega
    · rw [if_neg e]
      by_cases q : (reachR ns.length cs x).1.getD u 0 < 0
      · rw [if_pos q]
        by_cases q2 : x.out.getD u [] = []
        · rw [q2]; rfl
        · obtain ⟨j, hj⟩ := V.row u q2
          cases j with
          | zero => exact absurd (Eq.symm hj) e
          | succ j =>
            obtain ⟨y, _, o, ho, rfl⟩ := dsc_last j hj
            rw [V.ov_e y o ho] at q
            obtain ⟨k, hk, _⟩ := V.edge ho
            omega
      · rw [if_neg q]; rfl)
  rw [if_pos V.hs] at h2
  exact h2.symm
end
end Go.Proofs.YtljojgpjgjfddaaGreat

/- The contracts of channel.Ends and of the law's own great. -/
namespace Go.Proofs.YtljojgpjgjfddaaGreat
open Go.RowKit Go.Maps
set_option linter.unusedVariables false

def great20B (ln lc lu : Nat) : Bool := decide (20 < ln) || decide (40 < lc) || decide (60 < lu)
def endsRC (p : Pl) (c : Int) : Int × Int × Int := if validP p ≠ 0 then (0, 0, 1) else if c < 0 ∨ 2 * (p.cs.length : Int) ≤ c then (0, 0, 2) else ((chEnds p.cs c).1, (chEnds p.cs c).2, 0)
end Go.Proofs.YtljojgpjgjfddaaGreat

/- tree.leaving, the comparison of tree.Deps, and slices.SortFunc with it. -/
namespace Go.Proofs.YtljojgpjgjfddaaGreat
open Go.RowKit Go.Maps Go.Sort Go.Shelf
set_option linter.unusedVariables false
set_option linter.unusedSimpArgs false

def cmpK (x y : Dp) : Int := orL [cmpZ x.1 y.1, cmpZ x.2.1 y.2.1]
theorem cmpK_neg (x y : Dp) : cmpK x y < 0 ↔ keyLt x y := by
  unfold cmpK keyLt
  simp only [orL, cmpZ]
  by_cases h1 : x.1 < y.1
  · simp [h1]
  · by_cases h2 : y.1 < x.1
    · simp [h1, h2]; omega
    · have e : x.1 = y.1 := by omega
      by_cases h3 : x.2.1 < y.2.1
      · simp [e, h3]
      · by_cases h4 : y.2.1 < x.2.1
        · simp [e, h3, h4]
        · simp [e, h3, h4]
theorem ltK_iff (x y : Dp) : ltOf cmpK x y = true ↔ keyLt x y := by unfold ltOf; rw [decide_eq_true_iff]; exact cmpK_neg x y
theorem ltK_not (x y : Dp) : ltOf cmpK x y = false ↔ ¬ keyLt x y := by rw [← ltK_iff]; simp
theorem swoK : SWO (ltOf cmpK) where
  irrefl x := by rw [ltK_not]; unfold keyLt; omega
  trans x y z h1 h2 := by rw [ltK_iff] at *; unfold keyLt at *; omega
  ntrans x y z h1 h2 := by rw [ltK_not] at *; unfold keyLt at *; omega
set_option maxHeartbeats 1000000 in
theorem tleaving_any (cs : List Cb) (An Ac : Option Addr) (ln cn cc : Nat) (cable node : Int) (w : World) (hl : cs.length ≤ 1000000) (h : IsRec 6 cC cb0 w Ac cs.length cs) (h0 : 0 ≤ cable) (h1 : cable < cs.length) :
    Calls Tryz.prog 51 #[.agg #[.slice An ln cn, .slice Ac cs.length cc], .int .i64 cable, .int .i64 node] w fun e w' => e = .returned (.int .i64 (leavV cs cable node)) ∧ Below w.heap.size w w' := by
  obtain ⟨k, rfl⟩ : ∃ k : Nat, cable = k := ⟨cable.toNat, by omega⟩
  have hkl : k < cs.length := by omega
  obtain ⟨bb, off, ha, hbb, hmem, c0, c1, c2, c3, c4, c5⟩ := cable_at (h.alloc (.cells #[.slice An ln cn, .slice Ac cs.length cc] 25)) k hkl
  have HE : Hid (leavV cs k node = if (cs.getD k cb0).a = node then chanV k 0 else chanV k 1) := by rw [Hid]; unfold leavV; rw [Int.toNat_natCast]
  generalize cs.getD k cb0 = x at *
  subst ha
  obtain ⟨xa, xap, xb, xbp, xdl, xcp⟩ := x
  simp only at c0 HE
  have BW : Hid (Below w.heap.size w (w.alloc (.cells #[.slice An ln cn, .slice (some ⟨bb, off, none⟩) cs.length cc] 25))) := (Below.refl _ _).alloc (Nat.le_refl _) _
  clear hmem h c1 c2 c3 c4 c5
  cases hq : xa == node with
  | true =>
    rw [if_pos (by simpa using hq)] at HE
    go_enter Tryz.func51, Tryz.ntmps51
    go_wp2_with fail
    refine (channel_any _ _ _).mono ?_
    rintro e w' ⟨rfl, rfl⟩
    go_wp2_with fail
    go_ret
    exact ⟨by rw [HE.out]; rfl, BW.out⟩
  | false =>
    rw [if_neg (by simpa using hq)] at HE
    go_enter Tryz.func51, Tryz.ntmps51
    go_wp2_with fail
    refine (channel_any _ _ _).mono ?_
    rintro e w' ⟨rfl, rfl⟩
    go_wp2_with fail
    go_ret
    exact ⟨by rw [HE.out]; rfl, BW.out⟩

set_option maxHeartbeats 4000000 in
set_option maxRecDepth 100000 in
theorem keycmp_any (x y : Dp) (w : World) : Calls Tryz.prog 54 #[.agg #[.int .i64 x.1, .int .i64 x.2.1, .int .i64 x.2.2], .agg #[.int .i64 y.1, .int .i64 y.2.1, .int .i64 y.2.2]] w fun e w' => e = .returned (.int .i64 (cmpK x y)) ∧ Grown w w' := by
  obtain ⟨x0, x1, x2⟩ := x
  obtain ⟨y0, y1, y2⟩ := y
  simp only
  obtain ⟨w1, hw1⟩ : ∃ w1 : World, (w.alloc (.cells #[.int .i64 x0, .int .i64 x1, .int .i64 x2] 69)).alloc (.cells #[.int .i64 y0, .int .i64 y1, .int .i64 y2] 69) = w1 := ⟨_, rfl⟩
  have s0 : w1.cell? ⟨w.heap.size, 0, none⟩ = some (.int .i64 x0) := by rw [← hw1]; simp [go_sem]
  have s1 : w1.cell? ⟨w.heap.size, 1, none⟩ = some (.int .i64 x1) := by rw [← hw1]; simp [go_sem]
  have s2 : w1.cell? ⟨w.heap.size, 2, none⟩ = some (.int .i64 x2) := by rw [← hw1]; simp [go_sem]
  have t0 : w1.cell? ⟨w.heap.size + 1, 0, none⟩ = some (.int .i64 y0) := by rw [← hw1]; simp [go_sem]
  have t1 : w1.cell? ⟨w.heap.size + 1, 1, none⟩ = some (.int .i64 y1) := by rw [← hw1]; simp [go_sem]
  have t2 : w1.cell? ⟨w.heap.size + 1, 2, none⟩ = some (.int .i64 y2) := by rw [← hw1]; simp [go_sem]
  have sz1 : w.heap.size + 1 < w1.heap.size := by rw [← hw1]; simp
  have GW : Hid (Grown w w1) := by rw [Hid, ← hw1]; exact ((Grown.refl w).alloc _).alloc _
  have HW1 := Lib.hid hw1
  clear hw1
  have KP : Hid (∀ w', Grown w1 w' → w'.cell? ⟨w.heap.size, 0, none⟩ = some (.int .i64 x0) ∧ w'.cell? ⟨w.heap.size, 1, none⟩ = some (.int .i64 x1) ∧ w'.cell? ⟨w.heap.size, 2, none⟩ = some (.int .i64 x2) ∧ w'.cell? ⟨w.heap.size + 1, 0, none⟩ = some (.int .i64 y0) ∧ w'.cell? ⟨w.heap.size + 1, 1, none⟩ = some (.int .i64 y1) ∧ w'.cell? ⟨w.heap.size + 1, 2, none⟩ = some (.int .i64 y2) ∧ Grown w1 w') :=
    fun w' h => ⟨(h.cell (by omega)).trans s0, (h.cell (by omega)).trans s1, (h.cell (by omega)).trans s2, (h.cell (by omega)).trans t0, (h.cell (by omega)).trans t1, (h.cell (by omega)).trans t2, h⟩
  clear s0 s1 s2 t0 t1 t2
  have RC : Hid (IsRec 1 cI 0 (w1.alloc (.cells #[.int .i64 (cmpZ x0 y0), .int .i64 (cmpZ x1 y1)] 3)).drew (some ⟨w1.heap.size, 0, none⟩) 2 [cmpZ x0 y0, cmpZ x1 y1]) := by
    refine ⟨rfl, fun _ => ⟨_, 0, rfl, by simp, fun i j hi hj => ?_⟩⟩
    rw [((Blk.new w1 3 _).drew).cell]
    obtain rfl : j = 0 := by omega
    match i, hi with
    | 0, _ => rfl
    | 1, _ => rfl
  go_enter Tryz.func54, Tryz.ntmps54
  go_wp2_with fail
  rw [HW1.out]
  go_region_held3 (fun w' => w'.cell? ⟨w.heap.size, 0, none⟩ = some (.int .i64 x0) ∧ w'.cell? ⟨w.heap.size, 1, none⟩ = some (.int .i64 x1) ∧ w'.cell? ⟨w.heap.size, 2, none⟩ = some (.int .i64 x2) ∧ w'.cell? ⟨w.heap.size + 1, 0, none⟩ = some (.int .i64 y0) ∧ w'.cell? ⟨w.heap.size + 1, 1, none⟩ = some (.int .i64 y1) ∧ w'.cell? ⟨w.heap.size + 1, 2, none⟩ = some (.int .i64 y2) ∧ Grown w1 w')
    (first | exact KP.out _ ((Grown.refl _).drew) | exact KP.out _ (((Grown.refl _).alloc _).drew))
    (first
      | (go_at_call 56; refine (cmpI_any _ _ _).mono ?_; rintro e w' ⟨rfl, rfl⟩)
      | (go_at_call 55; refine (cmpOr_any [cmpZ x0 y0, cmpZ x1 y1] _ _ _ (by simp) RC.out).mono ?_; rintro e w' ⟨rfl, rfl⟩))
  all_goals
    go_wp2_with fail
    go_ret
    exact ⟨rfl, GW.out.trans (((Grown.refl _).alloc _).drew)⟩
theorem get_bangT {α : Type} [Inhabited α] (l : List α) (i : Nat) (h : i < l.length) : l[i]! = l[i] := getElem!_pos l i h
theorem flatK_listT (ss : List Dp) : (flatK cD 3 ss.toArray).toList = ss.flatMap cD := by
  apply List.ext_getElem?
  intro t
  by_cases ht : t < ss.length * 3
  · have hs : t < (flatK cD 3 ss.toArray).size := by simpa using ht
    have h1 := get_flatK cD 3 ss.toArray t (by simpa using ht)
    rw [getElem!_pos _ t hs] at h1
    rw [Array.getElem?_toList, Array.getElem?_eq_getElem hs, h1]
    have hq : t / 3 < ss.length := by omega
    have hr : t % 3 < 3 := by omega
    have h2 := flatG_at (m := 3) (c := cD) (d := d0) (fun _ => rfl) ss (t / 3) (t % 3) hq hr
    rw [show t / 3 * 3 + t % 3 = t by omega] at h2
    rw [h2]
    have e1 : ss.toArray[t / 3]! = ss.getD (t / 3) d0 := by rw [getElem!_pos ss.toArray (t / 3) (by simpa using hq)]; simp [List.getD, hq]
    rw [e1]
    have hl : t % 3 < (cD (ss.getD (t / 3) d0)).length := hr
    rw [getElem!_pos (cD (ss.getD (t / 3) d0)) (t % 3) hl, List.getElem?_eq_getElem hl]
  · rw [Array.getElem?_toList, Array.getElem?_eq_none (by simp; omega), List.getElem?_eq_none (by rw [flatG_length (m := 3) (fun _ => rfl)]; omega)]
theorem holdsDT {w : World} {g : Nat} {cur : Array Value} {ss : List Dp} (hb : w.heap[g]? = some (.cells cur 69 (0, 0))) (ht : cur.toList.take (ss.length * 3) = ss.flatMap cD) : HoldsK cD 3 w g 0 ss.toArray := by
  intro j hj
  have hj' : j < ss.length * 3 := by simpa using hj
  refine ⟨?_, by simp [World.frozen?, hb]⟩
  have e : (flatK cD 3 ss.toArray)[j]! = (flatK cD 3 ss.toArray)[j] := getElem!_pos _ j hj
  have h1 : (cur.toList.take (ss.length * 3))[j]? = (flatK cD 3 ss.toArray).toList[j]? := by rw [ht, flatK_listT]
  rw [List.getElem?_take_of_lt hj', Array.getElem?_toList, Array.getElem?_toList, Array.getElem?_eq_getElem hj] at h1
  simp only [World.cell?, hb, Nat.zero_add, Option.isSome_none, Bool.false_eq_true, if_false]
  rw [h1, e]; rfl
theorem heap_sortedDT {w : World} {g n : Nat} {os : Array Obj} {cur : Array Value} (d : Array Dp) (hb : w.heap[g]? = some (.cells cur 69 (0, 0))) :
    (sortWorldK cD 3 w g 0 n d os).heap[g]? = some (.cells (putCells id 0 (flatK cD 3 d) cur) 69 (0, 0)) := by
  have hg : g < w.heap.size := (Array.getElem?_eq_some_iff.1 hb).1
  unfold sortWorldK putRowK
  rw [heap_grow_old _ _ (by simpa [putRow, mapBlock, Sort.ahead] using hg)]
  simp [putRow, mapBlock, Sort.ahead, Array.getElem?_modify, hb, onCells]
theorem grown_sortedDT {w : World} {g n : Nat} {os : Array Obj} (d : Array Dp) : w.grownBy (sortWorldK cD 3 w g 0 n d os) (some g) := by
  refine ⟨rfl, rfl, rfl, by simp [sortWorldK, putRowK, putRow, mapBlock, Sort.ahead], fun k hk hne => ?_⟩
  unfold sortWorldK putRowK
  rw [heap_grow_old _ _ (by simpa [putRow, mapBlock, Sort.ahead] using hk)]
  have : g ≠ k := fun e => hne (by rw [e])
  simp [putRow, mapBlock, Sort.ahead, Array.getElem?_modify, this]
theorem take_putDT (cur : Array Value) (ts : List Dp) (h : ts.length * 3 ≤ cur.size) : (putCells id 0 (flatK cD 3 ts.toArray) cur).toList.take (ts.length * 3) = ts.flatMap cD := by
  rw [← flatK_listT]
  apply List.ext_getElem?
  intro j
  by_cases hj : j < ts.length * 3
  · have hs : j < (flatK cD 3 ts.toArray).size := by simpa using hj
    rw [List.getElem?_take_of_lt hj, Array.getElem?_toList, Array.getElem?_toList, Array.getElem?_eq_getElem hs]
    have e1 := getElem!_pos (flatK cD 3 ts.toArray) j hs
    have hc : j < cur.size := by omega
    simp [putCells, hj, hc]
  · rw [List.getElem?_take_eq_none (by omega), List.getElem?_eq_none (by simp; omega)]
theorem cmpLaysK (blk off size : Nat) (w : World) : CmpLays Tryz.prog 54 #[] cD 3 cmpK blk off size w := fun _ _ _ _ x y => keycmp_any x y _
/-- slices.SortFunc(l, by channels): the same slice owns a permutation in order. -/
theorem sortK_any (base : Nat) (v : Value) (ss : List Dp) (w : World) (hl : ss.length ≤ 1000000) (h : w.ownsRow base 69 3 v ss.length (ss.flatMap cD)) :
    Calls Tryz.prog 53 #[v, .func (.func 54) #[] #[]] w fun e w' => e = .returned (.tuple #[]) ∧ ∃ ts : List Dp, ts.Perm ss ∧ ts.Pairwise (fun a b => ¬ keyLt b a) ∧ w'.ownsRow base 69 3 v ss.length (ts.flatMap cD) ∧ w.grownBy w' v.ownBlock := by
  rcases h.2 with ⟨rfl, hn⟩ | ⟨g, cap, cur, rfl, hb, hg, r1, r2, r3, r4⟩
  · have hs : ss = [] := List.eq_nil_of_length_eq_zero hn
    subst hs
    refine (AnyF.slices_SortFunc_none Tryz.sortD none 0 _ w).mono ?_
    rintro e w' ⟨rfl, rfl⟩
    exact ⟨rfl, [], List.Perm.refl _, List.Pairwise.nil, h, World.grownBy.refl _ _⟩
  · have hgl : g < w.heap.size := (Array.getElem?_eq_some_iff.1 hg).1
    have hcon := AnyQ.slices_SortFunc Tryz.sortD 3 Tryz.isAgg69 Tryz.sizeOf69 cD (fun _ => rfl) (fun x v hv => by simp [cD] at hv; rcases hv with rfl | rfl | rfl <;> rfl) cmpK swoK 54 #[] g 0 cap ss.toArray w
      (enters_of Tryz.func54 (by kernel_rfl) rfl) (cmpLaysK g 0 _ w) (holdsDT hg r4) hgl (by simp; omega)
    have e1 : ss.toArray.size = ss.length := by simp
    rw [e1] at hcon
    refine hcon.mono ?_
    rintro e w' ⟨rfl, d', n, os, hP, hS, rfl⟩
    obtain ⟨hsz, _, hperm⟩ := hP
    have e2 : d'.extract 0 ss.length = d' := by rw [← e1, ← hsz]; exact Array.extract_size
    have e3 : ss.toArray.extract 0 ss.length = ss.toArray := by rw [← e1]; exact Array.extract_size
    rw [e2, e3] at hperm
    have hp : d'.toList.Perm ss := by simpa using hperm
    have hlen : d'.toList.length = ss.length := hp.length_eq
    refine ⟨rfl, d'.toList, hp, ?_, ⟨by rw [flatG_length (m := 3) (fun _ => rfl), hlen], .inr ⟨g, cap, _, rfl, hb, heap_sortedDT _ hg, r1, r2, by simp [putCells, r3], ?_⟩⟩, grown_sortedDT _⟩
    · rw [List.pairwise_iff_getElem]
      intro i j hi hj hij
      have hi' : i < d'.size := by simpa using hi
      have hj' : j < d'.size := by simpa using hj
      have := hS i j (Nat.zero_le _) hij (by omega)
      rw [getElem!_pos d' j hj', getElem!_pos d' i hi', ltK_not] at this
      simpa using this
    · have := take_putDT cur d'.toList (by rw [hlen, r3]; omega)
      rw [hlen] at this
      simpa using this
end Go.Proofs.YtljojgpjgjfddaaGreat

/- The contract of tree.Deps. -/
namespace Go.Proofs.YtljojgpjgjfddaaGreat
open Go.RowKit Go.Maps Go.Sort Go.Shelf
set_option linter.unusedVariables false
set_option linter.unusedSimpArgs false

def TDPost (ns : List Nd) (cs : List Cb) (x : Tr) (w : World) (e : Ending) (w' : World) : Prop :=
  Below w.heap.size w w' ∧ ((waysB ns cs x = false ∧ e = .returned (.tuple #[.slice none 0 0, .int .i64 1])) ∨
    (waysB ns cs x = true ∧ ∃ (ts : List Dp) (v : Value), ts.Perm (depT23 ns.length cs x) ∧ ts.Pairwise (fun a b => ¬ keyLt b a) ∧ e = .returned (.tuple #[v, .int .i64 0]) ∧ w'.ownsRow w.heap.size 69 3 v ts.length (ts.flatMap cD)))
def RelTd1 (cs : List Cb) (ov : List Int) (out : List (List Int)) (n : Nat) (w2 : World) (v i : Value) (wr : World) : Prop :=
  ∃ k : Nat, k ≤ n ∧ i = .int .i64 k ∧ wr.ownsRow w2.heap.size 69 3 v (depL cs ov out k).length ((depL cs ov out k).flatMap cD) ∧ Below w2.heap.size w2 wr
def dpF (cs : List Cb) (fr : Int) (u : Nat) (o : Int) : Dp := (fr, leavV cs o (u : Int), (u : Int))
def RelTd2 (cs : List Cb) (pre : List Dp) (fr : Int) (u : Nat) (l : List Int) (w2 : World) (v i : Value) (wr : World) : Prop :=
  ∃ j : Nat, j ≤ l.length ∧ i = .int .i64 j ∧ wr.ownsRow w2.heap.size 69 3 v (pre ++ (l.take j).map (dpF cs fr u)).length ((pre ++ (l.take j).map (dpF cs fr u)).flatMap cD) ∧ Below w2.heap.size w2 wr
theorem own_belowK {w w' : World} {base e m n : Nat} {v : Value} {xs : List Value} (h : w.ownsRow base e m v n xs) (hb : Below w.heap.size w w') : w'.ownsRow base e m v n xs :=
  ⟨h.1, by
    rcases h.2 with ⟨e1, h2⟩ | ⟨g, cap, cur, e1, h1, h2, h3⟩
    · exact .inl ⟨e1, h2⟩
    · exact .inr ⟨g, cap, cur, e1, h1, by rw [hb.block g (Array.getElem?_eq_some_iff.1 h2).1]; exact h2, h3⟩⟩
theorem reads_newD (w : World) (t : TypeId) (a b c : Value) : Reads (w.alloc (.cells #[a, b, c] t)) (w.heap.size + 1) 3 (some ⟨w.heap.size, 0, none⟩) 1 [a, b, c] :=
  ⟨rfl, fun _ => ⟨_, rfl, by simp, fun q u hu => World.news_of_block (cs := #[a, b, c]) (t := t) (fr := (0, 0)) (heap_alloc_new w _) q u hu⟩⟩
theorem own_snocD {w : World} {base : Nat} {v : Value} {l : List Dp} {x : Dp} (h : w.ownsRow base 69 3 v (l.length + 1) (l.flatMap cD ++ cD x)) : w.ownsRow base 69 3 v (l ++ [x]).length ((l ++ [x]).flatMap cD) := by
  rw [List.length_append, List.length_singleton, List.flatMap_append, List.flatMap_cons, List.flatMap_nil, List.append_nil]; exact h
theorem infoDepT : (Tryz.prog.info? 69).map (fun i => (i.zero, i.size, i.bytes)) = some (some (.agg #[.int .i64 0, .int .i64 0, .int .i64 0]), 3, 24) := by kernel_rfl
theorem depL_bd {cs : List Cb} {ov : List Int} {out : List (List Int)} (hr : ∀ u, (out.getD u []).length ≤ 1000) (k : Nat) : (depL cs ov out k).length ≤ k * 1000 := by
  induction k with
  | zero => simp [depL]
  | succ k ih =>
    rw [depL_succ, List.length_append]
    have : (depN cs ov out k).length ≤ 1000 := by
      unfold depN
      split
      · simp
      · rw [List.length_map]; exact hr k
    omega
theorem VT.row_len {ns : List Nd} {cs : List Cb} {x : Tr} {s : Nat} {r : Nat → Nat} (V : VT ns cs x s r) (u : Nat) : (x.out.getD u []).length ≤ 32 := by
  have c32 := (valid_sizes V.hv).2
  by_cases hu : u < x.out.length
  · have h1 := V.rows
    unfold Go.Proofs.YtljojgpjgjfddaaGreat.rowsOk at h1
    have h2 := List.all_eq_true.1 h1 u (List.mem_range.2 hu)
    rw [Bool.and_eq_true] at h2
    have := asc_len (n := cs.length) (asc_pair h2.1) (fun o ho => by
      obtain ⟨k, rfl, hk, _⟩ := V.edge ho
      omega)
    omega
  · simp [List.getD, List.getElem?_eq_none (Nat.le_of_not_lt hu)]
set_option maxRecDepth 100000 in
set_option maxHeartbeats 8000000 in
theorem tdeps_any (ns : List Nd) (cs : List Cb) (x : Tr) (An Ac aO aD : Option Addr) (cn cc cO cD' : Nat) (w : World) (hl : ns.length ≤ 1000000) (hl2 : cs.length ≤ 1000000) (hwf : WfP ⟨ns, cs⟩) (hx : SmallT x) (h : IsPlan w An Ac ⟨ns, cs⟩) (h2 : IsTree w aO aD x) :
    Calls Tryz.prog 16 #[.agg #[.slice An ns.length cn, .slice Ac cs.length cc], trV x aO aD cO cD'] w (TDPost ns cs x w) := by
  unfold trV
  obtain ⟨w1, hw1⟩ : ∃ w1 : World, (w.alloc (.cells #[.slice An ns.length cn, .slice Ac cs.length cc] 25)).alloc (.cells #[.int .i64 x.src, .slice aO x.out.length cO, .slice aD x.del.length cD'] 56) = w1 := ⟨_, rfl⟩
  have s0 : w1.cell? ⟨w.heap.size, 0, none⟩ = some (.slice An ns.length cn) := by rw [← hw1]; simp [go_sem]
  have s1 : w1.cell? ⟨w.heap.size, 1, none⟩ = some (.slice Ac cs.length cc) := by rw [← hw1]; simp [go_sem]
  have t1 : w1.cell? ⟨w.heap.size + 1, 1, none⟩ = some (.slice aO x.out.length cO) := by rw [← hw1]; simp [go_sem]
  have sz1 : w.heap.size + 1 < w1.heap.size := by rw [← hw1]; simp
  have BW0 : Hid (Below w.heap.size w w1) := by rw [Hid, ← hw1]; exact ((Below.refl _ _).alloc (Nat.le_refl _) _).alloc (by simp) _
  have WC := Lib.hid (ways_any ns cs x An Ac aO aD cn cc cO cD' w1 hl hl2 hwf hx.ol hx.rl hx.dl (h.below (Nat.le_refl _) BW0.out) (h2.out.below (Nat.le_refl _) BW0.out) (h2.del.below (Nat.le_refl _) BW0.out))
  have H1 := Lib.hid (h.below (Nat.le_refl _) BW0.out)
  have R1 := Lib.hid (h2.out.below (Nat.le_refl _) BW0.out)
  have HW1 := Lib.hid hw1
  have KC : Hid (∀ w', Below w1.heap.size w1 w' → (w'.cell? ⟨w.heap.size, 0, none⟩ = some (.slice An ns.length cn) ∧ w'.cell? ⟨w.heap.size, 1, none⟩ = some (.slice Ac cs.length cc)) ∧ w'.cell? ⟨w.heap.size + 1, 1, none⟩ = some (.slice aO x.out.length cO) ∧ Below w.heap.size w w' ∧ IsPlan w' An Ac ⟨ns, cs⟩ ∧ IsRows w' aO x.out.length x.out) :=
    fun w' hb => ⟨⟨(hb.cell (by show w.heap.size < _; omega)).trans s0, (hb.cell (by show w.heap.size < _; omega)).trans s1⟩, (hb.cell (by exact sz1)).trans t1, BW0.out.trans (hb.mono (by omega)), H1.out.below (Nat.le_refl _) hb, R1.out.below (Nat.le_refl _) hb⟩
  have HWF := Lib.hid hwf
  clear h h2 hw1 hwf hx s0 s1 t1
  go_enter Tryz.func16, Tryz.ntmps16
  go_wp2_with fail
  rw [HW1.out]
  refine WC.out.mono ?_
  rintro e w2 ⟨bel, ⟨hb, rfl⟩ | ⟨hb, g, rfl, hg, hov⟩⟩
  · have F : Hid (TDPost ns cs x w (.returned (.tuple #[.slice none 0 0, .int .i64 1])) w2) := ⟨BW0.out.trans (bel.mono BW0.out.size), .inl ⟨hb, rfl⟩⟩
    clear WC bel hb
    go_wp2_with fail
    go_ret2
    exact F.out
  · obtain ⟨s, r, vt⟩ := valid_tree hb
    have HB := Lib.hid hb
    have V := Lib.hid vt
    have OV := Lib.hid hov
    have B2 := Lib.hid bel
    obtain ⟨n16, c32⟩ := valid_sizes vt.hv
    have DD : Hid (depT23 ns.length cs x = depL cs (reachR ns.length cs x).1 x.out ns.length) := rfl
    have INN : Hid (∀ u, u < ns.length → ¬ (reachR ns.length cs x).1.getD u 0 < 0 → ∃ (y k : Nat), (reachR ns.length cs x).1.getD u 0 = k ∧ touchT (cs.getD k cb0) y u ∧ k < cs.length ∧ y < ns.length ∧ othN cs u k = y) := fun u hu q => by
      obtain ⟨y, k, a1, a2, a3, a4, a5, a6, a7, a8, a9, _⟩ := vt.inn hu q
      exact ⟨y, k, a3, a4, a5, a6, a9⟩
    have RL : Hid (∀ u, (x.out.getD u []).length ≤ 1000) := fun u => by have := vt.row_len u; omega
    have XL : Hid (x.out.length = ns.length) := vt.ol
    have EDG : Hid (∀ u o, o ∈ x.out.getD u [] → ∃ k : Nat, o = k ∧ k < cs.length) := fun u o ho => by
      obtain ⟨k, h1, h2, _⟩ := vt.edge ho
      exact ⟨k, h1, h2⟩
    have CN : Hid (∀ k, k < cs.length → (0 ≤ (cs.getD k cb0).a ∧ (cs.getD k cb0).a ≤ 1000000) ∧ 0 ≤ (cs.getD k cb0).b ∧ (cs.getD k cb0).b ≤ 1000000) := fun k hk => by
      have := cab_node vt.hv (show cs.getD k cb0 ∈ cs by simp [List.getD, hk])
      omega
    generalize (reachR ns.length cs x).1 = ov at *
    have ST : Hid (RelTd1 cs ov x.out ns.length w2 (.slice none 0 0) (.int .i64 0) w2) := ⟨0, Nat.zero_le _, rfl, by unfold depL; exact World.ownsRow_nil _ _ _ _, Below.refl _ _⟩
    have KC2 : Hid (∀ w', Below w2.heap.size w2 w' → Below w1.heap.size w1 w') := fun w' hb => B2.out.trans (hb.mono B2.out.size)
    obtain ⟨i0, hi0, hz0, hz1, hz2⟩ := info_parts infoDepT
    clear vt hov hb bel WC
    go_wp2_with fail
    go_loopw [8, 24] (fun v i wr => RelTd1 cs ov x.out ns.length w2 v i wr) (fun _ i _ => ns.length - (RowKit.intOf i).toNat)
    case atStart => exact ST.out
    case round =>
      clear ST
      obtain ⟨k, hk, rfl, own, bel⟩ := hrel
      have OW := Lib.hid own
      have BE := Lib.hid bel
      clear own bel
      by_cases hkr : k < ns.length
      · obtain ⟨b1, o1, ha1, hb1, hm1, e1⟩ := int_at (OV.out.below (Nat.le_refl _) BE.out) k hkr
        injection ha1 with ha1
        injection ha1 with q1 q2
        subst q1
        subst q2
        rw [Nat.zero_add] at e1
        have ki : (k : Int) < (ns.length : Int) := by omega
        have DS := Lib.hid (depL_succ cs ov x.out k)
        have DL := depL_bd (cs := cs) (ov := ov) RL.out k
        by_cases hneg : ov.getD k 0 < 0
        · have R : Hid (RelTd1 cs ov x.out ns.length w2 u8 (.int .i64 ((k + 1 : Nat) : Int)) wr) := ⟨k + 1, by omega, rfl, by
            rw [DS.out]; unfold depN; rw [if_pos hneg, List.append_nil]; exact OW.out, BE.out⟩
          generalize ov.getD k 0 = c at *
          clear hm1 DS DL
          go_wp2_with fail
          exact ⟨by simpa using R.out, by simp [RowKit.intOf]; omega⟩
        · obtain ⟨y, i, hci, ht, hi, hy, hoy⟩ := INN.out k hkr (by omega)
          have DN : Hid (depN cs ov x.out k = (x.out.getD k []).map (dpF cs (leavV cs (i : Int) (y : Int)) k)) := by
            rw [Hid]; unfold depN; rw [if_neg hneg, hci, Int.toNat_natCast, hoy]; rfl
          have hoz : othZ (cs.getD i cb0) (k : Int) = (y : Int) := by
            unfold othZ
            rcases ht with ⟨h1, h2⟩ | ⟨h1, h2⟩ <;> omega
          have OC : Hid (∀ w', Below w1.heap.size w1 w' → Calls Tryz.prog 52 #[.agg #[.slice An ns.length cn, .slice Ac cs.length cc], .int .i64 (i : Int), .int .i64 (k : Int)] w' fun e w'' => e = .returned (.int .i64 (y : Int)) ∧ Below w'.heap.size w' w'') := fun w' hb => by
            have := tother_any ns cs An Ac cn cc i (k : Int) w' hl2 hi (KC.out w' hb).2.2.2.1.2 (CN.out i hi).1 (CN.out i hi).2 (by omega)
            rw [hoz] at this
            exact this
          have LC : Hid (∀ w', Below w1.heap.size w1 w' → Calls Tryz.prog 51 #[.agg #[.slice An ns.length cn, .slice Ac cs.length cc], .int .i64 (i : Int), .int .i64 (y : Int)] w' fun e w'' => e = .returned (.int .i64 (leavV cs (i : Int) (y : Int))) ∧ Below w'.heap.size w' w'') := fun w' hb => by
            exact tleaving_any cs An Ac ns.length cn cc (i : Int) (y : Int) w' hl2 (KC.out w' hb).2.2.2.1.2 (by omega) (by omega)
          have LC2 : Hid (∀ w', Below w1.heap.size w1 w' → ∀ q : Nat, q < cs.length → Calls Tryz.prog 51 #[.agg #[.slice An ns.length cn, .slice Ac cs.length cc], .int .i64 (q : Int), .int .i64 (k : Int)] w' fun e w'' => e = .returned (.int .i64 (leavV cs (q : Int) (k : Int))) ∧ Below w'.heap.size w' w'') := fun w' hb q hq => by
            exact tleaving_any cs An Ac ns.length cn cc (q : Int) (k : Int) w' hl2 (KC.out w' hb).2.2.2.1.2 (by omega) (by omega)
          obtain ⟨⟨c0, c1⟩, c2, _⟩ := KC.out wr (KC2.out wr BE.out)
          have BB : Hid (Below w1.heap.size w1 wr) := KC2.out wr BE.out
          have KP : Hid (∀ w', Below w1.heap.size w1 w' → w'.cell? ⟨w.heap.size, 0, none⟩ = some (.slice An ns.length cn) ∧ w'.cell? ⟨w.heap.size, 1, none⟩ = some (.slice Ac cs.length cc)) := fun w' hb => (KC.out w' hb).1
          generalize leavV cs (i : Int) (y : Int) = fr at *
          rw [hci] at e1 hneg
          clear hm1 hci hoz hoy ht
          go_wp2_with fail
          go_region_held3 (fun w' => w'.cell? ⟨w.heap.size, 0, none⟩ = some (.slice An ns.length cn) ∧ w'.cell? ⟨w.heap.size, 1, none⟩ = some (.slice Ac cs.length cc))
            (first | exact ⟨c0, c1⟩ | (refine KP.out _ ?_; repeat (first | exact BB.out | exact BS1.out | exact BS2.out | refine Below.drew ?_)))
            (first
              | (go_at_call 52
                 refine (OC.out _ (by repeat (first | exact BB.out | refine Below.drew ?_))).mono ?_
                 rintro e ws ⟨rfl, bels⟩
                 have BS1 : Hid (Below w1.heap.size w1 ws) := BB.out.drew.trans (bels.mono BB.out.drew.size)
                 have BX1 : Hid (Below wr.heap.size wr ws) := (Below.refl _ _).drew.trans bels
                 clear bels)
              | (go_at_call 51
                 refine (LC.out _ BS1.out).mono ?_
                 rintro e ws2 ⟨rfl, bels⟩
                 have BS2 : Hid (Below w1.heap.size w1 ws2) := BS1.out.trans (bels.mono BS1.out.size)
                 have BX2 : Hid (Below wr.heap.size wr ws2) := BX1.out.trans (bels.mono BX1.out.size)
                 clear bels))
          all_goals
            have OW2 := Lib.hid (own_belowK OW.out BX2.out)
            have BE2 : Hid (Below w2.heap.size w2 ws2) := BE.out.trans (BX2.out.mono BE.out.size)
            obtain ⟨_, d2, _⟩ := KC.out ws2 BS2.out
            obtain ⟨bo, oo, ar, capr, hao, hbo, hmr, hrr, cr0⟩ := R1.out.at_ k (by have := XL.out; omega)
            have cr1 := (BS2.out.cell (p := ⟨bo, oo + k, none⟩) hbo).trans cr0
            have ki2 : (k : Int) < (x.out.length : Int) := by have := XL.out; omega
            have RR : Hid (∀ w', Below w1.heap.size w1 w' → IsRec 1 cI 0 w' ar (x.out.getD k []).length (x.out.getD k [])) := fun w' hb => hrr.below (Nat.le_refl _) hb
            have rl := RL.out k
            have ED := Lib.hid (EDG.out k)
            have NX : Hid (∀ v' (wq : World), wq.ownsRow w2.heap.size 69 3 v' (depL cs ov x.out k ++ (x.out.getD k []).map (dpF cs fr k)).length ((depL cs ov x.out k ++ (x.out.getD k []).map (dpF cs fr k)).flatMap cD) → Below w2.heap.size w2 wq → RelTd1 cs ov x.out ns.length w2 v' (.int .i64 ((k + 1 : Nat) : Int)) wq) := fun v' wq ho hb =>
              ⟨k + 1, by omega, rfl, by rw [DS.out, DN.out]; exact ho, hb⟩
            generalize x.out.getD k [] = row at *
            generalize depL cs ov x.out k = pre at *
            subst hao
            have ST2 : Hid (RelTd2 cs pre fr k row w2 u8 (.int .i64 0) ws2) := ⟨0, Nat.zero_le _, rfl, by simpa using OW2.out, BE2.out⟩
            clear hrr hmr c0 c1 c2 e1 cr0 DS DN OW OW2
            go_wp2_with fail
            clear d2 cr1
            go_loopw [8, 44] (fun v i wr => RelTd2 cs pre fr k row w2 v i wr) (fun _ i _ => row.length - (RowKit.intOf i).toNat)
            case atStart => exact ST2.out
            case round =>
              clear ST2
              obtain ⟨j, hj, rfl, own, bel⟩ := hrel
              have OW := Lib.hid own
              have BF := Lib.hid bel
              clear own bel
              by_cases hjr : j < row.length
              · obtain ⟨b3, o3, ha3, hb3, hm3, e3⟩ := int_at (RR.out wr (KC2.out wr BF.out)) j hjr
                obtain ⟨q, hq, hql⟩ := ED.out _ hm3
                have TS := Lib.hid (take_snocG 0 row j hjr)
                rw [hq] at e3 TS
                subst ha3
                obtain ⟨⟨c0, c1⟩, _⟩ := KC.out wr (KC2.out wr BF.out)
                have ji : (j : Int) < (row.length : Int) := by omega
                have LCq := Lib.hid (LC2.out wr (KC2.out wr BF.out) q hql)
                have hlen : (pre ++ (row.take j).map (dpF cs fr k)).length ≤ 20000 := by rw [List.length_append, List.length_map, List.length_take]; omega
                have FN : Hid (∀ v' (wq : World), wq.ownsRow w2.heap.size 69 3 v' ((pre ++ (row.take j).map (dpF cs fr k)).length + 1) ((pre ++ (row.take j).map (dpF cs fr k)).flatMap cD ++ cD (fr, leavV cs (q : Int) (k : Int), (k : Int))) → Below w2.heap.size w2 wq → RelTd2 cs pre fr k row w2 v' (.int .i64 ((j + 1 : Nat) : Int)) wq) := fun v' wq ho hb =>
                  ⟨j + 1, by omega, rfl, by
                    have h1 := own_snocD ho
                    rw [TS.out, List.map_append, List.map_cons, List.map_nil, ← List.append_assoc]
                    exact h1, hb⟩
                generalize leavV cs (q : Int) (k : Int) = to2 at *
                generalize hL : pre ++ (row.take j).map (dpF cs fr k) = L at *
                clear hm3 hq hL TS LC LC2 OC
                go_wp2_with fail
                refine LCq.out.mono ?_
                rintro e ws3 ⟨rfl, bels3⟩
                have OW3 := Lib.hid (own_belowK OW.out bels3)
                have BF3 : Hid (Below w2.heap.size w2 ws3) := BF.out.trans (bels3.mono BF.out.size)
                have RD : Hid (Reads (ws3.alloc (.cells #[.int .i64 fr, .int .i64 to2, .int .i64 (k : Int)] 69)) (ws3.heap.size + 1) 3 (some ⟨ws3.heap.size, 0, none⟩) 1 (cD (fr, to2, (k : Int)))) := reads_newD ws3 _ _ _ _
                have OA : Hid ((ws3.alloc (.cells #[.int .i64 fr, .int .i64 to2, .int .i64 (k : Int)] 69)).ownsRow w2.heap.size 69 3 u8 L.length (L.flatMap cD)) := OW3.out.alloc _
                have BA : Hid (Below w2.heap.size w2 (ws3.alloc (.cells #[.int .i64 fr, .int .i64 to2, .int .i64 (k : Int)] 69))) := BF3.out.alloc BF3.out.size _
                have hz3 := BF3.out.size
                clear bels3 LCq c0 c1 e3
                go_wp2_with (at_builtin; refine wpList_append_any _ rfl (.tmp 48) (.tmp 56) 39 rfl w2.heap.size 69 i0 _ 3 24 Tryz.underlying39 hi0 hz0 hz1 hz2 rfl (by decide) _ L.length _ rfl OA.out (ws3.heap.size + 1) (some ⟨ws3.heap.size, 0, none⟩) 1 1 (cD (fr, to2, (k : Int))) rfl RD.out ?m1one ?m2one ?m3one ?m4one ?_)
                case m1one => intro u hu; simp [cD] at hu; rcases hu with rfl | rfl | rfl <;> rfl
                case m2one => unfold maxLen; omega
                case m3one => omega
                case m4one => simp; omega
                intro v2 w4 own2 gr2 _
                have R : Hid (RelTd2 cs pre fr k row w2 v2 (.int .i64 ((j + 1 : Nat) : Int)) w4) := FN.out v2 w4 own2 (BA.out.grown gr2 (by simp; omega) (fun g e => by have := (OA.out.lt g e).1; omega))
                clear own2 gr2 FN RD OA
                go_wp2_with fail
                exact ⟨by simpa using R.out, by simp [RowKit.intOf]; omega⟩
              · obtain rfl : j = row.length := by omega
                rw [List.take_length] at OW
                have R := Lib.hid (NX.out u8 wr OW.out BF.out)
                clear OW NX
                go_wp2_with fail
                exact ⟨by simpa using R.out, by simp [RowKit.intOf]; omega⟩
      · obtain rfl : k = ns.length := by omega
        rw [← DD.out] at OW
        have hlen : (depT23 ns.length cs x).length ≤ 1000000 := by have := depL_bd (cs := cs) (ov := ov) RL.out ns.length; rw [← DD.out] at this; omega
        have SC := Lib.hid (sortK_any w2.heap.size u8 (depT23 ns.length cs x) wr hlen OW.out)
        have BW2 : Hid (Below w.heap.size w wr) := (KC.out wr (KC2.out wr BE.out)).2.2.1
        have hz2' := B2.out.size
        have OLT : Hid (∀ g, u8.ownBlock = some g → w2.heap.size ≤ g) := fun g e => (OW.out.lt g e).1
        obtain ⟨dt, hdt⟩ : ∃ dt, depT23 ns.length cs x = dt := ⟨_, rfl⟩
        rw [hdt] at SC OW hlen
        have HDT := Lib.hid hdt
        clear hdt DD
        go_wp2_with fail
        refine SC.out.mono ?_
        rintro e ws ⟨rfl, ts, hp, hs, ho, hg⟩
        have F : Hid (TDPost ns cs x w (.returned (.tuple #[u8, .int .i64 0])) ws) := by
          refine ⟨BW2.out.grown hg (by have := BW2.out.size; exact this) (fun g e => by have := OLT.out g e; have := BW0.out.size; omega), .inr ⟨HB.out, ts, u8, ?_, hs, rfl, ?_⟩⟩
          · rw [HDT.out]; exact hp
          · rw [hp.length_eq]; exact own_mono ho (by have := BW0.out.size; omega)
        clear SC hp hs ho hg
        go_wp2_with fail
        go_ret2
        exact F.out
end Go.Proofs.YtljojgpjgjfddaaGreat
