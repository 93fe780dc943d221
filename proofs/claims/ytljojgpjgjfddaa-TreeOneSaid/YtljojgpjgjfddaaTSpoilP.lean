/- Spoilt trees are not valid; what reach tells of a tree that it finds sound. No program in sight. -/
import Derived.Test.YtljojgpjgjfddaaTValM
import Derived.Test.YtljojgpjgjfddaaTWays
namespace Go.Proofs.Ytljojgpjgjfddaa
open Go.RowKit Go.Maps
set_option linter.unusedVariables false
set_option linter.unusedSimpArgs false

section
variable {n : Nat} {cs : List Cb} {out : List (List Int)} {r : Nat → Nat}
theorem goR_true {g : List Int → Nat → Int → List Int × Bool} {u : Nat} {o : Int} {l ov : List Int} (h : (goR cs g u (o :: l) ov).2 = true) : (g ov (othN cs u o.toNat) o).2 = true ∧ goR cs g u (o :: l) ov = goR cs g u l (g ov (othN cs u o.toNat) o).1 := by
  rw [goR] at h ⊢
  by_cases q : (g ov (othN cs u o.toNat) o).2 = true
  · rw [if_pos q]; exact ⟨q, rfl⟩
  · rw [if_neg q] at h; cases h
theorem visR_sound (H : ∀ u o, o ∈ out.getD u [] → othN cs u o.toNat < n ∧ o ≠ -2) (f : Nat) : ∀ (ov : List Int) (u : Nat) (c : Int), ov.length = n → u < n → c ≠ -2 → (visR cs out f ov u c).2 = true →
    (∀ x, ov.getD x 0 ≠ -2 → (visR cs out f ov u c).1.getD x 0 = ov.getD x 0) ∧ (visR cs out f ov u c).1.getD u 0 = c ∧ ov.getD u 0 = -2 ∧ ∀ x, ov.getD x 0 = -2 → (visR cs out f ov u c).1.getD x 0 ≠ -2 → ∀ o ∈ out.getD x [], (visR cs out f ov u c).1.getD (othN cs x o.toNat) 0 = o := by
  induction f with
  | zero => intro ov u c _ _ _ h; cases h
  | succ f ih =>
    intro ov u c hl hu hc h
    by_cases h0 : ov.getD u 0 = -2
    · have hv : visR cs out (f + 1) ov u c = goR cs (visR cs out f) u (out.getD u []) (ov.set u c) := by rw [visR, if_pos h0]
      rw [hv] at h ⊢
      have G : ∀ (l : List Int) (ov1 : List Int), (∀ o ∈ l, o ∈ out.getD u []) → ov1.length = n → (goR cs (visR cs out f) u l ov1).2 = true →
          (∀ x, ov1.getD x 0 ≠ -2 → (goR cs (visR cs out f) u l ov1).1.getD x 0 = ov1.getD x 0) ∧ (∀ o ∈ l, (goR cs (visR cs out f) u l ov1).1.getD (othN cs u o.toNat) 0 = o) ∧
          ∀ x, ov1.getD x 0 = -2 → (goR cs (visR cs out f) u l ov1).1.getD x 0 ≠ -2 → ∀ o ∈ out.getD x [], (goR cs (visR cs out f) u l ov1).1.getD (othN cs x o.toNat) 0 = o := by
        intro l
        induction l with
        | nil => intro ov1 _ _ _; exact ⟨fun x _ => rfl, fun o ho => (by cases ho), fun x h1 h2 => absurd h1 h2⟩
        | cons o l ihl =>
          intro ov1 hm hl1 ht
          obtain ⟨t1, t2⟩ := goR_true ht
          obtain ⟨hvn, ho2⟩ := H u o (hm o (List.mem_cons_self ..))
          obtain ⟨a1, a2, _, a4⟩ := ih ov1 (othN cs u o.toNat) o hl1 hvn ho2 t1
          rw [t2] at ht ⊢
          obtain ⟨b1, b2, b3⟩ := ihl (visR cs out f ov1 (othN cs u o.toNat) o).1 (fun o' ho' => hm o' (List.mem_cons_of_mem _ ho')) (by rw [visR_len]; exact hl1) ht
          refine ⟨fun x hx => ?_, fun o' ho' => ?_, fun x h1 h2 o' ho' => ?_⟩
          · have e := a1 x hx
            rw [b1 x (by rw [e]; exact hx), e]
          · rcases List.mem_cons.1 ho' with rfl | ho'
            · rw [b1 _ (by rw [a2]; exact ho2), a2]
            · exact b2 o' ho'
          · by_cases q : (visR cs out f ov1 (othN cs u o.toNat) o).1.getD x 0 = -2
            · exact b3 x q h2 o' ho'
            · have e := a4 x h1 q o' ho'
              have := (H x o' ho').2
              rw [b1 _ (by rw [e]; exact this), e]
      have hset : ∀ x, x ≠ u → (ov.set u c).getD x 0 = ov.getD x 0 := fun x hx => by simp [List.getD, List.getElem?_set, show ¬ u = x from fun e => hx e.symm]
      have hsu : (ov.set u c).getD u 0 = c := by simp [List.getD, show u < ov.length by omega]
      obtain ⟨g1, g2, g3⟩ := G (out.getD u []) (ov.set u c) (fun o ho => ho) (by rw [List.length_set]; exact hl) h
      refine ⟨fun x hx => ?_, ?_, h0, fun x h1 h2 => ?_⟩
      · have hne : x ≠ u := fun e => hx (e ▸ h0)
        rw [g1 x (by rw [hset x hne]; exact hx), hset x hne]
      · rw [g1 u (by rw [hsu]; exact hc), hsu]
      · by_cases e : x = u
        · subst e; exact g2
        · exact g3 x (by rw [hset x e]; exact h1) h2
    · have hv : visR cs out (f + 1) ov u c = (ov, false) := by rw [visR, if_neg h0]
      rw [hv] at h; cases h
theorem reach_sound (H : ∀ u o, o ∈ out.getD u [] → othN cs u o.toNat < n ∧ o ≠ -2) {x : Tr} (hx : x.out = out) {s : Nat} (hs : x.src = s) (hsn : s < n) (h : (reachR n cs x).2 = true) :
    (reachR n cs x).1.getD s 0 = -1 ∧ (∀ v, v < n → (reachR n cs x).1.getD v 0 ≠ -2 → ∀ o ∈ out.getD v [], (reachR n cs x).1.getD (othN cs v o.toNat) 0 = o) ∧ ∀ v, DT cs out s v → v < n ∧ (reachR n cs x).1.getD v 0 ≠ -2 := by
  unfold reachR at h ⊢
  rw [hs, Int.toNat_natCast, hx] at h ⊢
  have hz : ∀ v, v < n → (over0 n).getD v 0 = -2 := fun v hv => by unfold over0; simp [List.getD, hv]
  obtain ⟨h1, h2, h3, h4⟩ := visR_sound H (n + 1) (over0 n) s (-1) (by unfold over0; simp) hsn (by decide) h
  have h5 : ∀ v, v < n → (visR cs out (n + 1) (over0 n) s (-1)).1.getD v 0 ≠ -2 → ∀ o ∈ out.getD v [], (visR cs out (n + 1) (over0 n) s (-1)).1.getD (othN cs v o.toNat) 0 = o := fun v hv hq => h4 v (hz v hv) hq
  refine ⟨h2, h5, ?_⟩
  rintro v ⟨k, hk⟩
  induction k generalizing v with
  | zero => cases hk; exact ⟨hsn, by rw [h2]; decide⟩
  | succ k ih =>
    obtain ⟨y, hy, o, ho, rfl⟩ := dsc_last k hk
    obtain ⟨q1, q2⟩ := ih y hy
    obtain ⟨q3, q4⟩ := H y o ho
    exact ⟨q3, by rw [h5 y q1 q2 o ho]; exact q4⟩
theorem InTree.sub {out' : List (List Int)} (I : InTree n cs out r) (hs : ∀ u, (out'.getD u []).Sublist (out.getD u [])) : InTree n cs out' r :=
  ⟨fun u o ho => I.go u o ((hs u).subset ho), fun u u' o o' ho ho' e => I.one u u' o o' ((hs u).subset ho) ((hs u').subset ho') e, fun u => (hs u).nodup (I.nodup u)⟩
theorem DT.mono {out' : List (List Int)} (hs : ∀ u o, o ∈ out.getD u [] → o ∈ out'.getD u []) {s v : Nat} (h : DT cs out s v) : DT cs out' s v := by
  obtain ⟨k, hk⟩ := h
  induction k generalizing s with
  | zero => exact ⟨0, hk⟩
  | succ k ih => obtain ⟨w, ⟨o, ho, e⟩, h2⟩ := hk; exact DT.step ⟨o, hs _ o ho, e⟩ (ih h2)
end
section
variable {ns : List Nd} {cs : List Cb} {lv ms : List Int} {s : Nat}
theorem rows_touch (hv : validP ⟨ns, cs⟩ = 0) {out : List (List Int)} (hr : rowsOk cs out = true) {u : Nat} {o : Int} (ho : o ∈ out.getD u []) : ∃ k : Nat, o = k ∧ k < cs.length ∧ touchT (cs.getD k cb0) u (othN cs u k) ∧ othN cs u k < ns.length := by
  have hu : u < out.length := by
    rcases Nat.lt_or_ge u out.length with q | q
    · exact q
    · simp [List.getD, List.getElem?_eq_none q] at ho
  unfold Go.Proofs.Ytljojgpjgjfddaa.rowsOk at hr
  have h1 := List.all_eq_true.1 hr u (List.mem_range.2 hu)
  rw [Bool.and_eq_true] at h1
  have h2 := List.all_eq_true.1 h1.2 o ho
  unfold isEndB at h2
  simp only [Bool.and_eq_true, decide_eq_true_eq] at h2
  obtain ⟨⟨q1, q2⟩, q3⟩ := h2
  have hk : o.toNat < cs.length := by omega
  have hm : cs.getD o.toNat cb0 ∈ cs := by simp [List.getD, hk]
  obtain ⟨⟨a0, a1⟩, b0, b1⟩ := cab_node hv hm
  obtain ⟨v, e, ht⟩ := oth_touch q3 a0 b0
  have e2 : othN cs u o.toNat = v := by unfold othN; rw [e]; simp
  refine ⟨o.toNat, by omega, hk, by rw [e2]; exact ht, ?_⟩
  rw [e2]
  rcases ht with ⟨_, h2⟩ | ⟨_, h2⟩ <;> omega
theorem waysB_parts {x : Tr} (h : waysB ns cs x = true) : validP ⟨ns, cs⟩ = 0 ∧ 0 ≤ x.src ∧ x.src < ns.length ∧ x.out.length = ns.length ∧ rowsOk cs x.out = true ∧ (reachR ns.length cs x).2 = true ∧ ascB x.del = true ∧ delOk ns.length (reachR ns.length cs x).1 x.del = true ∧ (List.range ns.length).all (rowFine (reachR ns.length cs x).1 x) = true := by
  unfold waysB waysB1 at h
  simp only [Bool.and_eq_true, decide_eq_true_eq] at h
  obtain ⟨⟨⟨⟨⟨h1, h2⟩, h3⟩, h4⟩, h5⟩, ⟨⟨h6, h7⟩, h8⟩, h9⟩ := h
  exact ⟨h1, h2, h3, h4, h5, h6, h7, h8, h9⟩
/-- With a cable back to where a frame came from, a tree is not valid. -/
theorem MOk.back_bad (h : MOk ns cs lv ms s) {z : Tr} (hs : z.src = s) (hsub : ∀ u o, o ∈ (rowsM ns cs lv ms s).getD u [] → o ∈ z.out.getD u []) {u : Nat} {c : Int} (hc : c ∈ (rowsM ns cs lv ms s).getD u []) (hz : c ∈ z.out.getD (othN cs u c.toNat) []) : waysB ns cs z = false := by
  cases hw : waysB ns cs z with
  | false => rfl
  | true =>
    obtain ⟨_, _, _, _, hr, ht, _⟩ := waysB_parts hw
    have H : ∀ u o, o ∈ z.out.getD u [] → othN cs u o.toNat < ns.length ∧ o ≠ -2 := fun u o ho => by
      obtain ⟨k, rfl, _, _, q⟩ := rows_touch h.T.hv hr ho
      rw [Int.toNat_natCast]
      exact ⟨q, by omega⟩
    obtain ⟨r1, r2, r3⟩ := reach_sound H rfl hs h.hs ht
    have hdx := h.reach_row (u := u) (fun e => by rw [e] at hc; cases hc)
    obtain ⟨u1, u2⟩ := r3 u (hdx.mono hsub)
    have hcz := hsub u c hc
    have v1 := r2 u u1 u2 c hcz
    obtain ⟨v2, v3⟩ := H u c hcz
    obtain ⟨k, hk, hkl, htc, _⟩ := rows_touch h.T.hv hr hcz
    subst hk
    rw [Int.toNat_natCast] at *
    have b1 := r2 _ v2 (by rw [v1]; exact v3) (k : Int) hz
    rw [Int.toNat_natCast, oth_of (touchT_symm htc)] at b1
    obtain ⟨j, hj⟩ := hdx
    cases j with
    | zero =>
      have e : s = u := hj
      subst e
      rw [r1] at b1
      omega
    | succ j =>
      obtain ⟨y, hy, o', ho', e⟩ := dsc_last j hj
      obtain ⟨y1, y2⟩ := r3 y (DT.mono hsub ⟨j, hy⟩)
      have q := r2 y y1 y2 o' (hsub y o' ho')
      rw [e, b1] at q
      subst q
      obtain ⟨k', hk', _, htk, _⟩ := rows_touch h.T.hv h.rows_ok ho'
      have : k' = k := by omega
      subst this
      rw [Int.toNat_natCast] at e
      rw [e] at htk
      have e2 : othN cs u k' = y := oth_of (touchT_symm htk)
      have g1 := (h.intree.go u _ hc).2.2.2
      have g2 := (h.intree.go y _ ho').2.2.2
      rw [Int.toNat_natCast] at g1 g2
      rw [e2] at g1
      rw [e] at g2
      omega
/-- With a cable taken away that leads on, a tree is not valid. -/
theorem MOk.cut_bad (h : MOk ns cs lv ms s) {y : Tr} (hs : y.src = s) (hdel : ∀ v, v ∈ ms → v ∈ y.del) {u : Nat} {c : Int} {l : List Int} (hu : (rowsM ns cs lv ms s).getD u [] = c :: l) (hy : ∀ w, y.out.getD w [] = if w = u then l else (rowsM ns cs lv ms s).getD w []) : waysB ns cs y = false := by
  have I := h.intree
  have I2 : InTree ns.length cs y.out (rkM ns cs lv s) := I.sub fun w => by
    rw [hy w]
    by_cases e : w = u
    · subst e; rw [if_pos rfl, hu]; exact List.sublist_cons_self c l
    · rw [if_neg e]; exact List.Sublist.refl _
  have hcm : c ∈ (rowsM ns cs lv ms s).getD u [] := by rw [hu]; exact List.mem_cons_self ..
  obtain ⟨hun, hvn, hc0, hrk⟩ := I.go u c hcm
  have hnd := I.nodup u
  rw [hu, List.nodup_cons] at hnd
  obtain ⟨_, _, _, _, r5⟩ := reach_tree I2 y rfl hs h.hs
  have hvs : othN cs u c.toNat ≠ s := fun e => by
    have : rkM ns cs lv s s = 0 := by rw [rkM_in (below_self s)]; omega
    rw [e, this] at hrk
    omega
  have hnr : ¬ DT cs y.out s (othN cs u c.toNat) := by
    rintro ⟨j, hj⟩
    cases j with
    | zero => exact hvs (Eq.symm hj)
    | succ j =>
      obtain ⟨w, _, o, ho, e⟩ := dsc_last j hj
      have hox : o ∈ (rowsM ns cs lv ms s).getD w [] := by
        rw [hy w] at ho
        by_cases q : w = u
        · subst q; rw [if_pos rfl] at ho; rw [hu]; exact List.mem_cons_of_mem _ ho
        · rw [if_neg q] at ho; exact ho
      obtain ⟨q1, q2⟩ := I.one _ _ _ _ hox hcm e
      subst q1; subst q2
      rw [hy w, if_pos rfl] at ho
      exact hnd.1 ho
  have hov := r5 _ hvn hnr
  have hvu : othN cs u c.toNat ≠ u := fun e => by rw [e] at hrk; omega
  by_cases hne : (rowsM ns cs lv ms s).getD (othN cs u c.toNat) [] = []
  · have hdv : DT cs (rowsM ns cs lv ms s) s (othN cs u c.toNat) := DT.snoc (h.reach_row (fun e => by rw [e] at hcm; cases hcm)) ⟨c, hcm, rfl⟩
    have hm := hdel _ (memW_iff.1 (h.leaf hvs hdv hne))
    refine wb7 ?_
    rw [List.all_eq_false]
    refine ⟨_, hm, ?_⟩
    unfold delB
    rw [Int.toNat_natCast, hov]
    simp
  · refine wb8 ?_
    rw [List.all_eq_false]
    refine ⟨_, List.mem_range.2 hvn, ?_⟩
    unfold rowFine
    have : 0 < (y.out.getD (othN cs u c.toNat) []).length := by
      rw [hy, if_neg hvu]
      exact List.length_pos_iff.2 hne
    rw [hov, decide_eq_true this]
    simp
/-- With a delivery at no node. -/
theorem del_bad {y : Tr} {v : Int} (hv : v ∈ y.del) (h : ¬ v < ns.length) : waysB ns cs y = false := by
  refine wb7 ?_
  rw [List.all_eq_false]
  refine ⟨v, hv, ?_⟩
  unfold delB
  rw [decide_eq_false h]
  simp
end
end Go.Proofs.Ytljojgpjgjfddaa
