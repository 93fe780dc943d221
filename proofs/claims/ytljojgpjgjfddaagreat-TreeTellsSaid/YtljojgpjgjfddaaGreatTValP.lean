/- The tree of tree.Make is valid: every node is reached once, and each leaf is a member. No program in sight. -/
import Derived.Test.YtljojgpjgjfddaaGreatTMakeP
import Derived.Test.YtljojgpjgjfddaaGreatTReachP
namespace Go.Proofs.YtljojgpjgjfddaaGreat
open Go.RowKit Go.Maps
set_option linter.unusedVariables false
set_option linter.unusedSimpArgs false

/-- k cables lead from u to x. -/
def dscT (E : Nat → Nat → Prop) : Nat → Nat → Nat → Prop
  | 0, u, x => u = x
  | k + 1, u, x => ∃ v, E u v ∧ dscT E k v x
section
variable {E : Nat → Nat → Prop}
theorem dsc_snoc (k : Nat) : ∀ {u x y : Nat}, dscT E k u y → E y x → dscT E (k + 1) u x := by
  induction k with
  | zero => intro u x y h e; cases h; exact ⟨x, e, rfl⟩
  | succ k ih => intro u x y h e; obtain ⟨v, h1, h2⟩ := h; exact ⟨v, h1, ih h2 e⟩
theorem dsc_last (k : Nat) : ∀ {u x : Nat}, dscT E (k + 1) u x → ∃ y, dscT E k u y ∧ E y x := by
  induction k with
  | zero => intro u x h; obtain ⟨v, h1, h2⟩ := h; obtain rfl : v = x := h2; exact ⟨u, rfl, h1⟩
  | succ k ih => intro u x h; obtain ⟨v, h1, h2⟩ := h; obtain ⟨y, h3, h4⟩ := ih h2; exact ⟨y, ⟨v, h1, h3⟩, h4⟩
theorem dsc_rank {r : Nat → Nat} (hr : ∀ u v, E u v → r u < r v) (k : Nat) : ∀ {u x : Nat}, dscT E k u x → r u + k ≤ r x := by
  induction k with
  | zero => intro u x h; cases h; exact Nat.le_refl _
  | succ k ih => intro u x h; obtain ⟨v, h1, h2⟩ := h; have := hr _ _ h1; have := ih h2; omega
theorem dsc_split (a b : Nat) : ∀ {u x : Nat}, dscT E (a + b) u x → ∃ y, dscT E a u y ∧ dscT E b y x := by
  induction a with
  | zero => intro u x h; rw [Nat.zero_add] at h; exact ⟨u, rfl, h⟩
  | succ a ih =>
    intro u x h
    rw [show a + 1 + b = a + b + 1 by omega] at h
    obtain ⟨v, h1, h2⟩ := h
    obtain ⟨y, h3, h4⟩ := ih h2
    exact ⟨y, ⟨v, h1, h3⟩, h4⟩
theorem dsc_uniq (hu : ∀ u u' v, E u v → E u' v → u = u') (k : Nat) : ∀ {u u' x : Nat}, dscT E k u x → dscT E k u' x → u = u' := by
  induction k with
  | zero => intro u u' x h h'; exact Eq.trans h (Eq.symm h')
  | succ k ih =>
    intro u u' x h h'
    obtain ⟨y, h1, h2⟩ := dsc_last k h
    obtain ⟨y', h3, h4⟩ := dsc_last k h'
    obtain rfl := hu _ _ _ h2 h4
    exact ih h1 h3
theorem dsc_lt {r : Nat → Nat} (hu : ∀ u u' v, E u v → E u' v → u = u') (hr : ∀ u v, E u v → r u < r v) {u v v' x j d : Nat} (e : E u v) (e' : E u v') (h : dscT E j v x) (h' : dscT E (d + 1 + j) v' x) : False := by
  obtain ⟨y, h1, h2⟩ := dsc_split (d + 1) j h'
  obtain rfl := dsc_uniq hu j h h2
  obtain ⟨z, h3, h4⟩ := dsc_last d h1
  obtain rfl := hu _ _ _ e h4
  have := dsc_rank hr d h3
  have := hr _ _ e'
  omega
/-- What is behind two cables of one node is apart. -/
theorem dsc_apart {r : Nat → Nat} (hu : ∀ u u' v, E u v → E u' v → u = u') (hr : ∀ u v, E u v → r u < r v) {u v v' x j k : Nat} (e : E u v) (e' : E u v') (h : dscT E j v x) (h' : dscT E k v' x) : v = v' := by
  rcases Nat.lt_trichotomy j k with h1 | h1 | h1
  · obtain ⟨d, rfl⟩ : ∃ d, k = d + 1 + j := ⟨k - j - 1, by omega⟩
    exact (dsc_lt hu hr e e' h h').elim
  · subst h1; exact dsc_uniq hu j h h'
  · obtain ⟨d, rfl⟩ : ∃ d, j = d + 1 + k := ⟨j - k - 1, by omega⟩
    exact (dsc_lt hu hr e' e h' h).elim
end
/-- A cable of the tree leads from u to v. -/
def ET (cs : List Cb) (out : List (List Int)) (u v : Nat) : Prop := ∃ o ∈ out.getD u [], othN cs u o.toNat = v
def DT (cs : List Cb) (out : List (List Int)) (u x : Nat) : Prop := ∃ k, dscT (ET cs out) k u x
structure InTree (n : Nat) (cs : List Cb) (out : List (List Int)) (r : Nat → Nat) : Prop where
  go : ∀ u o, o ∈ out.getD u [] → u < n ∧ othN cs u o.toNat < n ∧ 0 ≤ o ∧ r u < r (othN cs u o.toNat)
  one : ∀ u u' o o', o ∈ out.getD u [] → o' ∈ out.getD u' [] → othN cs u o.toNat = othN cs u' o'.toNat → u = u' ∧ o = o'
  nodup : ∀ u, (out.getD u []).Nodup
noncomputable def innT (cs : List Cb) (out : List (List Int)) (v : Nat) : Int := Classical.epsilon fun o => ∃ u, o ∈ out.getD u [] ∧ othN cs u o.toNat = v
section
variable {n : Nat} {cs : List Cb} {out : List (List Int)} {r : Nat → Nat}
theorem InTree.inn (I : InTree n cs out r) {u : Nat} {o : Int} (h : o ∈ out.getD u []) : innT cs out (othN cs u o.toNat) = o := by
  have hs := Classical.epsilon_spec (p := fun o' => ∃ u', o' ∈ out.getD u' [] ∧ othN cs u' o'.toNat = othN cs u o.toNat) ⟨o, u, h, rfl⟩
  obtain ⟨u', h1, h2⟩ := hs
  exact (I.one _ _ _ _ h1 h h2).2
theorem InTree.rk (I : InTree n cs out r) : ∀ u v, ET cs out u v → r u < r v := by
  rintro u v ⟨o, ho, rfl⟩
  exact (I.go u o ho).2.2.2
theorem InTree.uq (I : InTree n cs out r) : ∀ u u' v, ET cs out u v → ET cs out u' v → u = u' := by
  rintro u u' v ⟨o, ho, e⟩ ⟨o', ho', e'⟩
  exact (I.one _ _ _ _ ho ho' (e.trans e'.symm)).1
theorem DT.refl (u : Nat) : DT cs out u u := ⟨0, rfl⟩
theorem DT.step {u v x : Nat} (h : ET cs out u v) (h2 : DT cs out v x) : DT cs out u x := by obtain ⟨k, hk⟩ := h2; exact ⟨k + 1, v, h, hk⟩
theorem DT.snoc {u v x : Nat} (h : DT cs out u v) (h2 : ET cs out v x) : DT cs out u x := by obtain ⟨k, hk⟩ := h; exact ⟨k + 1, dsc_snoc k hk h2⟩
theorem DT.cases {u x : Nat} (h : DT cs out u x) : x = u ∨ ∃ o ∈ out.getD u [], DT cs out (othN cs u o.toNat) x := by
  obtain ⟨k, hk⟩ := h
  cases k with
  | zero => exact .inl (Eq.symm hk)
  | succ k => obtain ⟨v, ⟨o, ho, rfl⟩, h2⟩ := hk; exact .inr ⟨o, ho, k, h2⟩
theorem InTree.le (I : InTree n cs out r) {u x : Nat} (h : DT cs out u x) : r u ≤ r x := by obtain ⟨k, hk⟩ := h; have := dsc_rank I.rk k hk; omega
theorem vis_tree (I : InTree n cs out r) (f : Nat) : ∀ (ov : List Int) (u : Nat) (c : Int), u < n → ov.length = n → c ≠ -2 → cntR ov < f → (∀ x, DT cs out u x → ov.getD x 0 = -2) →
    (visR cs out f ov u c).2 = true ∧ ∀ x, (x = u → (visR cs out f ov u c).1.getD x 0 = c) ∧ (x ≠ u → DT cs out u x → (visR cs out f ov u c).1.getD x 0 = innT cs out x) ∧ (¬ DT cs out u x → (visR cs out f ov u c).1.getD x 0 = ov.getD x 0) := by
  induction f with
  | zero => intro ov u c _ _ _ h; omega
  | succ f ih =>
    intro ov u c hu hl hc hcnt hfree
    have h0 := hfree u (DT.refl u)
    have hout : ∀ u, ∀ o ∈ out.getD u [], o ≠ -2 := fun u o ho => by have := (I.go u o ho).2.2.1; omega
    have hv : visR cs out (f + 1) ov u c = goR cs (visR cs out f) u (out.getD u []) (ov.set u c) := by rw [visR, if_pos h0]
    rw [hv]
    have G : ∀ (l done : List Int) (ov1 : List Int), done ++ l = out.getD u [] → ov1.length = n → cntR ov1 < f →
        (∀ x, (x = u → ov1.getD x 0 = c) ∧ (x ≠ u → (∃ o ∈ done, DT cs out (othN cs u o.toNat) x) → ov1.getD x 0 = innT cs out x) ∧ (x ≠ u → (∀ o ∈ done, ¬ DT cs out (othN cs u o.toNat) x) → ov1.getD x 0 = ov.getD x 0)) →
        (goR cs (visR cs out f) u l ov1).2 = true ∧ ∀ x, (x = u → (goR cs (visR cs out f) u l ov1).1.getD x 0 = c) ∧ (x ≠ u → DT cs out u x → (goR cs (visR cs out f) u l ov1).1.getD x 0 = innT cs out x) ∧ (¬ DT cs out u x → (goR cs (visR cs out f) u l ov1).1.getD x 0 = ov.getD x 0) := by
      intro l
      induction l with
      | nil =>
        intro done ov1 hd _ _ hsp
        rw [List.append_nil] at hd
        subst hd
        refine ⟨rfl, fun x => ⟨(hsp x).1, fun hne hx => ?_, fun hx => ?_⟩⟩
        · rcases hx.cases with e | ⟨o, ho, h⟩
          · exact absurd e hne
          · exact (hsp x).2.1 hne ⟨o, ho, h⟩
        · have hne : x ≠ u := fun e => hx (by rw [e]; exact DT.refl u)
          exact (hsp x).2.2 hne fun o ho h => hx (DT.step ⟨o, ho, rfl⟩ h)
      | cons o l ihl =>
        intro done ov1 hd hl1 hc1 hsp
        have hom : o ∈ out.getD u [] := by rw [← hd]; simp
        obtain ⟨_, hvn, ho0, hrk⟩ := I.go u o hom
        have hnd := I.nodup u
        rw [← hd] at hnd
        have hod : o ∉ done := fun h => by
          have := (List.nodup_append.1 hnd).2.2 o h o (by simp)
          exact this rfl
        have heu : ET cs out u (othN cs u o.toNat) := ⟨o, hom, rfl⟩
        have hap : ∀ o' ∈ done, ∀ x, DT cs out (othN cs u o.toNat) x → ¬ DT cs out (othN cs u o'.toNat) x := fun o' ho' x ⟨j, hj⟩ ⟨k, hk⟩ => by
          have hom' : o' ∈ out.getD u [] := by rw [← hd]; exact List.mem_append_left _ ho'
          have e := dsc_apart I.uq I.rk heu ⟨o', hom', rfl⟩ hj hk
          have := (I.one _ _ _ _ hom hom' e).2
          exact hod (this ▸ ho')
        have hself : ∀ x, DT cs out (othN cs u o.toNat) x → x ≠ u := fun x hx e => by
          subst e
          have := I.le hx
          omega
        obtain ⟨r1, r2⟩ := ih ov1 (othN cs u o.toNat) o hvn hl1 (by omega) hc1 (fun x hx => by
          rw [(hsp x).2.2 (hself x hx) (fun o' ho' => hap o' ho' x hx)]
          exact hfree x (DT.step heu hx))
        rw [goR, if_pos r1]
        have hcv := visR_cnt (cs := cs) hout f ov1 (othN cs u o.toNat) o (by omega) (by omega)
        refine ihl (done ++ [o]) _ (by rw [List.append_assoc]; exact hd) (by rw [visR_len]; exact hl1) (Nat.lt_of_le_of_lt hcv hc1) (fun x => ⟨fun e => ?_, fun hne hx => ?_, fun hne hx => ?_⟩)
        · rw [(r2 x).2.2 (fun h => hself x h e)]
          exact (hsp x).1 e
        · by_cases hv : DT cs out (othN cs u o.toNat) x
          · by_cases e : x = othN cs u o.toNat
            · rw [(r2 x).1 e, e, I.inn hom]
            · exact (r2 x).2.1 e hv
          · rw [(r2 x).2.2 hv]
            obtain ⟨o', ho', h⟩ := hx
            rcases List.mem_append.1 ho' with h1 | h1
            · exact (hsp x).2.1 hne ⟨o', h1, h⟩
            · rw [List.mem_singleton] at h1; subst h1; exact absurd h hv
        · rw [(r2 x).2.2 (hx o (by simp))]
          exact (hsp x).2.2 hne fun o' ho' => hx o' (List.mem_append_left _ ho')
    refine G (out.getD u []) [] (ov.set u c) rfl (by rw [List.length_set]; exact hl) (by have := cnt_set (by omega : u < ov.length) h0 hc; omega) (fun x => ⟨fun e => ?_, fun _ ⟨o, ho, _⟩ => (by cases ho), fun hne _ => ?_⟩)
    · subst e; simp [List.getD, show x < ov.length by omega]
    · simp [List.getD, List.getElem?_set, show ¬ u = x from fun e => hne e.symm]
/-- What reach answers at a tree. -/
theorem reach_tree (I : InTree n cs out r) (x : Tr) (hx : x.out = out) {s : Nat} (hs : x.src = s) (hsn : s < n) :
    (reachR n cs x).2 = true ∧ (reachR n cs x).1.length = n ∧ (reachR n cs x).1.getD s 0 = -1 ∧ (∀ v, v ≠ s → DT cs out s v → (reachR n cs x).1.getD v 0 = innT cs out v) ∧ ∀ v, v < n → ¬ DT cs out s v → (reachR n cs x).1.getD v 0 = -2 := by
  unfold reachR
  rw [hs, Int.toNat_natCast, hx]
  have hlen : (over0 n).length = n := by unfold over0; simp
  have hz : ∀ v, v < n → (over0 n).getD v 0 = -2 := fun v hv => by unfold over0; simp [List.getD, hv]
  have hdn : ∀ v, DT cs out s v → v < n := by
    rintro v ⟨k, hk⟩
    cases k with
    | zero => cases hk; exact hsn
    | succ k => obtain ⟨y, _, o, ho, rfl⟩ := dsc_last k hk; exact (I.go y o ho).2.1
  obtain ⟨h1, h2⟩ := vis_tree I (n + 1) (over0 n) s (-1) hsn hlen (by decide) (by rw [cnt_over0]; omega) (fun v hv => hz v (hdn v hv))
  exact ⟨h1, by rw [visR_len]; exact hlen, (h2 s).1 rfl, fun v hne hv => (h2 v).2.1 hne hv, fun v hv hd => ((h2 v).2.2 hd).trans (hz v hv)⟩
theorem InTree.inn_nn (I : InTree n cs out r) {s v : Nat} (hne : v ≠ s) (h : DT cs out s v) : 0 ≤ innT cs out v := by
  obtain ⟨k, hk⟩ := h
  cases k with
  | zero => exact absurd (Eq.symm hk) hne
  | succ k => obtain ⟨y, _, o, ho, rfl⟩ := dsc_last k hk; rw [I.inn ho]; exact (I.go y o ho).2.2.1
theorem ways_tree {ns : List Nd} {out : List (List Int)} (hv : validP ⟨ns, cs⟩ = 0) (I : InTree ns.length cs out r) {x : Tr} (hx : x.out = out) {s : Nat} (hs : x.src = s) (hsn : s < ns.length) (hol : out.length = ns.length) (hrw : rowsOk cs out = true) (hda : ascB x.del = true)
    (hd : ∀ v ∈ x.del, ∃ k : Nat, v = k ∧ k < ns.length ∧ DT cs out s k) (hr : ∀ u, out.getD u [] ≠ [] → DT cs out s u) (hl : ∀ u, u ≠ s → DT cs out s u → out.getD u [] = [] → (u : Int) ∈ x.del) : waysB ns cs x = true := by
  obtain ⟨h1, h2, h3, h4, h5⟩ := reach_tree I x hx hs hsn
  have hnn : ∀ v, DT cs out s v → (reachR ns.length cs x).1.getD v 0 ≠ -2 := fun v hv => by
    by_cases e : v = s
    · subst e; rw [h3]; decide
    · rw [h4 v e hv]; have := I.inn_nn e hv; omega
  unfold waysB waysB1
  rw [h1, hx, hrw, hda, decide_eq_true hv, decide_eq_true (show 0 ≤ x.src by omega), decide_eq_true (show x.src < ns.length by omega), decide_eq_true hol]
  simp only [Bool.true_and, Bool.and_eq_true]
  constructor
  · unfold delOk
    rw [List.all_eq_true]
    intro v hv
    obtain ⟨k, rfl, hk, hdt⟩ := hd v hv
    have := hnn k hdt
    simp only [Int.toNat_natCast, Bool.and_eq_true, decide_eq_true_eq]
    exact ⟨⟨by omega, by omega⟩, this⟩
  · rw [List.all_eq_true]
    intro u hu
    rw [List.mem_range] at hu
    unfold rowFine
    rw [hx]
    by_cases hdt : DT cs out s u
    · have q := hnn u hdt
      have q1 : ((reachR ns.length cs x).1.getD u 0 == -2) = false := by simpa using q
      rw [q1]
      by_cases e : u = s
      · subst e; rw [h3]; simp
      · by_cases e2 : out.getD u [] = []
        · have hm := hl u e hdt e2
          have : (x.del.any fun d => d == (u : Int)) = true := by rw [List.any_eq_true]; exact ⟨_, hm, by simp⟩
          rw [this]; simp
        · have : ((out.getD u []).length == 0) = false := by
            rw [beq_eq_false_iff_ne]; intro h; exact e2 (List.length_eq_zero_iff.1 h)
          rw [this]; simp
    · have e2 : out.getD u [] = [] := by
        by_cases e : out.getD u [] = []
        · exact e
        · exact absurd (hr u e) hdt
      rw [h5 u hu hdt, e2]; simp
end
end Go.Proofs.YtljojgpjgjfddaaGreat
