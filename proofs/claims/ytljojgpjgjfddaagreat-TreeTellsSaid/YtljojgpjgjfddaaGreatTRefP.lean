/- What the reference's search through a tree finds, in plain Lean: exactly the nodes of the tree, each with its walk, or else a node twice, which no valid tree has. No program in sight. -/
import Derived.Test.YtljojgpjgjfddaaGreatTLeg
namespace Go.Proofs.YtljojgpjgjfddaaGreat
open Go.RowKit Go.Maps
set_option linter.unusedVariables false
set_option linter.unusedSimpArgs false

/-- The cable o of the node at place j of the queue is done: those of the first i nodes, and k of the next one. -/
def DoneB (out : List (List Int)) (Q : List Nat) (i k j : Nat) (o : Int) : Prop := j < Q.length ∧ (j < i ∧ o ∈ out.getD (Q.getD j 0) [] ∨ j = i ∧ o ∈ (out.getD (Q.getD i 0) []).take k)
structure BS (n : Nat) (cs : List Cb) (out : List (List Int)) (s : Nat) (Q : List Nat) (i k : Nat) (seen : List Bool) (P : List (List Int)) : Prop where
  sl : seen.length = n
  pl : P.length = n
  il : i ≤ Q.length
  nd : Q.Nodup
  q0 : Q.getD 0 0 = s ∧ 0 < Q.length
  lt : ∀ v ∈ Q, v < n
  sn : ∀ v, v < n → (seen.getD v false = true ↔ v ∈ Q)
  ps : P.getD s [] = []
  fw : ∀ j o, DoneB out Q i k j o → othN cs (Q.getD j 0) o.toNat ∈ Q ∧ othN cs (Q.getD j 0) o.toNat ≠ s ∧ P.getD (othN cs (Q.getD j 0) o.toNat) [] = P.getD (Q.getD j 0) [] ++ [o]
  par : ∀ v ∈ Q, v ≠ s → ∃ j o, DoneB out Q i k j o ∧ othN cs (Q.getD j 0) o.toNat = v
  un : ∀ j o j' o', DoneB out Q i k j o → DoneB out Q i k j' o' → othN cs (Q.getD j 0) o.toNat = othN cs (Q.getD j' 0) o'.toNat → j = j' ∧ o = o'
section
variable {n : Nat} {cs : List Cb} {out : List (List Int)} {s : Nat} {Q : List Nat} {i k : Nat} {seen : List Bool} {P : List (List Int)}
theorem getD_mem {α : Type} {l : List α} {j : Nat} {d : α} (h : j < l.length) : l.getD j d ∈ l := by simp [List.getD, h]
theorem nd_inj {α : Type} {l : List α} (hn : l.Nodup) {a b : Nat} (ha : a < l.length) (hb : b < l.length) (e : l[a] = l[b]) : a = b := by
  have h := List.pairwise_iff_getElem.1 hn
  rcases Nat.lt_trichotomy a b with q | q | q
  · exact absurd e (h a b ha hb q)
  · exact q
  · exact absurd e.symm (h b a hb ha q)
theorem getD_get {α : Type} {l : List α} {d : α} {a : Nat} (ha : a < l.length) : l.getD a d = l[a] := by simp [List.getD, ha]
theorem getD_inj {l : List Nat} (hn : l.Nodup) {a b : Nat} (ha : a < l.length) (hb : b < l.length) (e : l.getD a 0 = l.getD b 0) : a = b := by
  have e1 : l.getD a 0 = l[a] := by simp [List.getD, ha]
  have e2 : l.getD b 0 = l[b] := by simp [List.getD, hb]
  rw [e1, e2] at e
  exact nd_inj hn ha hb e
theorem getD_ex {l : List Nat} {v : Nat} (h : v ∈ l) : ∃ j, j < l.length ∧ l.getD j 0 = v := by
  obtain ⟨j, hj, e⟩ := List.mem_iff_getElem.1 h
  exact ⟨j, hj, by simp [List.getD, hj, e]⟩
theorem take_getD {l : List Int} {k : Nat} (hk : k < l.length) : l.take (k + 1) = l.take k ++ [l.getD k 0] := by
  rw [List.take_add_one]; simp [List.getD, hk]
theorem BS.start (hs : s < n) : BS n cs out s [s] 0 0 ((List.replicate n false).set s true) (List.replicate n []) where
  sl := by simp
  pl := by simp
  il := Nat.zero_le _
  nd := by simp
  q0 := ⟨rfl, by simp⟩
  lt := by intro v hv; simp at hv; omega
  sn := by
    intro v hv
    by_cases e : v = s
    · subst e; simp [List.getD, hv]
    · have : ¬ s = v := fun q => e q.symm
      simp [List.getD, hv, List.getElem?_set, this, e]
  ps := by simp [List.getD, hs]
  fw := by rintro j o ⟨_, h | ⟨_, h⟩⟩ <;> simp at h
  par := by intro v hv hne; simp at hv; exact absurd hv hne
  un := by rintro j o j' o' ⟨_, h | ⟨_, h⟩⟩ <;> simp at h
theorem BS.row (h : BS n cs out s Q i k seen P) (hi : i < Q.length) (hk : k = (out.getD (Q.getD i 0) []).length) : BS n cs out s Q (i + 1) 0 seen P := by
  have hd : ∀ j o, DoneB out Q (i + 1) 0 j o ↔ DoneB out Q i k j o := by
    intro j o
    unfold DoneB
    rw [hk, List.take_length]
    simp only [List.take_zero, List.not_mem_nil, and_false, or_false]
    constructor
    · rintro ⟨h1, h2, h3⟩
      refine ⟨h1, ?_⟩
      by_cases e : j = i
      · subst e; exact .inr ⟨rfl, h3⟩
      · exact .inl ⟨by omega, h3⟩
    · rintro ⟨h1, ⟨h2, h3⟩ | ⟨rfl, h3⟩⟩
      · exact ⟨h1, by omega, h3⟩
      · exact ⟨h1, by omega, h3⟩
  exact ⟨h.sl, h.pl, by omega, h.nd, h.q0, h.lt, h.sn, h.ps, fun j o q => h.fw j o ((hd j o).1 q), fun v hv hne => by
    obtain ⟨j, o, q, e⟩ := h.par v hv hne
    exact ⟨j, o, (hd j o).2 q, e⟩, fun j o j' o' q q' => h.un j o j' o' ((hd _ _).1 q) ((hd _ _).1 q')⟩
theorem BS.step (h : BS n cs out s Q i k seen P) (hi : i < Q.length) (hk : k < (out.getD (Q.getD i 0) []).length) {o : Int} (ho : (out.getD (Q.getD i 0) []).getD k 0 = o) {v : Nat} (hv : othN cs (Q.getD i 0) o.toNat = v) (hvn : v < n) (hns : seen.getD v false = false) :
    BS n cs out s (Q ++ [v]) i (k + 1) (seen.set v true) (P.set v (P.getD (Q.getD i 0) [] ++ [o])) := by
  have hq : v ∉ Q := fun q => by have := (h.sn v hvn).2 q; rw [hns] at this; cases this
  have hvs : v ≠ s := fun e => hq (by rw [e, ← h.q0.1]; exact getD_mem h.q0.2)
  have gl : ∀ j, j < Q.length → (Q ++ [v]).getD j 0 = Q.getD j 0 := fun j hj => by simp [List.getD, List.getElem?_append_left hj]
  have gp : ∀ x, x ≠ v → (P.set v (P.getD (Q.getD i 0) [] ++ [o])).getD x [] = P.getD x [] := fun x hx => by
    have : ¬ v = x := fun q => hx q.symm
    simp [List.getD, List.getElem?_set, this]
  have gv : (P.set v (P.getD (Q.getD i 0) [] ++ [o])).getD v [] = P.getD (Q.getD i 0) [] ++ [o] := by
    have := h.pl
    simp [List.getD, show v < P.length by omega]
  have hd : ∀ j o', DoneB out (Q ++ [v]) i (k + 1) j o' ↔ DoneB out Q i k j o' ∨ (j = i ∧ o' = o) := by
    intro j o'
    unfold DoneB
    rw [gl i hi, take_getD hk, ho]
    have hlen : (Q ++ [v]).length = Q.length + 1 := by simp
    constructor
    · rintro ⟨h1, ⟨h2, h3⟩ | ⟨rfl, h3⟩⟩
      · rw [gl j (by omega)] at h3
        exact .inl ⟨by omega, .inl ⟨h2, h3⟩⟩
      · rcases List.mem_append.1 h3 with q | q
        · exact .inl ⟨hi, .inr ⟨rfl, q⟩⟩
        · exact .inr ⟨rfl, by simpa using q⟩
    · rintro (⟨h1, ⟨h2, h3⟩ | ⟨rfl, h3⟩⟩ | ⟨rfl, rfl⟩)
      · exact ⟨by omega, .inl ⟨h2, by rw [gl j h1]; exact h3⟩⟩
      · exact ⟨by omega, .inr ⟨rfl, List.mem_append_left _ h3⟩⟩
      · exact ⟨by omega, .inr ⟨rfl, List.mem_append_right _ (List.mem_singleton.2 rfl)⟩⟩
  have hj : ∀ j o', DoneB out Q i k j o' → j < Q.length ∧ Q.getD j 0 ≠ v := fun j o' q => ⟨q.1, fun e => hq (by rw [← e]; exact getD_mem q.1)⟩
  have hiv : Q.getD i 0 ≠ v := fun e => hq (by rw [← e]; exact getD_mem hi)
  refine ⟨by rw [List.length_set]; exact h.sl, by rw [List.length_set]; exact h.pl, by simp; omega, ?_, ⟨by rw [gl 0 h.q0.2]; exact h.q0.1, by simp⟩, ?_, ?_, ?_, ?_, ?_, ?_⟩
  · rw [List.nodup_append]
    exact ⟨h.nd, by simp, fun a ha b hb e => by rw [List.mem_singleton] at hb; subst hb; subst e; exact hq ha⟩
  · intro x hx
    rcases List.mem_append.1 hx with q | q
    · exact h.lt x q
    · rw [List.mem_singleton] at q; omega
  · intro x hx
    by_cases e : x = v
    · subst e
      have := h.sl
      simp [List.getD, show x < seen.length by omega]
    · have : ¬ v = x := fun q => e q.symm
      have e2 : (seen.set v true).getD x false = seen.getD x false := by simp [List.getD, List.getElem?_set, this]
      rw [e2, h.sn x hx]
      simp [e]
  · rw [gp s (Ne.symm hvs)]; exact h.ps
  · intro j o' q
    rcases (hd j o').1 q with q | ⟨rfl, rfl⟩
    · obtain ⟨a1, a2, a3⟩ := h.fw j o' q
      obtain ⟨b1, b2⟩ := hj j o' q
      rw [gl j b1]
      refine ⟨List.mem_append_left _ a1, a2, ?_⟩
      rw [gp _ (fun e => hq (by rw [← e]; exact a1)), gp _ b2]
      exact a3
    · rw [gl j hi, hv]
      exact ⟨List.mem_append_right _ (List.mem_singleton.2 rfl), hvs, by rw [gv, gp _ hiv]⟩
  · intro x hx hne
    rcases List.mem_append.1 hx with q | q
    · obtain ⟨j, o', a, b⟩ := h.par x q hne
      exact ⟨j, o', (hd j o').2 (.inl a), by rw [gl j a.1]; exact b⟩
    · rw [List.mem_singleton] at q
      subst q
      exact ⟨i, o, (hd i o).2 (.inr ⟨rfl, rfl⟩), by rw [gl i hi]; exact hv⟩
  · intro j o1 j' o2 q q' e
    rcases (hd j o1).1 q with q | ⟨rfl, rfl⟩ <;> rcases (hd j' o2).1 q' with q' | ⟨rfl, rfl⟩
    · rw [gl j q.1, gl j' q'.1] at e
      exact h.un j o1 j' o2 q q' e
    · rw [gl j q.1, gl _ hi, hv] at e
      exact absurd (e ▸ (h.fw j o1 q).1) hq
    · rw [gl _ hi, gl j' q'.1, hv] at e
      exact absurd (e.symm ▸ (h.fw j' o2 q').1) hq
    · exact ⟨rfl, rfl⟩
end
section
variable {ns : List Nd} {cs : List Cb} {x : Tr} {s : Nat} {r : Nat → Nat} {Q : List Nat} {i k : Nat} {seen : List Bool} {P : List (List Int)}
/-- A node that is found twice: the tree is not valid. -/
theorem BS.twice (h : BS ns.length cs x.out s Q i k seen P) (V : VT ns cs x s r) (hi : i < Q.length) (hk : k < (x.out.getD (Q.getD i 0) []).length) {o : Int} (ho : (x.out.getD (Q.getD i 0) []).getD k 0 = o) {v : Nat} (hv : othN cs (Q.getD i 0) o.toNat = v) (hvn : v < ns.length) (hs : seen.getD v false = true) : False := by
  have hq := (h.sn v hvn).1 hs
  have hm : o ∈ x.out.getD (Q.getD i 0) [] := by rw [← ho]; exact getD_mem hk
  by_cases e : v = s
  · exact V.top (Q.getD i 0) ⟨o, hm, by rw [hv, e]⟩
  · obtain ⟨j, o', hd, e2⟩ := h.par v hq e
    have hm' : o' ∈ x.out.getD (Q.getD j 0) [] := by
      rcases hd.2 with ⟨_, q⟩ | ⟨rfl, q⟩
      · exact q
      · exact List.mem_of_mem_take q
    obtain ⟨e3, e4⟩ := V.I.one _ _ _ _ hm' hm (e2.trans hv.symm)
    have e5 := getD_inj h.nd hd.1 hi e3
    subst e5
    subst e4
    rcases hd.2 with ⟨q, _⟩ | ⟨_, q⟩
    · omega
    · obtain ⟨a, ha, e6⟩ := List.mem_iff_getElem.1 q
      rw [List.length_take] at ha
      rw [List.getElem_take] at e6
      have e7 : (x.out.getD (Q.getD j 0) [])[k] = o' := by rw [← ho]; exact (getD_get hk).symm
      have := nd_inj (V.I.nodup (Q.getD j 0)) (by omega) hk (e6.trans e7.symm)
      omega
end
section
variable {n : Nat} {cs : List Cb} {out : List (List Int)} {s : Nat} {Q : List Nat} {seen : List Bool} {P : List (List Int)}
theorem done_end {j : Nat} {o : Int} (hj : j < Q.length) (ho : o ∈ out.getD (Q.getD j 0) []) : DoneB out Q Q.length 0 j o := ⟨hj, .inl ⟨hj, ho⟩⟩
theorem BS.closed (h : BS n cs out s Q Q.length 0 seen P) {u : Nat} {o : Int} (hu : u ∈ Q) (ho : o ∈ out.getD u []) : othN cs u o.toNat ∈ Q ∧ othN cs u o.toNat ≠ s ∧ P.getD (othN cs u o.toNat) [] = P.getD u [] ++ [o] := by
  obtain ⟨j, hj, rfl⟩ := getD_ex hu
  exact h.fw j o (done_end hj ho)
theorem BS.src (h : BS n cs out s Q Q.length 0 seen P) : s ∈ Q := by rw [← h.q0.1]; exact getD_mem h.q0.2
theorem BS.dt_mem (h : BS n cs out s Q Q.length 0 seen P) {v : Nat} (hd : DT cs out s v) : v ∈ Q := by
  obtain ⟨k, hk⟩ := hd
  induction k generalizing v with
  | zero => cases hk; exact h.src
  | succ k ih =>
    obtain ⟨y, hy, o, ho, rfl⟩ := dsc_last k hk
    exact (h.closed (ih hy) ho).1
/-- The walk to a node that was found. -/
theorem BS.walk (h : BS n cs out s Q Q.length 0 seen P) : ∀ (m v : Nat), v ∈ Q → (P.getD v []).length = m → ∃ W, chn cs s W v ∧ inRows out W ∧ W.map (·.2) = P.getD v [] ∧ DT cs out s v := by
  intro m
  induction m with
  | zero =>
    intro v hv hm
    by_cases e : v = s
    · subst e
      exact ⟨[], rfl, fun p hp => (by cases hp), by rw [h.ps]; rfl, DT.refl _⟩
    · obtain ⟨j, o, hd, rfl⟩ := h.par v hv e
      rw [(h.fw j o hd).2.2] at hm
      simp at hm
  | succ m ih =>
    intro v hv hm
    by_cases e : v = s
    · subst e
      rw [h.ps] at hm
      simp at hm
    · obtain ⟨j, o, hd, rfl⟩ := h.par v hv e
      have hp := (h.fw j o hd).2.2
      rw [hp] at hm
      have hu := getD_mem (d := 0) hd.1
      obtain ⟨W, w1, w2, w3, w4⟩ := ih (Q.getD j 0) hu (by simpa using hm)
      have ho : o ∈ out.getD (Q.getD j 0) [] := by
        rcases hd.2 with ⟨_, q⟩ | ⟨_, q⟩
        · exact q
        · simp at q
      refine ⟨W ++ [(Q.getD j 0, o)], chn_snoc W w1 rfl, ?_, ?_, w4.snoc ⟨o, ho, rfl⟩⟩
      · intro p hp
        rcases List.mem_append.1 hp with q | q
        · exact w2 p q
        · rw [List.mem_singleton] at q; subst q; exact ho
      · rw [hp, List.map_append, w3]; rfl
theorem BS.mem_dt (h : BS n cs out s Q Q.length 0 seen P) {v : Nat} (hv : v ∈ Q) : DT cs out s v := (h.walk _ v hv rfl).choose_spec.2.2.2
theorem BS.tree (h : BS n cs out s Q Q.length 0 seen P) (hn : ∀ u, u ∉ Q → out.getD u [] = []) (h0 : ∀ u o, o ∈ out.getD u [] → 0 ≤ o) (hnd : ∀ u, (out.getD u []).Nodup) : InTree n cs out (fun u => (P.getD u []).length) where
  go := by
    intro u o ho
    have hu : u ∈ Q := Classical.byContradiction fun q => by rw [hn u q] at ho; cases ho
    obtain ⟨h1, h2, h3⟩ := h.closed hu ho
    refine ⟨h.lt u hu, h.lt _ h1, h0 u o ho, ?_⟩
    simp only [h3, List.length_append]
    simp
  one := by
    intro u u' o o' ho ho' e
    have hu : u ∈ Q := Classical.byContradiction fun q => by rw [hn u q] at ho; cases ho
    have hu' : u' ∈ Q := Classical.byContradiction fun q => by rw [hn u' q] at ho'; cases ho'
    obtain ⟨j, hj, rfl⟩ := getD_ex hu
    obtain ⟨j', hj', rfl⟩ := getD_ex hu'
    obtain ⟨e1, e2⟩ := h.un j o j' o' (done_end hj ho) (done_end hj' ho') e
    exact ⟨by rw [e1], e2⟩
  nodup := hnd
end
/-- What the reference asks of a tree, besides its rows. -/
def refDel (n : Nat) (Q : List Nat) (l : List Int) : Prop := ∀ v ∈ l, ∃ k : Nat, v = k ∧ k < n ∧ k ∈ Q
def refRow (s : Nat) (Q : List Nat) (x : Tr) (u : Nat) : Prop := (u ∉ Q → x.out.getD u [] = []) ∧ (u ∈ Q → u ≠ s → x.out.getD u [] = [] → (u : Int) ∈ x.del)
section
variable {ns : List Nd} {cs : List Cb} {x : Tr} {s : Nat} {Q : List Nat} {seen : List Bool} {P : List (List Int)}
theorem BS.ways (h : BS ns.length cs x.out s Q Q.length 0 seen P) (hv : validP ⟨ns, cs⟩ = 0) (hs : x.src = s) (hol : x.out.length = ns.length) (hrw : rowsOk cs x.out = true) (hda : ascB x.del = true)
    (hd : refDel ns.length Q x.del) (hr : ∀ u, u < ns.length → refRow s Q x u) : waysB ns cs x = true := by
  have hsn : s < ns.length := h.lt s h.src
  have hn : ∀ u, u ∉ Q → x.out.getD u [] = [] := fun u hu => by
    rcases Nat.lt_or_ge u ns.length with q | q
    · exact (hr u q).1 hu
    · simp [List.getD, List.getElem?_eq_none (show x.out.length ≤ u by omega)]
  have h0 : ∀ u o, o ∈ x.out.getD u [] → 0 ≤ o := fun u o ho => by
    obtain ⟨k, rfl, _⟩ := rows_touch hv hrw ho
    omega
  have hnd : ∀ u, (x.out.getD u []).Nodup := fun u => by
    rcases Nat.lt_or_ge u x.out.length with q | q
    · have h1 := hrw
      unfold rowsOk at h1
      have h2 := List.all_eq_true.1 h1 u (List.mem_range.2 q)
      rw [Bool.and_eq_true] at h2
      exact (asc_pair h2.1).imp fun h3 h4 => by omega
    · simp [List.getD, List.getElem?_eq_none q]
  refine ways_tree hv (h.tree hn h0 hnd) rfl hs hsn hol hrw hda (fun v hv => ?_) (fun u hu => ?_) (fun u hne hdt he => ?_)
  · obtain ⟨k, h1, h2, h3⟩ := hd v hv
    exact ⟨k, h1, h2, h.mem_dt h3⟩
  · exact h.mem_dt (Classical.byContradiction fun q => hu (hn u q))
  · have hq := h.dt_mem hdt
    exact (hr u (h.lt u hq)).2 hq hne he
theorem VT.refOk {r : Nat → Nat} (V : VT ns cs x s r) (h : BS ns.length cs x.out s Q Q.length 0 seen P) : refDel ns.length Q x.del ∧ ∀ u, u < ns.length → refRow s Q x u := by
  refine ⟨fun v hv => ?_, fun u hu => ⟨fun hq => ?_, fun hq hne he => V.leaf u hne (h.mem_dt hq) he⟩⟩
  · obtain ⟨k, h1, h2, h3⟩ := V.del v hv
    exact ⟨k, h1, h2, h.dt_mem h3⟩
  · exact Classical.byContradiction fun q => hq (h.dt_mem (V.row u q))
theorem ways_src {r : Nat → Nat} {s' : Nat} (hs : x.src = s) (V : VT ns cs x s' r) : s' = s := by have := V.src; omega
end
end Go.Proofs.YtljojgpjgjfddaaGreat
