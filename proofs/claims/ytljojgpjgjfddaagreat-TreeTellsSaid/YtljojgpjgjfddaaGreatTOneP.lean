/- The tree of Make is valid; the tree for one member is a single path. No program in sight. -/
import Derived.Test.YtljojgpjgjfddaaGreatTValM
import Derived.Test.YtljojgpjgjfddaaGreatTMkB
namespace Go.Proofs.YtljojgpjgjfddaaGreat
open Go.RowKit Go.Maps Go.Sort
set_option linter.unusedVariables false
set_option linter.unusedSimpArgs false

theorem mem_delM {ms : List Int} {v : Int} : v ∈ delM ms ↔ v ∈ ms := by unfold delM; rw [List.mem_mergeSort]
theorem delM_asc {ms : List Int} (h : ms.Nodup) : (delM ms).Pairwise (· < ·) := by
  have h1 : (delM ms).Pairwise fun a b => leI a b = true := List.pairwise_mergeSort (le := leI) (fun a b c h1 h2 => by simp [leI] at *; omega) (fun a b => by simp [leI]; omega) ms
  have h2 : (delM ms).Nodup := (List.mergeSort_perm ms leI).nodup_iff.2 h
  refine (h1.and h2).imp fun {a b} hab => ?_
  have q1 : a ≤ b := by simpa [leI] using hab.1
  have q2 : a ≠ b := hab.2
  omega
section
variable {ns : List Nd} {cs : List Cb} {lv ms : List Int} {s : Nat}
theorem mkT_out (ns : List Nd) (cs : List Cb) (lv ms : List Int) (s : Nat) : (mkT ns cs lv ms s).out = rowsM ns cs lv ms s := rfl
theorem MOk.mk_ways (h : MOk ns cs lv ms s) : waysB ns cs (mkT ns cs lv ms s) = true := h.ways rfl rfl (delM_asc h.nodup) (fun v => mem_delM)
/-- A chain of pairs, each of which leads to the next one. -/
def chn (cs : List Cb) : Nat → List (Nat × Int) → Nat → Prop
  | u, [], v => u = v
  | u, p :: l, v => u = p.1 ∧ chn cs (othN cs p.1 p.2.toNat) l v
theorem chn_snoc (l : List (Nat × Int)) : ∀ {u x v : Nat} {i : Int}, chn cs u l x → othN cs x i.toNat = v → chn cs u (l ++ [(x, i)]) v := by
  induction l with
  | nil => intro u x v i h e; exact ⟨h, e⟩
  | cons p l ih => intro u x v i h e; exact ⟨h.1, ih h.2 e⟩
theorem chn_split (l m : List (Nat × Int)) : ∀ {u v : Nat}, chn cs u (l ++ m) v → ∃ x, chn cs u l x ∧ chn cs x m v := by
  induction l with
  | nil => intro u v h; exact ⟨u, rfl, h⟩
  | cons p l ih => intro u v h; obtain ⟨x, h1, h2⟩ := ih h.2; exact ⟨x, ⟨h.1, h1⟩, h2⟩
theorem wpairs_chn (T : TOk ns cs lv) (f : Nat) : ∀ a b, a < ns.length → b < ns.length → 0 ≤ lv.getD a 0 → 0 ≤ lv.getD b 0 → lv.getD a 0 + lv.getD b 0 < f →
    chn cs a (wpairs cs lv f a b) b ∧ ((wpairs cs lv f a b).length : Int) ≤ lv.getD a 0 + lv.getD b 0 := by
  induction f with
  | zero => intro a b _ _ h1 h2 h; omega
  | succ f ih =>
    intro a b ha hb a0 b0 hf
    unfold wpairs
    by_cases e : a = b
    · subst e; rw [if_pos rfl]; exact ⟨rfl, by rw [List.length_nil]; omega⟩
    · rw [if_neg e]
      rcases T.rise_cases ha hb a0 b0 e with ⟨hr, hal, _⟩ | ⟨hr, hbl, _⟩
      · rw [if_pos hr]
        obtain ⟨q1, q2⟩ := T.pnl ha hal
        obtain ⟨c1, c2⟩ := ih (pnT cs lv a) b q1 hb (by omega) b0 (by omega)
        exact ⟨⟨rfl, c1⟩, by rw [List.length_cons]; push_cast; omega⟩
      · rw [if_neg (by rw [hr]; simp)]
        obtain ⟨k, hk, hp, ht, hn, hl⟩ := T.up hb hbl
        obtain ⟨c1, c2⟩ := ih a (pnT cs lv b) ha hn a0 (by omega) (by omega)
        refine ⟨chn_snoc _ c1 ?_, by rw [List.length_append, List.length_singleton]; push_cast; omega⟩
        rw [hp, Int.toNat_natCast]
        exact oth_of (touchT_symm ht)
/-- Along a chain of cables of a tree the rank rises. -/
theorem chn_rank {n : Nat} {out : List (List Int)} {r : Nat → Nat} (I : InTree n cs out r) (l : List (Nat × Int)) : ∀ {u v : Nat}, (∀ p ∈ l, p.2 ∈ out.getD p.1 []) → chn cs u l v →
    (∀ p ∈ l, r u ≤ r p.1 ∧ r p.1 < r v) ∧ l.Pairwise (fun p q => r p.1 < r q.1) ∧ r u ≤ r v := by
  induction l with
  | nil => intro u v _ h; exact ⟨fun p hp => (by cases hp), List.Pairwise.nil, by rw [show u = v from h]; exact Nat.le_refl _⟩
  | cons p l ih =>
    intro u v hm h
    obtain ⟨rfl, h2⟩ := h
    have he := (I.go p.1 p.2 (hm p (List.mem_cons_self ..))).2.2.2
    obtain ⟨i1, i2, i3⟩ := ih (fun q hq => hm q (List.mem_cons_of_mem _ hq)) h2
    refine ⟨fun q hq => ?_, List.pairwise_cons.2 ⟨fun q hq => by have := (i1 q hq).1; omega, i2⟩, by omega⟩
    rcases List.mem_cons.1 hq with rfl | hq
    · exact ⟨Nat.le_refl _, by omega⟩
    · have := i1 q hq; omega
theorem sum_count (n : Nat) (L : List (Nat × Int)) (h : ∀ p ∈ L, p.1 < n) : ((List.range n).map fun u => L.countP (fun p => p.1 == u)).sum = L.length := by
  induction L with
  | nil =>
    simp only [List.countP_nil, List.length_nil]
    generalize List.range n = l
    induction l with
    | nil => rfl
    | cons a l ih => rw [List.map_cons, List.sum_cons, ih]
  | cons p L ih =>
    have h1 := ih (fun q hq => h q (List.mem_cons_of_mem _ hq))
    have hp := h p (List.mem_cons_self ..)
    have e : ∀ m, p.1 < m → ((List.range m).map fun u => (p :: L).countP (fun q => q.1 == u)).sum = ((List.range m).map fun u => L.countP (fun q => q.1 == u)).sum + 1 := by
      intro m
      induction m with
      | zero => intro h; omega
      | succ m ihm =>
        intro hm
        rw [List.range_succ, List.map_append, List.sum_append, List.map_append, List.sum_append]
        simp only [List.map_cons, List.map_nil, List.sum_cons, List.sum_nil, Nat.add_zero]
        rw [List.countP_cons]
        by_cases q : p.1 = m
        · have z : ∀ k, k ≤ p.1 → ((List.range k).map fun u => (p :: L).countP (fun q => q.1 == u)).sum = ((List.range k).map fun u => L.countP (fun q => q.1 == u)).sum := by
            intro k
            induction k with
            | zero => intro _; rfl
            | succ k ihk =>
              intro hk
              rw [List.range_succ, List.map_append, List.sum_append, List.map_append, List.sum_append, ihk (by omega)]
              simp only [List.map_cons, List.map_nil, List.sum_cons, List.sum_nil, Nat.add_zero]
              rw [List.countP_cons, if_neg (by simp; omega)]
              rfl
          rw [z m (by omega), if_pos (by simp [q])]
          omega
        · rw [ihm (by omega), if_neg (by simpa using q)]
          omega
    rw [e n hp, h1, List.length_cons]
/-- The tree for one member. -/
theorem MOk.single {b : Nat} (h : MOk ns cs lv [(b : Int)] s) : ∃ L : List (Nat × Int), chn cs s L b ∧ (L.length : Int) ≤ lv.getD s 0 + lv.getD b 0 ∧ sumL (rowsM ns cs lv [(b : Int)] s) = L.length ∧
    (∀ p ∈ L, (rowsM ns cs lv [(b : Int)] s).getD p.1 [] = [p.2] ∧ p.1 < ns.length) ∧ (rowsM ns cs lv [(b : Int)] s).getD b [] = [] := by
  have hW : memW [(b : Int)] b = true := memW_iff.2 (List.mem_singleton.2 rfl)
  obtain ⟨hb, b0⟩ := h.hW b hW
  have hf : lv.getD s 0 + lv.getD b 0 < (ns.length + ns.length + 1 : Nat) := by
    have h1 := (h.T.lt s h.hs).2
    have h2 := (h.T.lt b hb).2
    push_cast
    omega
  obtain ⟨c1, c2⟩ := wpairs_chn h.T (ns.length + ns.length + 1) s b h.hs hb h.s0 b0 hf
  have hmem : ∀ u i, i ∈ (rowsM ns cs lv [(b : Int)] s).getD u [] ↔ (u, i) ∈ wpairs cs lv (ns.length + ns.length + 1) s b ∧ u < ns.length := by
    intro u i
    by_cases hu : u < ns.length
    · rw [rowsM_at hu, h.mem]
      constructor
      · rintro ⟨m, hm, hx⟩
        have : m = b := by have := List.mem_singleton.1 hm; omega
        subst this
        exact ⟨hx, hu⟩
      · rintro ⟨hx, _⟩; exact ⟨b, List.mem_singleton.2 rfl, hx⟩
    · rw [rowsM_out hu]
      constructor
      · intro h; cases h
      · rintro ⟨_, h⟩; exact absurd h hu
  have hlt : ∀ p ∈ wpairs cs lv (ns.length + ns.length + 1) s b, p.1 < ns.length := fun p hp => by
    have := (h.T.mem_wpairs _ s b h.hs hb h.s0 b0 hf p.1 p.2).1 hp
    rcases this with ⟨h1, _⟩ | ⟨c, h1, h2, _, h4, _⟩
    · exact h1
    · have := (h.T.pnl h1 h2).1; rw [h4] at this; exact this
  generalize hL : wpairs cs lv (ns.length + ns.length + 1) s b = L at *
  have hin : ∀ p ∈ L, p.2 ∈ (rowsM ns cs lv [(b : Int)] s).getD p.1 [] := fun p hp => (hmem p.1 p.2).2 ⟨hp, hlt p hp⟩
  obtain ⟨r1, r2, _⟩ := chn_rank h.intree L hin c1
  have huniq : ∀ p ∈ L, ∀ q ∈ L, p.1 = q.1 → p = q := by
    intro p hp q hq e
    obtain ⟨i, hi, ei⟩ := List.getElem_of_mem hp
    obtain ⟨j, hj, ej⟩ := List.getElem_of_mem hq
    rw [List.pairwise_iff_getElem] at r2
    rcases Nat.lt_trichotomy i j with q1 | q1 | q1
    · have := r2 i j hi hj q1; rw [ei, ej, e] at this; omega
    · subst q1; rw [← ei, ← ej]
    · have := r2 j i hj hi q1; rw [ei, ej, e] at this; omega
  have hnd : L.Nodup := r2.imp fun {p q} hpq e => by rw [e] at hpq; omega
  have hrow : ∀ p ∈ L, (rowsM ns cs lv [(b : Int)] s).getD p.1 [] = [p.2] := by
    intro p hp
    have n1 := h.intree.nodup p.1
    have all : ∀ i ∈ (rowsM ns cs lv [(b : Int)] s).getD p.1 [], i = p.2 := fun i hi => by
      have := huniq (p.1, i) ((hmem p.1 i).1 hi).1 p hp rfl
      rw [← this]
    have hi := hin p hp
    generalize (rowsM ns cs lv [(b : Int)] s).getD p.1 [] = row at *
    match row, all, hi, n1 with
    | [], _, hi, _ => cases hi
    | [x], all, _, _ => rw [all x (List.mem_singleton.2 rfl)]
    | x :: y :: l, all, _, n1 =>
      have e1 := all x (by simp)
      have e2 := all y (by simp)
      rw [List.nodup_cons] at n1
      exact absurd (by simp [e1, e2]) n1.1
  refine ⟨L, c1, c2, ?_, fun p hp => ⟨hrow p hp, hlt p hp⟩, ?_⟩
  · rw [← sum_count ns.length L hlt]
    unfold sumL rowsM
    rw [List.map_map]
    congr 1
    refine List.map_congr_left fun u hu => ?_
    rw [List.mem_range] at hu
    show (makeOut ns cs lv [(b : Int)] s u).length = _
    rw [← rowsM_at (ns := ns) (cs := cs) (lv := lv) (ms := [(b : Int)]) (s := s) hu]
    have e1 : ((rowsM ns cs lv [(b : Int)] s).getD u []).length = (((rowsM ns cs lv [(b : Int)] s).getD u []).map fun i => (u, i)).length := by rw [List.length_map]
    rw [e1, List.countP_eq_length_filter]
    refine List.Perm.length_eq ((List.perm_ext_iff_of_nodup ?_ (hnd.filter _)).2 fun p => ?_)
    · exact List.pairwise_map.2 ((h.intree.nodup u).imp fun {a b} hab e => hab (by injection e))
    · rw [List.mem_map, List.mem_filter]
      constructor
      · rintro ⟨i, hi, rfl⟩; exact ⟨((hmem u i).1 hi).1, by simp⟩
      · rintro ⟨hp, e⟩
        have e2 : p.1 = u := by simpa using e
        exact ⟨p.2, (hmem u p.2).2 ⟨by rw [← e2]; exact hp, hu⟩, by rw [← e2]⟩
  · cases hr : (rowsM ns cs lv [(b : Int)] s).getD b [] with
    | nil => rfl
    | cons i l =>
      have hi : i ∈ (rowsM ns cs lv [(b : Int)] s).getD b [] := by rw [hr]; exact List.mem_cons_self ..
      have := (r1 (b, i) ((hmem b i).1 hi).1).2
      simp only at this
      omega
theorem MOk.none (h : MOk ns cs lv [] s) : sumL (mkT ns cs lv [] s).out = 0 ∧ (mkT ns cs lv [] s).del = [] := by
  constructor
  · rw [mkT_out]
    unfold sumL rowsM
    rw [List.map_map]
    have : ∀ u ∈ List.range ns.length, (List.length ∘ makeOut ns cs lv [] s) u = 0 := fun u hu => by
      show (makeOut ns cs lv [] s u).length = 0
      cases hr : makeOut ns cs lv [] s u with
      | nil => rfl
      | cons i l =>
        have hi : i ∈ makeOut ns cs lv [] s u := by rw [hr]; exact List.mem_cons_self ..
        rw [h.mem] at hi
        obtain ⟨m, hm, _⟩ := hi
        cases hm
    rw [List.map_congr_left this]
    generalize List.range ns.length = l
    induction l with
    | nil => rfl
    | cons a l ih => rw [List.map_cons, List.sum_cons, ih]
  · show delM [] = []
    unfold delM; simp
end
end Go.Proofs.YtljojgpjgjfddaaGreat
