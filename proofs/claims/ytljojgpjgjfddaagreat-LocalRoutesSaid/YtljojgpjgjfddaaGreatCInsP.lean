/- What the reference's Insert computes, and why a list built by it is the sorted set. No program in sight. -/
import Derived.Test.YtljojgpjgjfddaaGreatCUnion
namespace Go.Proofs.YtljojgpjgjfddaaGreat
open Go.RowKit Go.Maps Go.Sort Go.Shelf
set_option linter.unusedVariables false

def lessD (a b : Dp) : Bool := if a.1 ≠ b.1 then decide (a.1 < b.1) else if a.2.1 ≠ b.2.1 then decide (a.2.1 < b.2.1) else decide (a.2.2 < b.2.2)
theorem lessD_iff (a b : Dp) : lessD a b = true ↔ lexD a b := by
  unfold lessD lexD
  split
  · rw [decide_eq_true_iff]; omega
  · split
    · rw [decide_eq_true_iff]; omega
    · rw [decide_eq_true_iff]; omega
/-- The place of d: how many elements at the front come before it. -/
def insN : List Dp → Dp → Nat
  | [], _ => 0
  | x :: l, d => if lessD x d then insN l d + 1 else 0
def insL (l : List Dp) (d : Dp) : List Dp := if l[insN l d]? = some d then l else l.take (insN l d) ++ d :: l.drop (insN l d)
theorem insN_le (l : List Dp) (d : Dp) : insN l d ≤ l.length := by
  induction l with
  | nil => exact Nat.le_refl _
  | cons x l ih => unfold insN; split <;> simp <;> omega
theorem insN_lt {l : List Dp} {d : Dp} {i : Nat} (h : i < insN l d) : lessD (l.getD i d0) d = true := by
  induction l generalizing i with
  | nil => simp [insN] at h
  | cons x l ih =>
    unfold insN at h
    split at h
    · rename_i hx
      cases i with
      | zero => exact hx
      | succ i => exact ih (by omega)
    · omega
theorem insN_stop {l : List Dp} {d : Dp} (h : insN l d < l.length) : lessD (l.getD (insN l d) d0) d = false := by
  induction l with
  | nil => simp at h
  | cons x l ih =>
    unfold insN at h ⊢
    by_cases hx : lessD x d = true
    · rw [if_pos hx] at h ⊢; exact ih (by simpa using h)
    · rw [if_neg hx]; simpa using hx
theorem insN_eq {l : List Dp} {d : Dp} {k : Nat} (h1 : ∀ i, i < k → lessD (l.getD i d0) d = true) (hk : k ≤ l.length) (h2 : k < l.length → lessD (l.getD k d0) d = false) : insN l d = k := by
  have a := insN_le l d
  rcases Nat.lt_trichotomy (insN l d) k with h | h | h
  · have := insN_stop (l := l) (d := d) (by omega)
    rw [h1 _ h] at this; cases this
  · exact h
  · have := insN_lt h
    rw [h2 (by omega)] at this; cases this
theorem insL_len (l : List Dp) (d : Dp) : (insL l d).length ≤ l.length + 1 := by
  unfold insL; split
  · omega
  · simp; omega
/-- Strictly ascending. -/
def Asc (l : List Dp) : Prop := l.Pairwise lexD
theorem lexD_trans {a b c : Dp} (h1 : lexD a b) (h2 : lexD b c) : lexD a c := by unfold lexD at *; omega
theorem insL_asc {l : List Dp} (h : Asc l) (d : Dp) : Asc (insL l d) ∧ ∀ x, x ∈ insL l d ↔ x ∈ l ∨ x = d := by
  unfold insL
  split
  · rename_i hs
    have hm : d ∈ l := by obtain ⟨hlt, he⟩ := List.getElem?_eq_some_iff.1 hs; rw [← he]; exact List.getElem_mem hlt
    exact ⟨h, fun x => ⟨.inl, fun hx => hx.elim id (fun e => e ▸ hm)⟩⟩
  · rename_i hs
    have hle := insN_le l d
    have h0 : (l.take (insN l d) ++ l.drop (insN l d)).Pairwise lexD := by rw [List.take_append_drop]; exact h
    obtain ⟨p1, p2, p3⟩ := List.pairwise_append.1 h0
    have hf : ∀ x ∈ l.take (insN l d), lexD x d := by
      intro x hx
      obtain ⟨i, hi, rfl⟩ := List.mem_iff_getElem.1 hx
      rw [List.length_take] at hi
      have := insN_lt (l := l) (d := d) (i := i) (by omega)
      rw [lessD_iff] at this
      rw [List.getElem_take]
      have e : l.getD i d0 = l[i] := by simp [List.getD, show i < l.length by omega]
      rw [← e]; exact this
    have hb : ∀ x ∈ l.drop (insN l d), lexD d x := by
      rcases Nat.lt_or_ge (insN l d) l.length with hlt | hge
      · have hst := insN_stop hlt
        have e : l.getD (insN l d) d0 = l[insN l d] := by simp [List.getD, hlt]
        rw [e] at hst
        have hne : l[insN l d] ≠ d := fun e2 => hs (by rw [List.getElem?_eq_getElem hlt, e2])
        have hd : lexD d l[insN l d] := by
          have h3 : ¬ lexD l[insN l d] d := by rw [← lessD_iff, hst]; simp
          have h4 : ∀ x : Dp, ¬ lexD x d → x ≠ d → lexD d x := by
            intro x hx hxe
            unfold lexD at *
            rcases Classical.em (x.1 = d.1) with e1 | e1
            · rcases Classical.em (x.2.1 = d.2.1) with e2 | e2
              · rcases Classical.em (x.2.2 = d.2.2) with e3 | e3
                · exact absurd (Prod.ext e1 (Prod.ext e2 e3)) hxe
                · omega
              · omega
            · omega
          exact h4 _ h3 hne
        intro x hx
        rw [List.drop_eq_getElem_cons hlt] at hx p2
        rcases List.mem_cons.1 hx with rfl | hx
        · exact hd
        · exact lexD_trans hd ((List.pairwise_cons.1 p2).1 x hx)
      · rw [List.drop_eq_nil_of_le hge]; intro x hx; cases hx
    refine ⟨?_, fun x => ?_⟩
    · unfold Asc
      rw [List.pairwise_append]
      refine ⟨p1, List.pairwise_cons.2 ⟨hb, p2⟩, fun a ha b hb' => ?_⟩
      rcases List.mem_cons.1 hb' with rfl | hb'
      · exact hf a ha
      · exact p3 a ha b hb'
    · rw [List.mem_append, List.mem_cons]
      constructor
      · rintro (h1 | rfl | h1)
        · exact .inl (List.mem_of_mem_take h1)
        · exact .inr rfl
        · exact .inl (List.mem_of_mem_drop h1)
      · rintro (h1 | rfl)
        · rw [← List.take_append_drop (insN l d) l, List.mem_append] at h1
          rcases h1 with h1 | h1
          · exact .inl h1
          · exact .inr (.inr h1)
        · exact .inr (.inl rfl)
theorem insAll_asc (ds L : List Dp) (h : Asc L) : Asc (ds.foldl insL L) ∧ ∀ x, x ∈ ds.foldl insL L ↔ x ∈ L ∨ x ∈ ds := by
  induction ds generalizing L with
  | nil => exact ⟨h, fun x => by simp⟩
  | cons d ds ih =>
    obtain ⟨h1, h2⟩ := insL_asc h d
    obtain ⟨h3, h4⟩ := ih (insL L d) h1
    refine ⟨h3, fun x => ?_⟩
    show x ∈ ds.foldl insL (insL L d) ↔ _
    rw [h4, h2, List.mem_cons, or_assoc]
theorem asc_ext {a b : List Dp} (ha : Asc a) (hb : Asc b) (h : ∀ x, x ∈ a ↔ x ∈ b) : a = b := by
  induction a generalizing b with
  | nil =>
    cases b with
    | nil => rfl
    | cons y b => exact absurd ((h y).2 (List.mem_cons_self ..)) (by simp)
  | cons x a ih =>
    cases b with
    | nil => exact absurd ((h x).1 (List.mem_cons_self ..)) (by simp)
    | cons y b =>
      obtain ⟨a1, a2⟩ := List.pairwise_cons.1 ha
      obtain ⟨b1, b2⟩ := List.pairwise_cons.1 hb
      have irr : ∀ z : Dp, ¬ lexD z z := fun z => by unfold lexD; omega
      have hxy : x = y := by
        rcases List.mem_cons.1 ((h x).1 (List.mem_cons_self ..)) with e | hx
        · exact e
        · rcases List.mem_cons.1 ((h y).2 (List.mem_cons_self ..)) with e | hy
          · exact e.symm
          · exact absurd (lexD_trans (b1 x hx) (a1 y hy)) (irr y)
      subst hxy
      congr 1
      refine ih a2 b2 fun z => ⟨fun hz => ?_, fun hz => ?_⟩
      · rcases List.mem_cons.1 ((h z).1 (List.mem_cons_of_mem _ hz)) with e | h1
        · subst e; exact absurd (a1 z hz) (irr z)
        · exact h1
      · rcases List.mem_cons.1 ((h z).2 (List.mem_cons_of_mem _ hz)) with e | h1
        · subst e; exact absurd (b1 z hz) (irr z)
        · exact h1
theorem sortD_asc (l : List Dp) (h : l.Nodup) : Asc (sortD l) := by
  have h1 : (sortD l).Pairwise fun x y => (!(ltOf cmp3) y x) = true := by
    unfold sortD
    refine List.pairwise_mergeSort ?_ ?_ l
    · intro a b c h1 h2
      simp only [Bool.not_eq_true'] at h1 h2 ⊢
      exact swoD.ntrans _ _ _ h2 h1
    · intro a b
      have : ltOf cmp3 b a = false ∨ ltOf cmp3 a b = false := by
        rw [ltD_not, ltD_not]; unfold lexD; omega
      rcases this with h | h <;> simp [h]
  have h2 : (sortD l).Nodup := (sortD_perm l).nodup_iff.2 h
  refine (h1.and h2).imp ?_
  intro a b hab
  have h3 : ¬ lexD b a := by rw [← ltD_not]; simpa using hab.1
  have h4 : a ≠ b := hab.2
  apply Classical.byContradiction
  intro h5
  apply h4
  exact totD a b ((ltD_not _ _).2 h5) ((ltD_not _ _).2 h3)
/-- The sorted set of a list is what the reference inserts. -/
theorem ins_sorted (ds : List Dp) : ds.foldl insL [] = sortD (setOfD ds) := by
  obtain ⟨h1, h2⟩ := insAll_asc ds [] List.Pairwise.nil
  refine asc_ext h1 (sortD_asc _ (setOfD_nodup ds)) fun x => ?_
  rw [h2, (sortD_perm _).mem_iff, mem_setOfD]; simp
theorem sorted_congr {a b : List Dp} (h : ∀ x, x ∈ a ↔ x ∈ b) : sortD (setOfD a) = sortD (setOfD b) := by
  refine asc_ext (sortD_asc _ (setOfD_nodup _)) (sortD_asc _ (setOfD_nodup _)) fun x => ?_
  rw [(sortD_perm _).mem_iff, (sortD_perm _).mem_iff, mem_setOfD, mem_setOfD, h]
theorem mem_unionD {a b : List Dp} {x : Dp} : x ∈ unionD a b ↔ x ∈ a ∨ x ∈ b := by unfold unionD; rw [(sortD_perm _).mem_iff, mem_setOfD, List.mem_append]
theorem union_comm (a b : List Dp) : unionD a b = unionD b a := sorted_congr fun x => by simp [or_comm]
theorem union_again (a b : List Dp) : unionD (unionD a b) a = unionD a b := sorted_congr fun x => by
  rw [List.mem_append, mem_unionD, List.mem_append]
  constructor
  · rintro ((h | h) | h)
    · exact .inl h
    · exact .inr h
    · exact .inl h
  · rintro (h | h)
    · exact .inl (.inl h)
    · exact .inl (.inr h)
theorem union_ref (a b : List Dp) : b.foldl insL (a.foldl insL []) = unionD a b := by rw [← List.foldl_append, ins_sorted]; rfl
end Go.Proofs.YtljojgpjgjfddaaGreat
