/- What the reference's Make makes, in plain Lean: the tree of tree.Make. No program in sight. -/
import Derived.Test.YtljojgpjgjfddaaTOneP
import Derived.Test.YtljojgpjgjfddaaTPathP
namespace Go.Proofs.Ytljojgpjgjfddaa
open Go.RowKit Go.Maps
set_option linter.unusedVariables false
set_option linter.unusedSimpArgs false

def insL23 (l : List Int) : List Int := l.foldl insA []
theorem insL23_snoc (l : List Int) (x : Int) : insL23 (l ++ [x]) = insA (insL23 l) x := by unfold insL23; rw [List.foldl_append]; rfl
theorem mem_insL23 (l : List Int) : ∀ x, x ∈ insL23 l ↔ x ∈ l := by
  have : ∀ (l m : List Int) (x : Int), x ∈ l.foldl insA m ↔ x ∈ m ∨ x ∈ l := by
    intro l
    induction l with
    | nil => intro m x; simp
    | cons a l ih =>
      intro m x
      rw [List.foldl_cons, ih, mem_insA, List.mem_cons]
      constructor
      · rintro ((h | h) | h)
        · exact .inl h
        · exact .inr (.inl h)
        · exact .inr (.inr h)
      · rintro (h | h | h)
        · exact .inl (.inl h)
        · exact .inl (.inr h)
        · exact .inr h
  intro x
  unfold insL23
  rw [this]
  simp
theorem insL23_asc (l : List Int) : (insL23 l).Pairwise (· < ·) := by
  have : ∀ (l m : List Int), m.Pairwise (· < ·) → (l.foldl insA m).Pairwise (· < ·) := by
    intro l
    induction l with
    | nil => intro m h; exact h
    | cons a l ih => intro m h; exact ih _ (insA_asc h)
  exact this l [] List.Pairwise.nil
theorem insL23_len (l : List Int) : (insL23 l).length ≤ l.length := by
  have h1 : ∀ (l : List Int) (n : Int), (insA l n).length ≤ l.length + 1 := fun l n => by
    unfold insA
    split
    · omega
    · rw [List.length_append, List.length_cons]
      have key : ∀ m : List Int, (m.filter (fun x => decide (x < n))).length + (m.filter (fun x => decide (n < x))).length ≤ m.length := by
        intro m
        induction m with
        | nil => simp
        | cons a m ih =>
          rw [List.filter_cons, List.filter_cons]
          by_cases q : a < n
          · rw [if_pos (by simpa using q), if_neg (by simp; omega)]; simp; omega
          · rw [if_neg (by simpa using q)]
            split
            · simp; omega
            · simp; omega
      have := key l
      omega
  have h2 : ∀ (l m : List Int), (l.foldl insA m).length ≤ m.length + l.length := by
    intro l
    induction l with
    | nil => intro m; simp
    | cons a l ih => intro m; have := ih (insA m a); have := h1 m a; rw [List.foldl_cons, List.length_cons]; omega
  have := h2 l []
  unfold insL23
  simpa using this
/-- A node's row after these pairs. -/
def row23 (L : List (Nat × Int)) (u : Nat) : List Int := insL23 (outAt L u)
theorem row23_same (L : List (Nat × Int)) (u : Nat) (i : Int) : row23 (L ++ [(u, i)]) u = insA (row23 L u) i := by
  unfold row23
  have : outAt (L ++ [(u, i)]) u = outAt L u ++ [i] := by unfold outAt; rw [List.filter_append, List.map_append]; simp
  rw [this, insL23_snoc]
theorem row23_other (L : List (Nat × Int)) {u a : Nat} (i : Int) (h : ¬ a = u) : row23 (L ++ [(u, i)]) a = row23 L a := by
  unfold row23
  have : outAt (L ++ [(u, i)]) a = outAt L a := by
    unfold outAt; rw [List.filter_append]
    have : ([(u, i)] : List (Nat × Int)).filter (fun x => x.1 == a) = [] := by simp; omega
    rw [this, List.append_nil]
  rw [this]
section
variable {ns : List Nd} {cs : List Cb} {lv ms : List Int} {s : Nat}
def prs (ns : List Nd) (cs : List Cb) (lv : List Int) (s : Nat) (l : List Int) : List (Nat × Int) := l.flatMap fun m => wpairs cs lv (ns.length + ns.length + 1) s m.toNat
theorem prs_snoc (l : List Int) (m : Int) : prs ns cs lv s (l ++ [m]) = prs ns cs lv s l ++ wpairs cs lv (ns.length + ns.length + 1) s m.toNat := by unfold prs; rw [List.flatMap_append]; simp
theorem MOk.row23_eq (h : MOk ns cs lv ms s) (u : Nat) : row23 (prs ns cs lv s ms) u = makeOut ns cs lv ms s u := by
  refine asc_ext (insL23_asc _) (h.asc u) fun x => ?_
  unfold row23
  rw [mem_insL23, outAt_mem, h.mem]
  unfold prs
  rw [List.mem_flatMap]
  constructor
  · rintro ⟨m, hm, hx⟩
    have := (h.node m hm).1
    exact ⟨m.toNat, by rw [show ((m.toNat : Nat) : Int) = m by omega]; exact hm, hx⟩
  · rintro ⟨m, hm, hx⟩; exact ⟨m, hm, by simpa using hx⟩
theorem MOk.del23_eq (h : MOk ns cs lv ms s) : insL23 ms = delM ms := asc_ext (insL23_asc _) (delM_asc h.nodup) fun x => by rw [mem_insL23, mem_delM]
theorem wpairs_touch (T : TOk ns cs lv) {a b : Nat} {f : Nat} (ha : a < ns.length) (hb : b < ns.length) (a0 : 0 ≤ lv.getD a 0) (b0 : 0 ≤ lv.getD b 0) (hf : lv.getD a 0 + lv.getD b 0 < f) {p : Nat × Int} (hp : p ∈ wpairs cs lv f a b) :
    ∃ k : Nat, p.2 = k ∧ k < cs.length ∧ p.1 < ns.length ∧ touchT (cs.getD k cb0) p.1 (othN cs p.1 k) ∧ othN cs p.1 k < ns.length := by
  rcases (T.mem_wpairs f a b ha hb a0 b0 hf p.1 p.2).1 hp with ⟨h1, h2, _, _, h5⟩ | ⟨c, h1, h2, h3, h4, _⟩
  · obtain ⟨k, hk, hpk, ht, hn, _⟩ := T.up h1 h2
    have e : othN cs p.1 k = pnT cs lv p.1 := oth_of ht
    exact ⟨k, by rw [← h5, hpk], hk, h1, by rw [e]; exact ht, by rw [e]; exact hn⟩
  · obtain ⟨k, hk, hpk, ht, hn, _⟩ := T.up h1 h2
    rw [h4] at ht hn
    have e : othN cs p.1 k = c := oth_of (touchT_symm ht)
    exact ⟨k, by rw [← h3, hpk], hk, hn, by rw [e]; exact touchT_symm ht, by rw [e]; exact h1⟩
end
end Go.Proofs.Ytljojgpjgjfddaa
