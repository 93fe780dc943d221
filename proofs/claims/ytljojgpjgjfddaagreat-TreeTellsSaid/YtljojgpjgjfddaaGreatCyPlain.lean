/- The search of a cycle in plain Lean: what it finds is a cycle; if it finds none, there is an order of the nodes. No program in sight. -/
import Derived.Test.YtljojgpjgjfddaaGreatIMap
namespace Go.Proofs.YtljojgpjgjfddaaGreat
set_option linter.unusedVariables false

abbrev VR := Bool × Ens × List Int × List Int
def stE (E : Ens) (c : Int) : Int := (lookE E c).getD 0
theorem stE_put (E : Ens) (x v y : Int) : stE (putE E x v) y = if y = x then v else stE E y := by
  unfold stE; rw [lookE_put]; split <;> rfl
def visL (f : Ens → List Int → Int → VR) : List Int → Ens → List Int → VR
  | [], E, p => (false, E, p, [])
  | x :: xs, E, p => if (f E p x).1 = true then f E p x else visL f xs (f E p x).2.1 (f E p x).2.2.1
def vis (nx : Int → List Int) : Nat → Ens → List Int → Int → VR
  | 0, E, p, c => (false, E, p, [])
  | k + 1, E, p, c =>
    if stE E c = 1 then (true, E, p, p.drop (p.idxOf c))
    else if stE E c = 2 then (false, E, p, [])
    else if (visL (vis nx k) (nx c) (putE E c 1) (p ++ [c])).1 = true then visL (vis nx k) (nx c) (putE E c 1) (p ++ [c])
    else (false, putE (visL (vis nx k) (nx c) (putE E c 1) (p ++ [c])).2.1 c 2, (visL (vis nx k) (nx c) (putE E c 1) (p ++ [c])).2.2.1.dropLast, [])

/-- A cycle: different nodes, each leading to the next one, the last to the first. -/
def IsCyc (nx : Int → List Int) (l : List Int) : Prop := l ≠ [] ∧ l.Nodup ∧ ∀ i, i < l.length → l.getD ((i + 1) % l.length) 0 ∈ nx (l.getD i 0)
def unv (U : List Int) (E : Ens) : Nat := U.countP fun x => stE E x == 0

theorem countP_lt {α : Type} {p q : α → Bool} {l : List α} (h : ∀ x ∈ l, q x = true → p x = true) {c : α} (hc : c ∈ l) (h1 : p c = true) (h2 : q c = false) : l.countP q + 1 ≤ l.countP p := by
  induction l with
  | nil => cases hc
  | cons x r ih =>
    rw [List.countP_cons, List.countP_cons]
    have hr : r.countP q ≤ r.countP p := List.countP_mono_left fun y hy => h y (by simp [hy])
    rcases List.mem_cons.1 hc with rfl | hc
    · rw [h1, h2]; simp; omega
    · have := ih (fun y hy => h y (by simp [hy])) hc
      by_cases hq : q x = true
      · rw [hq, h x (by simp) hq]; simp; omega
      · simp [hq]; split <;> omega
theorem unv_mono {U : List Int} {E E' : Ens} (h : ∀ x, stE E x ≠ 0 → stE E' x ≠ 0) : unv U E' ≤ unv U E :=
  List.countP_mono_left fun x _ hx => by
    simp only [beq_iff_eq] at hx ⊢
    exact Classical.byContradiction fun hn => h x hn hx
theorem unv_put {U : List Int} {E : Ens} {c : Int} (hc : c ∈ U) (h : stE E c = 0) {v : Int} (hv : v ≠ 0) : unv U (putE E c v) + 1 ≤ unv U E :=
  countP_lt (fun x _ hx => by
    simp only [beq_iff_eq, stE_put] at hx ⊢
    split at hx
    · exact absurd hx hv
    · exact hx) hc (by simpa using h) (by simp [stE_put, hv])

structure DInv (nx : Int → List Int) (E : Ens) (p : List Int) : Prop where
  open_ : ∀ c, stE E c = 1 ↔ c ∈ p
  nodup : p.Nodup
  chain : ∀ i, i + 1 < p.length → p.getD (i + 1) 0 ∈ nx (p.getD i 0)
  vals : ∀ c, stE E c = 0 ∨ stE E c = 1 ∨ stE E c = 2
  closed : ∃ (rank : Int → Nat) (n : Nat), ∀ c, stE E c = 2 → rank c < n ∧ ∀ x ∈ nx c, stE E x = 2 ∧ rank x < rank c
def Link (nx : Int → List Int) (p : List Int) (c : Int) : Prop := p = [] ∨ c ∈ nx (p.getD (p.length - 1) 0)
/-- What a visit does. -/
structure VSpec (nx : Int → List Int) (E : Ens) (p : List Int) (xs : List Int) (r : VR) : Prop where
  yes : r.1 = true → IsCyc nx r.2.2.2
  inv : r.1 = false → DInv nx r.2.1 p
  path : r.1 = false → r.2.2.1 = p
  done : r.1 = false → ∀ x ∈ xs, stE r.2.1 x = 2
  mono2 : r.1 = false → ∀ x, stE E x = 2 → stE r.2.1 x = 2
  mono0 : r.1 = false → ∀ x, stE E x ≠ 0 → stE r.2.1 x ≠ 0

theorem visL_spec {nx : Int → List Int} {U : List Int} {k : Nat} {f : Ens → List Int → Int → VR}
    (H : ∀ E p c, c ∈ U → unv U E ≤ k → DInv nx E p → Link nx p c → VSpec nx E p [c] (f E p c)) :
    ∀ (xs : List Int) (E : Ens) (p : List Int), (∀ x ∈ xs, x ∈ U) → unv U E ≤ k → DInv nx E p → (∀ x ∈ xs, Link nx p x) → VSpec nx E p xs (visL f xs E p)
  | [], E, p, _, _, hI, _ => ⟨fun h => (by cases h), fun _ => hI, fun _ => rfl, fun _ => by simp, fun _ x h => h, fun _ x h => h⟩
  | x :: xs, E, p, hU, hk, hI, hL => by
    have h1 := H E p x (hU x (by simp)) hk hI (hL x (by simp))
    unfold visL
    by_cases hb : (f E p x).1 = true
    · rw [if_pos hb]
      have hn : ∀ {q : Prop}, (f E p x).1 = false → q := fun h => by rw [hb] at h; cases h
      exact ⟨h1.yes, fun h => hn h, fun h => hn h, fun h => hn h, fun h => hn h, fun h => hn h⟩
    · rw [if_neg hb]
      have hb' : (f E p x).1 = false := by simpa using hb
      rw [h1.path hb']
      have hk' : unv U (f E p x).2.1 ≤ k := Nat.le_trans (unv_mono (h1.mono0 hb')) hk
      have h2 := visL_spec H xs (f E p x).2.1 p (fun y hy => hU y (by simp [hy])) hk' (h1.inv hb') (fun y hy => hL y (by simp [hy]))
      refine ⟨h2.yes, h2.inv, h2.path, fun h y hy => ?_, fun h y hy => h2.mono2 h y (h1.mono2 hb' y hy), fun h y hy => h2.mono0 h y (h1.mono0 hb' y hy)⟩
      rcases List.mem_cons.1 hy with rfl | hy
      · exact h2.mono2 h _ (h1.done hb' _ (by simp))
      · exact h2.done h y hy

theorem cyc_of_path {nx : Int → List Int} {p : List Int} {c : Int} (hn : p.Nodup) (hch : ∀ i, i + 1 < p.length → p.getD (i + 1) 0 ∈ nx (p.getD i 0)) (hc : c ∈ p) (hl : c ∈ nx (p.getD (p.length - 1) 0)) : IsCyc nx (p.drop (p.idxOf c)) := by
  have hi : p.idxOf c < p.length := List.idxOf_lt_length_iff.2 hc
  have hlen : (p.drop (p.idxOf c)).length = p.length - p.idxOf c := by simp
  have hg : ∀ j, (p.drop (p.idxOf c)).getD j 0 = p.getD (p.idxOf c + j) 0 := fun j => by simp [List.getD, List.getElem?_drop]
  refine ⟨?_, hn.sublist (List.drop_sublist _ _), fun i hi' => ?_⟩
  · intro e
    rw [e] at hlen
    simp at hlen; omega
  · rw [hlen] at hi' ⊢
    rw [hg, hg]
    by_cases e : i + 1 < p.length - p.idxOf c
    · rw [Nat.mod_eq_of_lt e]
      exact hch (p.idxOf c + i) (by omega)
    · have e2 : i + 1 = p.length - p.idxOf c := by omega
      rw [e2, Nat.mod_self, Nat.add_zero, show p.idxOf c + i = p.length - 1 by omega]
      have : p.getD (p.idxOf c) 0 = c := by simp [List.getD, hi]
      rw [this]; exact hl

theorem vis_spec {nx : Int → List Int} {U : List Int} (hU : ∀ c ∈ U, ∀ x ∈ nx c, x ∈ U) :
    ∀ (k : Nat) (E : Ens) (p : List Int) (c : Int), c ∈ U → unv U E ≤ k → DInv nx E p → Link nx p c → VSpec nx E p [c] (vis nx (k + 1) E p c) := by
  intro k
  induction k with
  | zero =>
    intro E p c hc hk hI hL
    unfold vis
    by_cases h1 : stE E c = 1
    · rw [if_pos h1]
      refine ⟨fun _ => ?_, fun h => (by cases h), fun h => (by cases h), fun h => (by cases h), fun h => (by cases h), fun h => (by cases h)⟩
      have hcp := (hI.open_ c).1 h1
      rcases hL with rfl | hL
      · cases hcp
      · exact cyc_of_path hI.nodup hI.chain hcp hL
    · rw [if_neg h1]
      by_cases h2 : stE E c = 2
      · rw [if_pos h2]
        exact ⟨fun h => (by cases h), fun _ => hI, fun _ => rfl, fun _ x hx => by simp at hx; rw [hx]; exact h2, fun _ x h => h, fun _ x h => h⟩
      · exfalso
        have h0 : stE E c = 0 := by rcases hI.vals c with h | h | h; exact h; exact absurd h h1; exact absurd h h2
        have := unv_put hc h0 (v := 1) (by decide)
        omega
  | succ k ih =>
    intro E p c hc hk hI hL
    rw [vis]
    by_cases h1 : stE E c = 1
    · rw [if_pos h1]
      refine ⟨fun _ => ?_, fun h => (by cases h), fun h => (by cases h), fun h => (by cases h), fun h => (by cases h), fun h => (by cases h)⟩
      have hcp := (hI.open_ c).1 h1
      rcases hL with rfl | hL
      · cases hcp
      · exact cyc_of_path hI.nodup hI.chain hcp hL
    · rw [if_neg h1]
      by_cases h2 : stE E c = 2
      · rw [if_pos h2]
        exact ⟨fun h => (by cases h), fun _ => hI, fun _ => rfl, fun _ x hx => by simp at hx; rw [hx]; exact h2, fun _ x h => h, fun _ x h => h⟩
      · rw [if_neg h2]
        have h0 : stE E c = 0 := by rcases hI.vals c with h | h | h; exact h; exact absurd h h1; exact absurd h h2
        have hcp : c ∉ p := fun h => h1 ((hI.open_ c).2 h)
        have hu := unv_put hc h0 (v := 1) (by decide)
        have st1 : ∀ y, stE (putE E c 1) y = if y = c then 1 else stE E y := fun y => stE_put E c 1 y
        have lastc : (p ++ [c]).getD ((p ++ [c]).length - 1) 0 = c := by simp [List.getD]
        have hI1 : DInv nx (putE E c 1) (p ++ [c]) := by
          refine ⟨fun y => ?_, ?_, fun i hi => ?_, fun y => ?_, ?_⟩
          · rw [st1, List.mem_append, List.mem_singleton]
            by_cases e : y = c
            · simp [e]
            · rw [if_neg e, hI.open_ y]; simp [e]
          · rw [List.nodup_append]
            exact ⟨hI.nodup, by simp, fun a ha b hb => by simp at hb; subst hb; exact fun e => hcp (e ▸ ha)⟩
          · rw [List.length_append, List.length_singleton] at hi
            by_cases e : i + 1 < p.length
            · have e1 : (p ++ [c]).getD (i + 1) 0 = p.getD (i + 1) 0 := by simp [List.getD, List.getElem?_append, e]
              have e2 : (p ++ [c]).getD i 0 = p.getD i 0 := by simp [List.getD, List.getElem?_append, show i < p.length by omega]
              rw [e1, e2]; exact hI.chain i e
            · have e3 : i + 1 = p.length := by omega
              have e1 : (p ++ [c]).getD (i + 1) 0 = c := by rw [e3]; simp [List.getD]
              have e2 : (p ++ [c]).getD i 0 = p.getD (p.length - 1) 0 := by
                rw [show p.length - 1 = i by omega]; simp [List.getD, List.getElem?_append, show i < p.length by omega]
              rw [e1, e2]
              rcases hL with rfl | hL
              · simp at e3
              · exact hL
          · rw [st1]
            by_cases e : y = c
            · simp [e]
            · rw [if_neg e]; exact hI.vals y
          · obtain ⟨rank, n, hr⟩ := hI.closed
            refine ⟨rank, n, fun y hy => ?_⟩
            rw [st1] at hy
            by_cases e : y = c
            · rw [if_pos e] at hy; cases hy
            · rw [if_neg e] at hy
              obtain ⟨a1, a2⟩ := hr y hy
              refine ⟨a1, fun x hx => ⟨?_, (a2 x hx).2⟩⟩
              have hx2 := (a2 x hx).1
              rw [st1, if_neg]
              · exact hx2
              · intro e2; subst e2; rw [h0] at hx2; cases hx2
        have hs := visL_spec (U := U) (k := k) (f := vis nx (k + 1)) ih (nx c) (putE E c 1) (p ++ [c]) (hU c hc) (by omega) hI1 (fun x hx => .inr (by rw [lastc]; exact hx))
        generalize visL (vis nx (k + 1)) (nx c) (putE E c 1) (p ++ [c]) = r at hs ⊢
        by_cases hb : r.1 = true
        · rw [if_pos hb]
          have hn : ∀ {q : Prop}, r.1 = false → q := fun h => by rw [hb] at h; cases h
          exact ⟨hs.yes, fun h => hn h, fun h => hn h, fun h => hn h, fun h => hn h, fun h => hn h⟩
        · rw [if_neg hb]
          have hb' : r.1 = false := by simpa using hb
          have hI2 := hs.inv hb'
          have st2 : ∀ y, stE (putE r.2.1 c 2) y = if y = c then 2 else stE r.2.1 y := fun y => stE_put _ c 2 y
          have hcr : stE r.2.1 c = 1 := (hI2.open_ c).2 (by simp)
          refine ⟨fun h => (by cases h), fun _ => ?_, fun _ => ?_, fun _ x hx => ?_, fun _ x hx => ?_, fun _ x hx => ?_⟩
          · refine ⟨fun y => ?_, hI.nodup, hI.chain, fun y => ?_, ?_⟩
            · show stE (putE r.2.1 c 2) y = 1 ↔ _
              rw [st2]
              by_cases e : y = c
              · rw [if_pos e, e]; constructor
                · intro h; cases h
                · intro h; exact absurd h hcp
              · rw [if_neg e, hI2.open_ y, List.mem_append, List.mem_singleton]; simp [e]
            · show stE (putE r.2.1 c 2) y = 0 ∨ stE (putE r.2.1 c 2) y = 1 ∨ stE (putE r.2.1 c 2) y = 2
              rw [st2]
              by_cases e : y = c
              · simp [e]
              · rw [if_neg e]; exact hI2.vals y
            · obtain ⟨rank, n, hr⟩ := hI2.closed
              refine ⟨fun y => if y = c then n else rank y, n + 1, fun y hy => ?_⟩
              change stE (putE r.2.1 c 2) y = 2 at hy
              show _ ∧ ∀ x ∈ nx y, stE (putE r.2.1 c 2) x = 2 ∧ _
              rw [st2] at hy
              have nc : ∀ x, stE r.2.1 x = 2 → x ≠ c := fun x hx e => by rw [e, hcr] at hx; cases hx
              by_cases e : y = c
              · subst e
                refine ⟨by simp, fun x hx => ?_⟩
                have hx2 := hs.done hb' x hx
                rw [st2]
                simp only [if_neg (nc x hx2), if_true]
                exact ⟨hx2, (hr x hx2).1⟩
              · rw [if_neg e] at hy
                obtain ⟨a1, a2⟩ := hr y hy
                simp only [if_neg e]
                refine ⟨by omega, fun x hx => ?_⟩
                rw [st2]
                simp only [if_neg (nc x (a2 x hx).1)]
                exact a2 x hx
          · show r.2.2.1.dropLast = p
            rw [hs.path hb']; simp
          · simp only [List.mem_singleton] at hx
            rw [hx]
            show stE (putE r.2.1 c 2) c = 2
            rw [st2, if_pos rfl]
          · show stE (putE r.2.1 c 2) x = 2
            rw [st2]
            split
            · rfl
            · rename_i e
              refine hs.mono2 hb' x ?_
              rw [st1, if_neg e]; exact hx
          · show stE (putE r.2.1 c 2) x ≠ 0
            rw [st2]
            split
            · decide
            · rename_i e
              refine hs.mono0 hb' x ?_
              rw [st1, if_neg e]; exact hx

theorem DInv.nil (nx : Int → List Int) : DInv nx [] [] :=
  ⟨fun c => by simp [stE, lookE_nil], List.nodup_nil, fun i hi => by simp at hi, fun c => .inl rfl, fun _ => 0, 0, fun c h => by simp [stE, lookE_nil] at h⟩
/-- The search from all keys: a cycle, or an order. -/
def cycOf (nx : Int → List Int) (fuel : Nat) (keys : List Int) : List Int := if (visL (vis nx fuel) keys [] []).1 = true then (visL (vis nx fuel) keys [] []).2.2.2 else []
theorem unv_le (U : List Int) (E : Ens) : unv U E ≤ U.length := List.countP_le_length
theorem cycOf_spec {nx : Int → List Int} {U keys : List Int} (hU : ∀ c ∈ U, ∀ x ∈ nx c, x ∈ U) (hk : ∀ c ∈ keys, c ∈ U) {k : Nat} (hl : U.length ≤ k) :
    (cycOf nx (k + 1) keys ≠ [] ∧ IsCyc nx (cycOf nx (k + 1) keys)) ∨ (cycOf nx (k + 1) keys = [] ∧ ∃ rank : Int → Nat, ∀ c ∈ keys, ∀ x ∈ nx c, rank x < rank c) := by
  have hs := visL_spec (U := U) (k := k) (f := vis nx (k + 1)) (vis_spec hU k) keys [] [] hk (Nat.le_trans (unv_le U []) hl) (DInv.nil nx) (fun x _ => .inl rfl)
  unfold cycOf
  cases hb : (visL (vis nx (k + 1)) keys [] []).1 with
  | true => simp only [if_true]; exact .inl ⟨(hs.yes hb).1, hs.yes hb⟩
  | false =>
    refine .inr ⟨by simp, ?_⟩
    obtain ⟨rank, n, hr⟩ := (hs.inv hb).closed
    exact ⟨rank, fun c hc x hx => ((hr c (hs.done hb c hc)).2 x hx).2⟩
end Go.Proofs.YtljojgpjgjfddaaGreat
