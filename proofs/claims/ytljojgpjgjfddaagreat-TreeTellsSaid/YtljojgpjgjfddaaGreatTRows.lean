/- The rows of a tree in memory while tree.Make is at work: n slices of ints that the call owns; the environment of its search. -/
import Derived.Test.YtljojgpjgjfddaaGreatTCheck
import Derived.Test.YtljojgpjgjfddaaGreatCVisit
namespace Go.Proofs.YtljojgpjgjfddaaGreat
open Go.RowKit Go.Maps
set_option linter.unusedVariables false
set_option linter.unusedSimpArgs false

def upd1 {α : Type} (V : Nat → α) (i : Nat) (x : α) : Nat → α := fun a => if a = i then x else V a
theorem upd1_same {α : Type} (V : Nat → α) (i : Nat) (x : α) : upd1 V i x i = x := by unfold upd1; rw [if_pos rfl]
theorem upd1_other {α : Type} (V : Nat → α) {i a : Nat} (x : α) (h : ¬ a = i) : upd1 V i x a = V a := by unfold upd1; rw [if_neg h]
structure RF (w : World) (bO base n : Nat) (V : Nat → Value) (O : Nat → List Int) : Prop where
  row : RBlk w bO 28 1 n (fun i => [V i])
  own : ∀ i, i < n → w.ownsRow base 3 1 (V i) (O i).length ((O i).flatMap cI)
  apart : ∀ i j, i < n → j < n → i ≠ j → ∀ g, (V i).ownBlock = some g → (V j).ownBlock ≠ some g
  lt : bO < base
section
variable {w w' : World} {bO base n : Nat} {V : Nat → Value} {O : Nat → List Int}
theorem RF.below (h : RF w bO base n V O) (hb : Below w.heap.size w w') : RF w' bO base n V O :=
  ⟨h.row.below hb h.row.lt, fun i hi => (h.own i hi).kept (only_of_below hb none) (by cases (V i).ownBlock with
    | none => exact .inl rfl
    | some q => exact .inr (by simp)), h.apart, h.lt⟩
theorem RF.drew (h : RF w bO base n V O) : RF w.drew bO base n V O := ⟨h.row.drew, h.own, h.apart, h.lt⟩
theorem RF.congr {O' : Nat → List Int} (h : RF w bO base n V O) (e : ∀ i, i < n → O i = O' i) : RF w bO base n V O' :=
  ⟨h.row, fun i hi => by rw [← e i hi]; exact h.own i hi, h.apart, h.lt⟩
theorem RF.rowlt (h : RF w bO base n V O) {i : Nat} (hi : i < n) : ∀ q, (V i).ownBlock = some q → base ≤ q := fun q e => ((h.own i hi).lt q e).1
theorem RF.cell (h : RF w bO base n V O) {i : Nat} (hi : i < n) : w.cell? ⟨bO, i, none⟩ = some (V i) := by
  have := h.row.cell (i := i) (j := 0) hi (by omega)
  simpa using this
theorem RF.push (h : RF w bO base n V O) {i : Nat} (hi : i < n) {v' : Value} {x : Int}
    (o : w'.ownsRow base 3 1 v' ((O i).length + 1) ((O i).flatMap cI ++ [.int .i64 x])) (hg : w.grownBy w' (V i).ownBlock) (hv : v'.ownBlock = (V i).ownBlock ∨ v'.ownBlock = some w.heap.size) :
    RF (w'.setCell ⟨bO, i, none⟩ v') bO base n (upd1 V i v') (upd1 O i (O i ++ [x])) := by
  have hlt := h.lt
  have keep : ∀ {v : Value} {m : Nat} {xs : List Value}, w'.ownsRow base 3 1 v m xs → (w'.setCell ⟨bO, i, none⟩ v').ownsRow base 3 1 v m xs := fun ho =>
    own_keptJ ho (only_setCell (only_refl w' (some bO)) (.inl rfl) _) (fun q e => by have := (ho.lt q e).1; omega)
  have oth : ∀ a, a < n → ¬ a = i → w'.ownsRow base 3 1 (V a) (O a).length ((O a).flatMap cI) := fun a ha hne =>
    (h.own a ha).kept hg (by
      cases hq : (V a).ownBlock with
      | none => exact .inl rfl
      | some q => exact .inr (fun e => h.apart i a hi ha (fun e2 => hne e2.symm) q e.symm hq))
  have fresh : ∀ a, a < n → ¬ a = i → ∀ g, v'.ownBlock = some g → (V a).ownBlock ≠ some g := fun a ha hne g hvg => by
    rcases hv with e | e
    · rw [e] at hvg; exact h.apart i a hi ha (fun e2 => hne e2.symm) g hvg
    · rw [e] at hvg
      injection hvg with hvg
      intro h2
      have := ((h.own a ha).lt g h2).2
      omega
  refine ⟨?_, fun a ha => ?_, fun a b ha hb hne g hg' => ?_, h.lt⟩
  · have hr := h.row.grown hg (fun e => by have := ((h.own i hi).lt bO e.symm).1; omega)
    refine (hr.set1 hi v').congr fun a ha => ?_
    unfold setR
    by_cases e : a = i
    · subst e; rw [if_pos rfl, upd1_same]; rfl
    · rw [if_neg e, upd1_other V v' e]
  · by_cases e : a = i
    · subst e
      rw [upd1_same, upd1_same, List.length_append, List.length_singleton, List.flatMap_append]
      exact keep o
    · rw [upd1_other V v' e, upd1_other O _ e]
      exact keep (oth a ha e)
  · by_cases e : a = i
    · subst e
      rw [upd1_same] at hg'
      rw [upd1_other V v' (fun e => hne e.symm)]
      exact fresh b hb (fun e => hne e.symm) g hg'
    · rw [upd1_other V v' e] at hg'
      by_cases e' : b = i
      · subst e'
        rw [upd1_same]
        exact fun h2 => fresh a ha e g h2 hg'
      · rw [upd1_other V v' e']
        exact h.apart a b ha hb hne g hg'
end
/-- What the search of tree.Make holds, but for the rows. -/
structure TVE (w0 w : World) (ns : List Nd) (cs : List Cb) (par : List Int) (W : Nat → Bool) (An Ac Ap : Option Addr) (cn cc cp bW bP bR bV bX bO base mW nW : Nat) (src : Int) (dv : Value) : Prop where
  pW : Blk w bW 127 #[.map (some mW)]
  pP : Blk w bP 25 #[.slice An ns.length cn, .slice Ac cs.length cc]
  pR : Blk w bR 28 #[.slice Ap ns.length cp]
  pV : Blk w bV 133 #[.func (.func 74) #[] #[.pointer (some ⟨bW, 0, none⟩), .pointer (some ⟨bP, 0, none⟩), .pointer (some ⟨bR, 0, none⟩), .pointer (some ⟨bV, 0, none⟩), .pointer (some ⟨bX, 0, none⟩)]]
  pX : Blk w bX 56 #[.int .i64 src, .slice (some ⟨bO, 0, none⟩) ns.length ns.length, dv]
  mp : ∃ M, OMap w Tryz.prog 3 mW nW M ∧ ∀ v : Nat, v < ns.length → (M (.int .i64 (v : Int))).getD (.bool false) = .bool (W v)
  pl : IsPlan w0 An Ac ⟨ns, cs⟩
  pr : IsRec 1 cI 0 w0 Ap ns.length par
  bel : Below w0.heap.size w0 w
  l0 : w0.heap.size ≤ bO
  lW : bW < base
  lP : bP < base
  lR : bR < base
  lV : bV < base
  lX : bX < base
  lM : mW < base
  nW_ : bW ≠ bO
  nP : bP ≠ bO
  nR : bR ≠ bO
  nV : bV ≠ bO
  nX : bX ≠ bO
  nM : mW ≠ bO
theorem TVE.kb {w0 w w' : World} {ns : List Nd} {cs : List Cb} {par : List Int} {W : Nat → Bool} {An Ac Ap : Option Addr} {cn cc cp bW bP bR bV bX bO base mW nW : Nat} {src : Int} {dv : Value} (h : TVE w0 w ns cs par W An Ac Ap cn cc cp bW bP bR bV bX bO base mW nW src dv) (hk : KB base [bO] w w') (hb0 : w0.heap.size ≤ base) :
    TVE w0 w' ns cs par W An Ac Ap cn cc cp bW bP bR bV bX bO base mW nW src dv := by
  have f : ∀ {g : Nat} {t : TypeId} {xs : Array Value}, Blk w g t xs → g < base → g ≠ bO → Blk w' g t xs := fun hb hl hne => hk.blk hb hl (by simpa using hne)
  obtain ⟨M, hM, hM2⟩ := h.mp
  exact ⟨f h.pW h.lW h.nW_, f h.pP h.lP h.nP, f h.pR h.lR h.nR, f h.pV h.lV h.nV, f h.pX h.lX h.nX, ⟨M, hk.omap hM h.lM (by simpa using h.nM), hM2⟩, h.pl, h.pr,
    h.bel.trans (hk.toBelow hb0 (by simp; exact h.l0)), h.l0, h.lW, h.lP, h.lR, h.lV, h.lX, h.lM, h.nW_, h.nP, h.nR, h.nV, h.nX, h.nM⟩
end Go.Proofs.YtljojgpjgjfddaaGreat
