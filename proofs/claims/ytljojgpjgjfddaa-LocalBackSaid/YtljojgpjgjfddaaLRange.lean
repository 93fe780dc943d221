/- The contracts of slices.Sort at ints and of the law's channels. -/
import Derived.Test.YtljojgpjgjfddaaLClone
import Derived.Maps.RangeWalk
namespace Go.Proofs.Ytljojgpjgjfddaa
open Go.RowKit Go.Maps Go.Sort Go.Shelf
set_option linter.unusedVariables false

def SortPost (base : Nat) (v : Value) (l : List Int) (w : World) (e : Ending) (w' : World) : Prop :=
  e = .returned (.tuple #[]) ∧ w'.ownsRow base 3 1 v l.length ((l.mergeSort leI).flatMap cI) ∧ w.grownBy w' v.ownBlock
theorem sortI_any (base : Nat) (v : Value) (l : List Int) (w : World) (hl : l.length ≤ 1000000) (h : w.ownsRow base 3 1 v l.length (l.flatMap cI)) :
    Calls Try.prog 36 #[v] w (SortPost base v l w) := by
  rcases h.2 with ⟨hv, hz⟩ | ⟨g, cap, cur, hv, hbase, hgb, r1, r2, r3, r4⟩
  · have hll : l = [] := List.eq_nil_of_length_eq_zero hz
    subst hll
    subst hv
    refine (AnyM.slices_Sort_int_none Try.sortA none 0 w).mono ?_
    rintro e w' ⟨rfl, rfl⟩
    exact ⟨rfl, by simpa using h, only_refl _ _⟩
  · subst hv
    have r4' : cur.toList.take l.length = l.map encZ := by rw [cI_map] at r4; simpa using r4
    have hH : Holds encZ w g 0 l.toArray := holds_of_block_i hgb r4'
    have hgl : g < w.heap.size := (Array.getElem?_eq_some_iff.1 hgb).1
    refine (AnyM.slices_Sort_int Try.sortA g 0 cap l w hH hgl (by omega)).mono ?_
    rintro e w' ⟨rfl, nn, os, rfl⟩
    refine ⟨rfl, ?_, grownBy_sorted_i _⟩
    rw [cI_map]
    exact ownsRow_sorted_i (by rw [List.length_mergeSort]) hbase hgb r1 r2 r3

theorem own_mono {w : World} {base base' : Nat} {e : TypeId} {size : Nat} {v : Value} {n : Nat} {xs : List Value} (h : w.ownsRow base e size v n xs) (hb : base' ≤ base) : w.ownsRow base' e size v n xs := by
  refine ⟨h.1, ?_⟩
  rcases h.2 with h | ⟨g, cap, cur, h1, h2, h3⟩
  · exact .inl h
  · exact .inr ⟨g, cap, cur, h1, by omega, h3⟩
end Go.Proofs.Ytljojgpjgjfddaa
