/- slices.SortFunc at dependencies with channel.compare, by the kit's contract; slices.SortedFunc(maps.Keys(m), compare). -/
import Derived.Test.YtljojgpjgjfddaaGreatCKeys
import Derived.Test.YtljojgpjgjfddaaGreatCCmp
import Derived.Test.YtljojgpjgjfddaaGreatLaid
import Derived.Test.YtljojgpjgjfddaaGreatLaidD
import Derived.Shelf.SlSortCmp.NoneTotal
namespace Go.Proofs.YtljojgpjgjfddaaGreat
open Go.RowKit Go.Maps Go.Sort Go.Shelf
set_option linter.unusedVariables false

def lexD (x y : Dp) : Prop := x.1 < y.1 ∨ (x.1 = y.1 ∧ (x.2.1 < y.2.1 ∨ (x.2.1 = y.2.1 ∧ x.2.2 < y.2.2)))
theorem cmp3_neg (x y : Dp) : cmp3 x y < 0 ↔ lexD x y := by
  unfold cmp3 lexD
  simp only [orL, cmpZ]
  by_cases h1 : x.1 < y.1
  · simp [h1]
  · by_cases h2 : y.1 < x.1
    · simp [h1, h2]; omega
    · have e : x.1 = y.1 := by omega
      by_cases h3 : x.2.1 < y.2.1
      · simp [e, h3]
      · by_cases h4 : y.2.1 < x.2.1
        · simp [e, h3, h4]; omega
        · have e2 : x.2.1 = y.2.1 := by omega
          by_cases h5 : x.2.2 < y.2.2
          · simp [e, e2, h5]
          · by_cases h6 : y.2.2 < x.2.2
            · simp [e, e2, h5, h6]
            · simp [e, e2, h5, h6]
theorem ltD_iff (x y : Dp) : ltOf cmp3 x y = true ↔ lexD x y := by unfold ltOf; rw [decide_eq_true_iff]; exact cmp3_neg x y
theorem ltD_not (x y : Dp) : ltOf cmp3 x y = false ↔ ¬ lexD x y := by rw [← ltD_iff]; simp
theorem swoD : SWO (ltOf cmp3) where
  irrefl x := by rw [ltD_not]; unfold lexD; omega
  trans x y z h1 h2 := by rw [ltD_iff] at *; unfold lexD at *; omega
  ntrans x y z h1 h2 := by rw [ltD_not] at *; unfold lexD at *; omega
theorem totD (x y : Dp) (h1 : ltOf cmp3 x y = false) (h2 : ltOf cmp3 y x = false) : x = y := by
  rw [ltD_not] at h1 h2
  unfold lexD at h1 h2
  exact Prod.ext (by omega) (Prod.ext (by omega) (by omega))
/-- In ascending order. -/
def sortD (l : List Dp) : List Dp := l.mergeSort fun x y => !(ltOf cmp3) y x
theorem sortD_length (l : List Dp) : (sortD l).length = l.length := by unfold sortD; rw [List.length_mergeSort]
theorem sortD_perm (l : List Dp) : (sortD l).Perm l := List.mergeSort_perm _ _
theorem cmpLaysD (blk off size : Nat) (w : World) : CmpLays Tryz.prog 42 #[] cD 3 cmp3 blk off size w := fun _ _ _ _ x y => compare_any x y _

theorem get_bang {α : Type} [Inhabited α] (l : List α) (i : Nat) (h : i < l.length) : l[i]! = l[i] := getElem!_pos l i h
theorem flatK_list (ss : List Dp) : (flatK cD 3 ss.toArray).toList = ss.flatMap cD := by
  apply List.ext_getElem?
  intro t
  by_cases ht : t < ss.length * 3
  · have hs : t < (flatK cD 3 ss.toArray).size := by simpa using ht
    have h1 := get_flatK cD 3 ss.toArray t (by simpa using ht)
    rw [getElem!_pos _ t hs] at h1
    rw [Array.getElem?_toList, Array.getElem?_eq_getElem hs, h1]
    have hq : t / 3 < ss.length := by omega
    have hr : t % 3 < 3 := by omega
    have h2 := flatG_at (m := 3) (c := cD) (d := d0) (fun _ => rfl) ss (t / 3) (t % 3) hq hr
    rw [show t / 3 * 3 + t % 3 = t by omega] at h2
    rw [h2]
    have e1 : ss.toArray[t / 3]! = ss.getD (t / 3) d0 := by rw [getElem!_pos ss.toArray (t / 3) (by simpa using hq)]; simp [List.getD, hq]
    rw [e1]
    have hl : t % 3 < (cD (ss.getD (t / 3) d0)).length := hr
    rw [getElem!_pos (cD (ss.getD (t / 3) d0)) (t % 3) hl, List.getElem?_eq_getElem hl]
  · rw [Array.getElem?_toList, Array.getElem?_eq_none (by simp; omega), List.getElem?_eq_none (by rw [flatG_length (m := 3) (fun _ => rfl)]; omega)]
theorem holdsD {w : World} {g : Nat} {cur : Array Value} {ss : List Dp} (hb : w.heap[g]? = some (.cells cur 69 (0, 0))) (ht : cur.toList.take (ss.length * 3) = ss.flatMap cD) : HoldsK cD 3 w g 0 ss.toArray := by
  intro j hj
  have hj' : j < ss.length * 3 := by simpa using hj
  refine ⟨?_, by simp [World.frozen?, hb]⟩
  have e : (flatK cD 3 ss.toArray)[j]! = (flatK cD 3 ss.toArray)[j] := getElem!_pos _ j hj
  have h1 : (cur.toList.take (ss.length * 3))[j]? = (flatK cD 3 ss.toArray).toList[j]? := by rw [ht, flatK_list]
  rw [List.getElem?_take_of_lt hj', Array.getElem?_toList, Array.getElem?_toList, Array.getElem?_eq_getElem hj] at h1
  simp only [World.cell?, hb, Nat.zero_add, Option.isSome_none, Bool.false_eq_true, if_false]
  rw [h1, e]; rfl
theorem heap_sortedD {w : World} {g n : Nat} {os : Array Obj} {cur : Array Value} (d : Array Dp) (hb : w.heap[g]? = some (.cells cur 69 (0, 0))) :
    (sortWorldK cD 3 w g 0 n d os).heap[g]? = some (.cells (putCells id 0 (flatK cD 3 d) cur) 69 (0, 0)) := by
  have hg : g < w.heap.size := (Array.getElem?_eq_some_iff.1 hb).1
  unfold sortWorldK putRowK
  rw [heap_grow_old _ _ (by simpa [putRow, mapBlock, Sort.ahead] using hg)]
  simp [putRow, mapBlock, Sort.ahead, Array.getElem?_modify, hb, onCells]
theorem grown_sortedD {w : World} {g n : Nat} {os : Array Obj} (d : Array Dp) : w.grownBy (sortWorldK cD 3 w g 0 n d os) (some g) := by
  refine ⟨rfl, rfl, rfl, by simp [sortWorldK, putRowK, putRow, mapBlock, Sort.ahead], fun k hk hne => ?_⟩
  unfold sortWorldK putRowK
  rw [heap_grow_old _ _ (by simpa [putRow, mapBlock, Sort.ahead] using hk)]
  have : g ≠ k := fun e => hne (by rw [e])
  simp [putRow, mapBlock, Sort.ahead, Array.getElem?_modify, this]
theorem take_putD (cur : Array Value) (ts : List Dp) (h : ts.length * 3 ≤ cur.size) : (putCells id 0 (flatK cD 3 ts.toArray) cur).toList.take (ts.length * 3) = ts.flatMap cD := by
  rw [← flatK_list]
  apply List.ext_getElem?
  intro j
  by_cases hj : j < ts.length * 3
  · have hs : j < (flatK cD 3 ts.toArray).size := by simpa using hj
    rw [List.getElem?_take_of_lt hj, Array.getElem?_toList, Array.getElem?_toList, Array.getElem?_eq_getElem hs]
    have e1 := getElem!_pos (flatK cD 3 ts.toArray) j hs
    have hc : j < cur.size := by omega
    simp [putCells, hj, hc]
  · rw [List.getElem?_take_eq_none (by omega), List.getElem?_eq_none (by simp; omega)]
/-- slices.SortFunc(s, compare): the same slice owns the sorted list. -/
theorem sortFD_any (base : Nat) (v : Value) (ss : List Dp) (w : World) (hl : ss.length ≤ 1000000) (h : w.ownsRow base 69 3 v ss.length (ss.flatMap cD)) :
    Calls Tryz.prog 53 #[v, .func (.func 42) #[] #[]] w fun e w' => e = .returned (.tuple #[]) ∧ w'.ownsRow base 69 3 v ss.length ((sortD ss).flatMap cD) ∧ w.grownBy w' v.ownBlock := by
  rcases h.2 with ⟨rfl, hn⟩ | ⟨g, cap, cur, rfl, hb, hg, r1, r2, r3, r4⟩
  · have hs : ss = [] := List.eq_nil_of_length_eq_zero hn
    subst hs
    refine (AnyF.slices_SortFunc_none Tryz.sortD none 0 _ w).mono ?_
    rintro e w' ⟨rfl, rfl⟩
    exact ⟨rfl, by simpa [sortD] using h, World.grownBy.refl _ _⟩
  · have hgl : g < w.heap.size := (Array.getElem?_eq_some_iff.1 hg).1
    have hcon := AnyQ.slices_SortFunc_total Tryz.sortD 3 Tryz.isAgg69 Tryz.sizeOf69 cD (fun _ => rfl) (fun x v hv => by simp [cD] at hv; rcases hv with rfl | rfl | rfl <;> rfl) cmp3 swoD 42 #[] g 0 cap ss.toArray w
      (enters_of Tryz.func42 (by kernel_rfl) rfl) (cmpLaysD g 0 _ w) (holdsD hg r4) hgl (by simp; omega) totD
    have e1 : ss.toArray.size = ss.length := by simp
    rw [e1] at hcon
    refine hcon.mono ?_
    rintro e w' ⟨rfl, n, os, rfl⟩
    refine ⟨rfl, ⟨by rw [flatG_length (m := 3) (fun _ => rfl), sortD_length], .inr ⟨g, cap, _, rfl, hb, heap_sortedD _ hg, r1, r2, by simp [putCells, r3], ?_⟩⟩, grown_sortedD _⟩
    have := take_putD cur (sortD ss) (by rw [sortD_length, r3]; omega)
    rw [sortD_length] at this
    exact this
end Go.Proofs.YtljojgpjgjfddaaGreat
