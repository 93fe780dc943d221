/- Several texts in one: LExact, LVerdict. -/
import Derived.Test.YtljojgpjgjfddaaLRef

/- The contract of fairlinkref22.Exact. -/
namespace Go.Proofs.Ytljojgpjgjfddaa
open Go.RowKit Go.Maps
set_option linter.unusedVariables false

def atTo (cs : List Cb) (node : Int) (k : Nat) : List Nat := (List.range k).filter fun c => atR cs c node
def exactE (cs : List Cb) (l : List Int) (node : Int) : Int :=
  if ((atTo cs node (2 * cs.length)).all fun c => l.any fun x => x == (c : Int)) = false then 7 else if (atTo cs node (2 * cs.length)).length < l.length then 8 else 0
theorem atTo_yes {cs : List Cb} {node : Int} {k : Nat} (h : atR cs k node = true) : atTo cs node (k + 1) = atTo cs node k ++ [k] := by
  unfold atTo; rw [List.range_succ, List.filter_append, List.filter_cons, if_pos h]; rfl
theorem atTo_no {cs : List Cb} {node : Int} {k : Nat} (h : atR cs k node = false) : atTo cs node (k + 1) = atTo cs node k := by
  unfold atTo; rw [List.range_succ, List.filter_append, List.filter_cons, if_neg (by rw [h]; simp)]; simp
theorem atTo_le (cs : List Cb) (node : Int) (k : Nat) : (atTo cs node k).length ≤ k := by
  unfold atTo
  have := List.length_filter_le (fun c : Nat => atR cs c node) (List.range k)
  rw [List.length_range] at this; exact this
theorem atTo_mem {cs : List Cb} {node : Int} {k n : Nat} (h : atR cs k node = true) (hk : k < n) : k ∈ atTo cs node n := List.mem_filter.2 ⟨List.mem_range.2 hk, h⟩
def RelX1 (cs : List Cb) (l : List Int) (node : Int) (w1 : World) (m i : Value) (wr : World) : Prop :=
  ∃ k : Nat, k ≤ 2 * cs.length ∧ i = .int .i64 k ∧ m = .int .i64 ((atTo cs node k).length : Nat) ∧ ((atTo cs node k).all fun c => l.any fun x => x == (c : Int)) = true ∧ Below w1.heap.size w1 wr
def RelX2 (l : List Int) (c : Nat) (f i : Value) : Prop := ∃ j : Nat, j ≤ l.length ∧ i = .int .i64 j ∧ f = .bool ((l.take j).any fun x => x == (c : Int))

end Go.Proofs.Ytljojgpjgjfddaa

/- The contract of the law's verdict: it answers as Check does. -/
namespace Go.Proofs.Ytljojgpjgjfddaa
open Go.RowKit Go.Maps
set_option linter.unusedVariables false

theorem endsR_yes {cs : List Cb} {c : Int} (h0 : 0 ≤ c) (h1 : c < 2 * cs.length) : endsR cs c = ((chEnds cs c).1, (chEnds cs c).2, true) := by
  unfold endsR; rw [if_pos]; simp [existsN]; omega
theorem endsR_no {cs : List Cb} {c : Int} (h : existsN cs.length c = false) : endsR cs c = (0, 0, false) := by
  unfold endsR; rw [if_neg]; rw [h]; simp
theorem atR_iff {cs : List Cb} {c node : Int} : atR cs c node = true ↔ c ∈ chansAt cs node := by
  rw [mem_chansAt]
  cases hx : existsN cs.length c with
  | false =>
    unfold atR; rw [endsR_no hx]
    simp [existsN] at hx
    constructor
    · intro h; simp at h
    · rintro ⟨h0, h1, _⟩; have := hx h0; omega
  | true =>
    have hb : 0 ≤ c ∧ c < 2 * cs.length := by simpa [existsN] using hx
    unfold atR; rw [endsR_yes hb.1 hb.2]
    unfold chEnds atB
    split <;> simp [hb.1, hb.2] <;> omega
theorem atTo_eq (cs : List Cb) (node : Int) : (atTo cs node (2 * cs.length)).map (fun c : Nat => (c : Int)) = chansAt cs node := by
  have s1 : ((atTo cs node (2 * cs.length)).map (fun c : Nat => (c : Int))).Pairwise (· < ·) := by
    rw [List.pairwise_map]
    unfold atTo
    refine (List.pairwise_lt_range.sublist List.filter_sublist).imp ?_
    intro a b h; omega
  have s2 : (chansAt cs node).Pairwise (· < ·) := chTo_sorted cs node cs.length
  have nd : ∀ {l : List Int}, l.Pairwise (· < ·) → l.Nodup := fun h => h.imp (fun {a b} hab => by omega)
  have hp : ((atTo cs node (2 * cs.length)).map (fun c : Nat => (c : Int))).Perm (chansAt cs node) := by
    refine (List.perm_ext_iff_of_nodup (nd s1) (nd s2)).2 fun x => ?_
    rw [List.mem_map, mem_chansAt]
    constructor
    · rintro ⟨c, hc, rfl⟩
      unfold atTo at hc
      rw [List.mem_filter] at hc
      exact mem_chansAt.1 (atR_iff.1 hc.2)
    · intro hx
      refine ⟨x.toNat, ?_, by omega⟩
      unfold atTo
      rw [List.mem_filter, List.mem_range]
      have e : ((x.toNat : Nat) : Int) = x := by omega
      exact ⟨by omega, by rw [e]; exact atR_iff.2 (mem_chansAt.2 hx)⟩
  refine List.Perm.eq_of_pairwise (le := fun a b => a < b) ?_ s1 s2 hp
  intro a b _ _ h1 h2; omega
theorem sort_mem {E : Ens} {x : Int} : x ∈ sortE E ↔ x ∈ keysE E := by unfold sortE; exact List.mem_mergeSort
theorem exact_cond (cs : List Cb) (E : Ens) (node : Int) : ((atTo cs node (2 * cs.length)).all fun c => (sortE E).any fun x => x == (c : Int)) = ((chansAt cs node).all fun c => (lookE E c).isSome) := by
  rw [← atTo_eq, List.all_map]
  congr 1
  funext c
  rw [Bool.eq_iff_iff, List.any_eq_true]
  show _ ↔ (lookE E (c : Int)).isSome = true
  rw [lookE_some]
  constructor
  · rintro ⟨x, hx, e⟩
    have : x = c := by simpa using e
    rw [← this]; exact sort_mem.1 hx
  · intro h
    exact ⟨c, sort_mem.2 h, by simp⟩
theorem chans_le {cs : List Cb} {E : Ens} {node : Int} (h : ((chansAt cs node).all fun c => (lookE E c).isSome) = true) : (chansAt cs node).length ≤ E.length := by
  have hs : (chansAt cs node).Subset (keysE E) := fun c hc => lookE_some.1 (List.all_eq_true.1 h c hc)
  have nd : (chansAt cs node).Nodup := (chTo_sorted cs node cs.length).imp (fun {a b} hab => by omega)
  have := List.Nodup.length_le_of_subset nd hs
  simpa [keysE] using this
theorem exact_7 {cs : List Cb} {E : Ens} {node : Int} (h : ((chansAt cs node).all fun c => (lookE E c).isSome) = false) : exactE cs (sortE E) node = 7 := by
  unfold exactE; rw [exact_cond, if_pos h]
theorem exact_8 {cs : List Cb} {E : Ens} {node : Int} (h : ((chansAt cs node).all fun c => (lookE E c).isSome) = true) (h2 : E.length ≠ (chansAt cs node).length) : exactE cs (sortE E) node = 8 := by
  unfold exactE
  have e : (atTo cs node (2 * cs.length)).length = (chansAt cs node).length := by rw [← atTo_eq, List.length_map]
  have := chans_le h
  rw [exact_cond, if_neg (by rw [h]; simp), if_pos (by rw [e, sortE_length]; omega)]
theorem exact_0 {cs : List Cb} {E : Ens} {node : Int} (h : ((chansAt cs node).all fun c => (lookE E c).isSome) = true) (h2 : E.length = (chansAt cs node).length) : exactE cs (sortE E) node = 0 := by
  unfold exactE
  have e : (atTo cs node (2 * cs.length)).length = (chansAt cs node).length := by rw [← atTo_eq, List.length_map]
  rw [exact_cond, if_neg (by rw [h]; simp), if_neg (by rw [e, sortE_length]; omega)]
theorem fitsR_eq {ns : List Nd} {cs : List Cb} {node : Int} (h : isNodeB ns node = true) (f t n : Int) : fitsR cs f t n node = fitsB ⟨ns, cs⟩ (f, t, n) node := by
  unfold fitsB fitsR
  rw [show isNodeB (Pl.mk ns cs).ns node = true from h, show existsB (Pl.mk ns cs).cs (f, t, n).1 = existsN cs.length f from rfl, show existsB (Pl.mk ns cs).cs (f, t, n).2.1 = existsN cs.length t from rfl]
  cases hf : existsN cs.length f with
  | false => rw [endsR_no hf]; simp
  | true =>
    cases ht : existsN cs.length t with
    | false => rw [endsR_no ht]; simp
    | true =>
      have bf : 0 ≤ f ∧ f < 2 * cs.length := by simpa [existsN] using hf
      have bt : 0 ≤ t ∧ t < 2 * cs.length := by simpa [existsN] using ht
      rw [endsR_yes bf.1 bf.2, endsR_yes bt.1 bt.2]
      rw [Bool.eq_iff_iff]
      simp
      omega

end Go.Proofs.Ytljojgpjgjfddaa
