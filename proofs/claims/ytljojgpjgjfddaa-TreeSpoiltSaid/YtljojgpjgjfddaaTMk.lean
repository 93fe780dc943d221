/- The contract of tree.Make. -/
import Derived.Test.YtljojgpjgjfddaaTMake
import Derived.Test.YtljojgpjgjfddaaTMakeP
import Derived.Test.YtljojgpjgjfddaaTPar
import Derived.Test.YtljojgpjgjfddaaTVal
import Derived.Test.YtljojgpjgjfddaaLaid
import Derived.Deep.Cut
import Derived.Deep.CutRange
namespace Go.Proofs.Ytljojgpjgjfddaa
open Go.RowKit Go.Maps Go.Sort Go.Shelf
set_option linter.unusedVariables false
set_option linter.unusedSimpArgs false

theorem sortsAB (m : Nat) : AnyZI.SortsIn Try.prog Try.sortedA_ren Fence.wide m :=
  ⟨fun blk off cap ss W hH hblk hsz => callsIn_wide.2 (AnyM.slices_Sort_int Try.sortA blk off cap ss W hH hblk hsz),
   fun p cap W => callsIn_wide.2 (AnyM.slices_Sort_int_none Try.sortA p cap W)⟩
theorem keysIB_any (m : Option Nat) (w : World) :
    Calls Try.prog 57 #[.map m] w fun e w' => e = .returned (.func (.func 96) #[] #[.pointer (some ⟨w.heap.size, 0, none⟩)]) ∧ w.alloc (.cells #[.map m] 82) = w' :=
  (callsIn_wide (n := 5)).1 ((AnyZI.keys_in Try.keysIB Fence.wide 5 trivial rfl m w).mono fun e w' h => ⟨h.1, h.2.symm⟩)
theorem setM_some (ms : List Int) (l : Lit) : (setM (intLits ms ms.length) l).isSome = true ↔ ∃ y ∈ ms, l = .int .i64 y := by
  unfold setM intLits
  rw [List.take_length]
  constructor
  · intro h
    split at h
    · rename_i h2
      rw [List.any_map, List.any_eq_true] at h2
      obtain ⟨y, hy, e⟩ := h2
      exact ⟨y, hy, WideAt.sameKey_eq e⟩
    · cases h
  · rintro ⟨y, hy, rfl⟩
    rw [if_pos]
    · rfl
    · rw [List.any_map, List.any_eq_true]; exact ⟨y, hy, by simp [Lit.sameKey]⟩
def delM (ms : List Int) : List Int := ms.mergeSort leI
theorem sortedIB_any (B b n : Nat) (ms : List Int) (hnd : ms.Nodup) (w : World) (hB : B < w.heap.size) (hc : w.cell? ⟨B, 0, none⟩ = some (.map (some b))) (hg : OMap w Try.prog 3 b n (setM (intLits ms ms.length))) (hl : ms.length ≤ 1000000) :
    Calls Try.prog 52 #[.func (.func 96) #[] #[.pointer (some ⟨B, 0, none⟩)]] w (IntsPost (delM ms) w) := by
  refine (callsIn_wide (n := 5)).1 ?_
  obtain ⟨D, hown, hD⟩ := hg
  obtain ⟨es, hDe, hpw, hkl⟩ := hown.entries (int_keyed Try.underlying3)
  obtain ⟨es', hDe', hko⟩ := hown.keysOf
  obtain rfl : es = es' := by rw [hDe] at hDe'; simpa using hDe'
  have hints : ∀ p ∈ es, ∃ x, p.1 = .int .i64 x := fun p hp => by obtain ⟨v, hv⟩ := hko p hp; obtain ⟨x, _, hx, _⟩ := Maps.keyOf_i64 Try.underlying3 hv; exact ⟨x, hx⟩
  have hperm : ms.Perm (intKeys D) := by
    subst hDe
    refine perm_intKeys hpw hints hnd fun x => ?_
    rw [(hD _).1, setM_some]
    constructor
    · intro h; exact ⟨x, h, rfl⟩
    · rintro ⟨y, hy, e⟩; injection e with _ e; rw [e]; exact hy
  have hsz : Maps.size D ≤ ms.length := by
    have h1 := hperm.length_eq
    have h2 : (intKeys D).length = Maps.size D := by subst hDe; rw [size_eq]; simp [intKeys]
    omega
  have hseq : SeqGives Fence.wide 2 Try.prog 96 #[.pointer (some ⟨B, 0, none⟩)] encZ (fun ss => ss.Perm (intKeys D)) (Maps.size D) w :=
    AnyZI.keys_gives (ρ := Try.keysIB_ren) { Try.keysIB with } Fence.wide _ trivial rfl (by omega) B b _ D w hB hc hown
  have cS := AnyZI.sorted_in Try.sortedA Fence.wide 5 trivial trivial trivial trivial rfl (by omega) (sortsAB _) (enters_of Try.func36 (by kernel_rfl) rfl) 96 #[.pointer (some ⟨B, 0, none⟩)] trivial (enters_of Try.func96 (by kernel_rfl) rfl) _ _ (by unfold maxLen; omega) (by omega) _ hseq
  refine cS.mono ?_
  rintro e w' ⟨v, ss, rfl, hS, hrow, hnil, hb⟩
  have e1 : ss.mergeSort leI = delM ms := mergeSort_of_perm_i (hS.trans hperm.symm)
  refine ⟨v, rfl, ?_, hb⟩
  have e2 : ss.length = (delM ms).length := by rw [← e1, List.length_mergeSort]
  rw [← e2, cI_map, ← e1]
  exact hrow
end Go.Proofs.Ytljojgpjgjfddaa
