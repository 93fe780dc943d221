/- Plain facts for the law's own example: sorted lists are their own sorting; what Cycle finds, evaluated. No program in sight. -/
import Derived.Test.YtlhblaemoejefaaRing
import Derived.Test.YtlhblaemoejefaaCDeps
import Derived.Test.YtlhblaemoejefaaCCycle
import Derived.Laws.Cover4
namespace Go.Proofs.Ytlhblaemoejefaa
open Go.RowKit Go.Maps Go.Sort Go.Shelf
set_option linter.unusedVariables false
def sortedDB (l : List Dp) : Prop := l.Pairwise fun x y => (!(ltOf cmp3) y x) = true
instance (l : List Dp) : Decidable (sortedDB l) := by unfold sortedDB; infer_instance
theorem sortD_id {l : List Dp} (h : sortedDB l) : sortD l = l := List.mergeSort_of_pairwise h
theorem depsD_eval {p : Pl} {lv : List Int} {T : List Row2} {L : List Dp} (h1 : setOfD (depA p.cs lv T p.ns.length (2 * p.cs.length)) = L) (h2 : sortedDB L) : depsD p lv T = L := by
  unfold depsD; rw [h1]; exact sortD_id h2
theorem cycD_eval {ds L : List Dp} {ks : List Int} (h1 : setOfD ds = L) (h2 : sortedDB L) (h3 : dedI (L.map (·.1)) = ks) (h4 : ks.Pairwise fun x y => leI x y = true) :
    cycD ds = cycOf (nxD L) ((nodesU L).length + 1) ks := by
  unfold cycD unionD cycL keysL
  rw [List.append_nil, h1, sortD_id h2, h3, List.mergeSort_of_pairwise h4]
def ring3D : List Dp := [(0, 2, 1), (2, 4, 2), (4, 0, 0)]
theorem order3 : orderB (ringP 3) (ringL 3) = true := by decide +kernel
theorem table3 : tableB (ringP 3) (ringT 3) = true := by decide +kernel
theorem deps3 : depsD (ringP 3) (ringL 3) (ringT 3) = ring3D := depsD_eval (by decide +kernel) (by decide +kernel)
theorem cyc3 : (cycD ring3D).length = 3 := by rw [cycD_eval (ks := [0, 2, 4]) (L := ring3D) (by decide +kernel) (by decide +kernel) (by decide +kernel) (by decide +kernel)]; decide +kernel
theorem cyc2 : (cycD (ring3D.take 2)).length = 0 := by rw [cycD_eval (ks := [0, 2]) (L := ring3D.take 2) (by decide +kernel) (by decide +kernel) (by decide +kernel) (by decide +kernel)]; decide +kernel
theorem wf_ring3 : WfD ring3D := by
  intro d hd
  simp only [ring3D, List.mem_cons, List.not_mem_nil, or_false] at hd
  rcases hd with rfl | rfl | rfl <;> exact ⟨by decide, by decide, by decide⟩
theorem wf_ringP {n : Nat} (h : n ≤ 26) : WfP (ringP n) := by
  have hw : ∀ x : Int, -1000 ≤ x → x ≤ 1000 → (Lit.int .i64 x).wf = true := fun x h1 h2 => wf_small x (by omega) (by omega)
  refine ⟨fun x hx => ?_, fun x hx => ?_⟩
  · simp only [ringP, List.mem_map, List.mem_range] at hx
    obtain ⟨i, hi, rfl⟩ := hx
    refine ⟨?_, (show (Lit.int .i64 2).wf = true by decide)⟩
    have h1 := encode_size_le (97 + (i : Int))
    show (⟨#[115]⟩ ++ Go.Utf8.encode (97 + (i : Int)) : ByteArray).size ≤ maxLen
    rw [ByteArray.size_append]
    have : (⟨#[115]⟩ : ByteArray).size = 1 := rfl
    unfold maxLen; omega
  · simp only [ringP, List.mem_map, List.mem_range] at hx
    obtain ⟨i, hi, rfl⟩ := hx
    have hm : (i + 1) % n < n := Nat.mod_lt _ (by omega)
    exact ⟨hw _ (by show -1000 ≤ (i : Int); omega) (by show (i : Int) ≤ 1000; omega), (show (Lit.int .i64 0).wf = true by decide), hw _ (by show -1000 ≤ (((i + 1) % n : Nat) : Int); omega) (by show (((i + 1) % n : Nat) : Int) ≤ 1000; omega), (show (Lit.int .i64 1).wf = true by decide), (show (Lit.int .i64 1).wf = true by decide), (show (Lit.int .i64 1).wf = true by decide)⟩
theorem wf_ringL {n : Nat} (h : n ≤ 26) : WfI (ringL n) := by
  intro x hx
  simp only [ringL, List.mem_map, List.mem_range] at hx
  obtain ⟨i, hi, rfl⟩ := hx
  exact wf_small _ (by unfold ringLv; omega) (by unfold ringLv; omega)
theorem wf_ringT {n : Nat} (h : n ≤ 26) : WfT (ringT n) := by
  have hr : ∀ i, i < n → WfI (ringRow n i) := by
    intro i hi x hx
    simp only [ringRow, List.mem_map, List.mem_range] at hx
    obtain ⟨d, hd, rfl⟩ := hx
    exact wf_small _ (by unfold ringC; split <;> omega) (by unfold ringC; split <;> omega)
  intro r hx
  simp only [ringT, List.mem_map, List.mem_range] at hx
  obtain ⟨i, hi, rfl⟩ := hx
  exact ⟨hr i hi, hr i hi⟩
theorem isRec_take {α : Type} {m : Nat} {c : α → List Value} {d : α} {w : World} {a : Option Addr} {len : Nat} {xs : List α} (h : IsRec m c d w a len xs) (k : Nat) (hk : k ≤ len) : IsRec m c d w a k (xs.take k) := by
  refine ⟨by rw [List.length_take, h.1]; omega, fun h0 => ?_⟩
  obtain ⟨b, off, ha, hb, hc⟩ := h.2 (by omega)
  refine ⟨b, off, ha, hb, fun i j hi hj => ?_⟩
  rw [hc i j (by omega) hj]
  have : (xs.take k).getD i d = xs.getD i d := by simp [List.getD, hi]
  rw [this]
end Go.Proofs.Ytlhblaemoejefaa
