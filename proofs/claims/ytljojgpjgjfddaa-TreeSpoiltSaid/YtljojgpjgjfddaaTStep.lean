/- The search of tree.Make cable by cable: what is needed and taken down after the first k cables. No program in sight. -/
import Derived.Test.YtljojgpjgjfddaaTPlain
namespace Go.Proofs.Ytljojgpjgjfddaa
open Go.RowKit Go.Maps
set_option linter.unusedVariables false
set_option linter.unusedSimpArgs false

def needK (cs : List Cb) (lv : List Int) (W : Nat → Bool) (f u : Nat) (ov : Int) (k : Nat) : Bool := W u || (List.range k).any fun i => goB cs lv u ov i && needT cs lv W f (othN cs u i) (i : Int)
def outS (cs : List Cb) (lv : List Int) (W : Nat → Bool) (f u : Nat) (ov : Int) (i : Nat) : List (Nat × Int) :=
  if goB cs lv u ov i = true then outT cs lv W f (othN cs u i) (i : Int) ++ (if needT cs lv W f (othN cs u i) (i : Int) = true then [(u, (i : Int))] else []) else []
def outK (cs : List Cb) (lv : List Int) (W : Nat → Bool) (f u : Nat) (ov : Int) (k : Nat) : List (Nat × Int) := (List.range k).flatMap (outS cs lv W f u ov)
section
variable (cs : List Cb) (lv : List Int) (W : Nat → Bool) (f u : Nat) (ov : Int)
theorem needK_zero : needK cs lv W f u ov 0 = W u := by simp [needK]
theorem needK_succ (k : Nat) : needK cs lv W f u ov (k + 1) = (needK cs lv W f u ov k || (goB cs lv u ov k && needT cs lv W f (othN cs u k) (k : Int))) := by
  unfold needK; rw [List.range_succ, List.any_append]; simp [Bool.or_assoc]
theorem needK_all : needT cs lv W (f + 1) u ov = needK cs lv W f u ov cs.length := by rw [needT, needK]
theorem outK_zero : outK cs lv W f u ov 0 = [] := by simp [outK]
theorem outK_succ (k : Nat) : outK cs lv W f u ov (k + 1) = outK cs lv W f u ov k ++ outS cs lv W f u ov k := by
  unfold outK; rw [List.range_succ, List.flatMap_append]; simp
theorem outK_all : outT cs lv W (f + 1) u ov = outK cs lv W f u ov cs.length := by rw [outT, outK]; rfl
theorem outK_more {k m : Nat} (h : k ≤ m) : ∃ R, outK cs lv W f u ov m = outK cs lv W f u ov k ++ R := by
  obtain ⟨d, rfl⟩ := Nat.exists_eq_add_of_le h
  induction d with
  | zero => exact ⟨[], by simp⟩
  | succ d ih =>
    obtain ⟨R, hR⟩ := ih (by omega)
    exact ⟨R ++ outS cs lv W f u ov (k + d), by rw [← Nat.add_assoc, outK_succ, hR, List.append_assoc]⟩
theorem outS_skip {k : Nat} (h : goB cs lv u ov k = false) : outS cs lv W f u ov k = [] := by unfold outS; rw [h]; rfl
theorem outS_no {k : Nat} (h : goB cs lv u ov k = true) (h2 : needT cs lv W f (othN cs u k) (k : Int) = false) : outS cs lv W f u ov k = outT cs lv W f (othN cs u k) (k : Int) := by unfold outS; rw [h, h2]; simp
theorem outS_yes {k : Nat} (h : goB cs lv u ov k = true) (h2 : needT cs lv W f (othN cs u k) (k : Int) = true) : outS cs lv W f u ov k = outT cs lv W f (othN cs u k) (k : Int) ++ [(u, (k : Int))] := by unfold outS; rw [h, h2]; simp
end
theorem outAt_nil (a : Nat) : outAt [] a = [] := rfl
theorem outAt_append (A B : List (Nat × Int)) (a : Nat) : outAt (A ++ B) a = outAt A a ++ outAt B a := by unfold outAt; rw [List.filter_append, List.map_append]
theorem outK_len (cs : List Cb) (lv : List Int) (W : Nat → Bool) (f u : Nat) (ov : Int) {k : Nat} (h : k < cs.length) (a : Nat) :
    (outAt (outK cs lv W f u ov k) a).length + (outAt (outS cs lv W f u ov k) a).length ≤ (outAt (outT cs lv W (f + 1) u ov) a).length := by
  obtain ⟨R, hR⟩ := outK_more cs lv W f u ov (show k + 1 ≤ cs.length by omega)
  rw [outK_all, hR, outK_succ, outAt_append, outAt_append]
  simp only [List.length_append]
  omega
theorem outAt_same (u : Nat) (i : Int) : outAt [(u, i)] u = [i] := by simp [outAt]
theorem outAt_other {u a : Nat} (i : Int) (h : ¬ a = u) : outAt [(u, i)] a = [] := by
  have h2 : ¬ u = a := fun e => h e.symm
  simp [outAt, h2]
end Go.Proofs.Ytljojgpjgjfddaa
