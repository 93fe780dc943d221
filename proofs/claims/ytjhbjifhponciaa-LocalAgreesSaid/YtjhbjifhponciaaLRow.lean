/- Rows of parts as lists of (cells, part): cut, joined, read back. -/
import Derived.Test.YtjhbjifhponciaaLCloneP
import Derived.Test.YtjhbjifhponciaaLChangeLaw
namespace Go.Proofs.Ytjhbjifhponciaa
open Go.RowKit Go.Maps
set_option linter.unusedVariables false

abbrev Q3 := (Value × Value × Value) × Pt
def q30 : Q3 := ((undef, undef, undef), pt0)
def cQ (q : Q3) : List Value := [q.1.1, q.1.2.1, q.1.2.2]
theorem cQ_length : ∀ q, (cQ q).length = 3 := fun _ => rfl
def OkQ (w : World) (L : List Q3) : Prop := ∀ q ∈ L, IsPart w (cQ q) q.2
def ptsQ (L : List Q3) : List Pt := L.map (·.2)
theorem ptsQ_length (L : List Q3) : (ptsQ L).length = L.length := by simp [ptsQ]
theorem OkQ.below {w w' : World} {B : Nat} {L : List Q3} (h : OkQ w L) (hB : w.heap.size ≤ B) (hb : Below B w w') : OkQ w' L := fun q hq => (h q hq).below hB hb
theorem OkQ.sub {w : World} {L L' : List Q3} (h : OkQ w L) (hs : ∀ q ∈ L', q ∈ L) : OkQ w L' := fun q hq => h q (hs q hq)
theorem OkQ.one {w : World} {L : List Q3} (h : OkQ w L) : ∀ u ∈ L.flatMap cQ, u.oneCell' = true := by
  intro u hu
  rw [List.mem_flatMap] at hu
  obtain ⟨q, hq, hu⟩ := hu
  obtain ⟨a, cap, m, e, _⟩ := h q hq
  rw [e] at hu
  simp at hu
  rcases hu with rfl | rfl | rfl <;> rfl
theorem parts_of_rec {w : World} {a : Option Addr} {n : Nat} {L : List Q3} (h : IsRec 3 cQ q30 w a n L) (hk : OkQ w L) : IsParts w a n (ptsQ L) := by
  refine ⟨by rw [ptsQ_length, h.1], fun h0 => ?_⟩
  obtain ⟨b, off, ha, hb, hc⟩ := h.2 h0
  refine ⟨b, off, ha, hb, fun i hi => ⟨cQ (L.getD i q30), ?_, fun j hj => hc i j hi hj⟩⟩
  have hl : i < L.length := by rw [h.1]; exact hi
  have e : (ptsQ L).getD i pt0 = (L.getD i q30).2 := by simp [ptsQ, List.getD, hl]
  rw [e]
  exact hk _ (by simp [List.getD, hl])
theorem parts_of_own {w : World} {base n : Nat} {v : Value} {L : List Q3} (h : w.ownsRow base 41 3 v n (L.flatMap cQ)) (hk : OkQ w L) : ∃ a cap, v = .slice a n cap ∧ IsParts w a n (ptsQ L) ∧ L.length = n := by
  obtain ⟨a, cap, rfl, _, hr, _⟩ := rec_of_own (m := 3) (c := cQ) (d := q30) cQ_length (by decide) h
  exact ⟨a, cap, rfl, parts_of_rec hr hk, hr.1⟩
theorem flat_drop (L : List Q3) (k : Nat) : (L.flatMap cQ).drop (k * 3) = (L.drop k).flatMap cQ := by
  induction L generalizing k with
  | nil => simp
  | cons q l ih =>
    cases k with
    | zero => simp
    | succ k =>
      rw [List.flatMap_cons, List.drop_succ_cons, ← ih k, show (k + 1) * 3 = (cQ q).length + k * 3 by rw [cQ_length]; omega, List.drop_append]
      simp
theorem rec_take {w : World} {a : Option Addr} {n k : Nat} {L : List Q3} (h : IsRec 3 cQ q30 w a n L) (hk : k ≤ n) : IsRec 3 cQ q30 w a k (L.take k) := by
  refine ⟨by rw [List.length_take, h.1]; omega, fun h0 => ?_⟩
  obtain ⟨b, off, ha, hb, hc⟩ := h.2 (by omega)
  refine ⟨b, off, ha, hb, fun i j hi hj => ?_⟩
  rw [hc i j (by omega) hj]
  have e : (L.take k).getD i q30 = L.getD i q30 := by simp [List.getD, hi]
  rw [e]
/-- The row that Split leaves. -/
def splitQ (p : Pl) (ds : List Dp) (r : List Int) (dv : Nat → Value) (mb : Nat → Nat) : List Q3 := (List.range p.ns.length).map fun i : Nat => ((.int .i64 i, dv i, .map (some (mb i))), splitPt p ds r i)
theorem splitQ_pts (p : Pl) (ds : List Dp) (r : List Int) (dv : Nat → Value) (mb : Nat → Nat) : ptsQ (splitQ p ds r dv mb) = splitL p ds r := by
  unfold ptsQ splitQ splitL; rw [List.map_map]; rfl
theorem splitQ_length (p : Pl) (ds : List Dp) (r : List Int) (dv : Nat → Value) (mb : Nat → Nat) : (splitQ p ds r dv mb).length = p.ns.length := by simp [splitQ]
theorem splitQ_get (p : Pl) (ds : List Dp) (r : List Int) (dv : Nat → Value) (mb : Nat → Nat) {i : Nat} (hi : i < p.ns.length) : (splitQ p ds r dv mb).getD i q30 = ((.int .i64 i, dv i, .map (some (mb i))), splitPt p ds r i) := by simp [splitQ, hi]
section
variable {p : Pl} {ds : List Dp} {r : List Int} {w w' : World} {g : Nat} {dv : Nat → Value} {mb : Nat → Nat}
theorem SplitOk.okQ (h : SplitOk p ds r w w' g dv mb) : OkQ w' (splitQ p ds r dv mb) := by
  intro q hq
  unfold splitQ at hq
  rw [List.mem_map] at hq
  obtain ⟨i, hi, rfl⟩ := hq
  rw [List.mem_range] at hi
  obtain ⟨a, cap, hv, _, hrec, _⟩ := rec_of_own (m := 3) (c := cD) (d := d0) (fun _ => rfl) (by decide) (h.deps i hi)
  exact ⟨a, cap, some (mb i), by unfold cQ; rw [hv]; rfl, hrec, .inr ⟨mb i, rfl, h.maps i hi⟩⟩
theorem SplitOk.recQ (h : SplitOk p ds r w w' g dv mb) : IsRec 3 cQ q30 w' (some ⟨g, 0, none⟩) p.ns.length (splitQ p ds r dv mb) :=
  h.row.isRec (splitQ_length ..) fun i hi => by rw [splitQ_get p ds r dv mb hi]; rfl
end
end Go.Proofs.Ytjhbjifhponciaa
