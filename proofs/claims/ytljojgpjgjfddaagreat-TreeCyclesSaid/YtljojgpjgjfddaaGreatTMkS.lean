/- Several texts in one: TMkQ, TMkR. -/
import Derived.Test.YtljojgpjgjfddaaGreatTLaw

/- What tree.Make returns, as one tree and one error number; small facts on the tree that it makes. -/
namespace Go.Proofs.YtljojgpjgjfddaaGreat
open Go.RowKit Go.Maps
set_option linter.unusedVariables false
set_option linter.unusedSimpArgs false

def zT : Tr := ⟨0, [], []⟩
theorem zT_small : SmallT zT := ⟨by decide, fun r hr => (by cases hr), by decide⟩
theorem zT_is (w : World) : IsTree w none none zT := ⟨⟨rfl, fun h => absurd h (by simp [zT])⟩, IsRec.nil _⟩
def mkX (ns : List Nd) (cs : List Cb) (lv ms : List Int) (s : Int) : Tr := if tErr ⟨ns, cs⟩ lv ms s ≠ 0 then zT else mkT ns cs lv ms s.toNat
section
variable {ns : List Nd} {cs : List Cb} {lv ms : List Int}
theorem mkX_err {s : Int} (h : tErr ⟨ns, cs⟩ lv ms s ≠ 0) : mkX ns cs lv ms s = zT := if_pos h
theorem mkX_ok {s : Nat} (h : tErr ⟨ns, cs⟩ lv ms (s : Int) = 0) : mkX ns cs lv ms (s : Int) = mkT ns cs lv ms s := by
  unfold mkX; rw [if_neg (by rw [h]; decide), Int.toNat_natCast]
theorem mkT_len {s : Nat} : (mkT ns cs lv ms s).out.length = ns.length := by unfold mkT; simp
theorem mkT_at {s u : Nat} (hu : u < ns.length) : (mkT ns cs lv ms s).out.getD u [] = makeOut ns cs lv ms s u := by unfold mkT; simp [List.getD, hu]
theorem mkT_small {s : Nat} (h : MOk ns cs lv ms s) (hm : ms.length ≤ 1000000) : SmallT (mkT ns cs lv ms s) := by
  obtain ⟨n16, c32⟩ := valid_sizes h.T.hv
  refine ⟨by rw [mkT_len]; omega, fun r hr => ?_, by unfold mkT delM; simp only [List.length_mergeSort]; exact hm⟩
  unfold mkT at hr
  simp only [List.mem_map] at hr
  obtain ⟨u, _, rfl⟩ := hr
  have := h.len u
  omega
theorem mkX_small (s : Int) (hm : ms.length ≤ 1000000) : SmallT (mkX ns cs lv ms s) := by
  by_cases h : tErr ⟨ns, cs⟩ lv ms s = 0
  · obtain ⟨k, rfl, mok⟩ := mok_of h
    rw [mkX_ok h]; exact mkT_small mok hm
  · rw [mkX_err h]; exact zT_small
end
def MxPost (X : Tr) (te : Int) (w : World) (e : Ending) (w' : World) : Prop :=
  ∃ aO aD cO cD, e = .returned (.tuple #[trV X aO aD cO cD, .int .i64 te]) ∧ IsTree w' aO aD X ∧ Below w.heap.size w w'
theorem mkx_of {ns : List Nd} {cs : List Cb} {lv ms : List Int} {s : Int} {w : World} {e : Ending} {w' : World} (h : MkPost ns cs lv ms s w e w') : MxPost (mkX ns cs lv ms s) (tErr ⟨ns, cs⟩ lv ms s) w e w' := by
  obtain ⟨bel, ⟨hne, rfl⟩ | ⟨he, k, rfl, mok, aO, aD, cO, cD, rfl, ht⟩⟩ := h
  · rw [mkX_err hne]
    exact ⟨none, none, 0, 0, rfl, zT_is _, bel⟩
  · rw [mkX_ok he, he]
    exact ⟨aO, aD, cO, cD, rfl, ht w' (AgreeF.refl _ _), bel⟩
end Go.Proofs.YtljojgpjgjfddaaGreat

/- The world behind a drawn region that makes a tree. -/
namespace Go.Proofs.YtljojgpjgjfddaaGreat
open Go.RowKit Go.Maps
set_option linter.unusedVariables false
set_option linter.unusedSimpArgs false

def PostX (X : Tr) (te : Int) (w : World) (e : Ending) (w' : World) : Prop :=
  ∃ aO aD cO cD, e = .returned (.tuple #[trV X aO aD cO cD, .int .i64 te]) ∧ (∀ w'', AgreeF w.heap.size w' w'' → IsTree w'' aO aD X) ∧ Below w.heap.size w w'
theorem px_of {ns : List Nd} {cs : List Cb} {lv ms : List Int} {s : Int} {w : World} {e : Ending} {w' : World} (h : MkPost ns cs lv ms s w e w') : PostX (mkX ns cs lv ms s) (tErr ⟨ns, cs⟩ lv ms s) w e w' := by
  obtain ⟨bel, ⟨hne, rfl⟩ | ⟨he, k, rfl, mok, aO, aD, cO, cD, rfl, ht⟩⟩ := h
  · rw [mkX_err hne]
    exact ⟨none, none, 0, 0, rfl, fun w'' _ => zT_is _, bel⟩
  · rw [mkX_ok he, he]
    exact ⟨aO, aD, cO, cD, rfl, ht, bel⟩
/-- The world behind the region that makes the tree: its block, the error. -/
def RGx (X : Tr) (te : Int) (w5 : World) (s9 s10 : Value) (wx : World) : Prop :=
  ∃ bX aO aD cO cD, s9 = .pointer (some ⟨bX, 0, none⟩) ∧ s10 = .int .i64 te ∧ Below w5.heap.size w5 wx ∧ Blk wx bX 56 #[.int .i64 X.src, .slice aO X.out.length cO, .slice aD X.del.length cD] ∧ IsTree wx aO aD X
theorem rgx_mk {X : Tr} {te : Int} {w5 wx : World} {bX : Nat} {aO aD : Option Addr} {cO cD : Nat} (hX : Blk wx bX 56 #[.int .i64 X.src, .slice aO X.out.length cO, .slice aD X.del.length cD]) (hB : Below w5.heap.size w5 wx) (hT : IsTree wx aO aD X) : RGx X te w5 (.pointer (some ⟨bX, 0, none⟩)) (.int .i64 te) wx := ⟨bX, aO, aD, cO, cD, rfl, rfl, hB, hX, hT⟩
end Go.Proofs.YtljojgpjgjfddaaGreat
