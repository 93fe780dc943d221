/- The contracts of tree.isEnd and tree.other at cables that are there. -/
import Derived.Test.YtljojgpjgjfddaaTPlain
import Derived.Test.YtljojgpjgjfddaaCBase
namespace Go.Proofs.Ytljojgpjgjfddaa
open Go.RowKit Go.Maps
set_option linter.unusedVariables false
set_option linter.unusedSimpArgs false

set_option maxHeartbeats 1000000 in
theorem tend_any (ns : List Nd) (cs : List Cb) (An Ac : Option Addr) (cn cc k : Nat) (u : Int) (w : World) (hl : cs.length ≤ 1000000) (hk : k < cs.length) (h : IsRec 6 cC cb0 w Ac cs.length cs) :
    Calls Try.prog 59 #[.agg #[.slice An ns.length cn, .slice Ac cs.length cc], .int .i64 (k : Int), .int .i64 u] w fun e w' => e = .returned (.bool (endT (cs.getD k cb0) u)) ∧ Below w.heap.size w w' := by
  have B : Hid (Below w.heap.size w (w.alloc (.cells #[.slice An ns.length cn, .slice Ac cs.length cc] 25))) := (Below.refl _ _).alloc (Nat.le_refl _) _
  obtain ⟨bc, oc, hAc, hbc, _, ca, cap', cb, cbp, cd, ccp⟩ := cable_at h k hk
  have kw : (k : Int) < (cs.length : Int) := by omega
  have k0 : (0 : Int) ≤ (k : Int) := by omega
  generalize cs.getD k cb0 = x at *
  obtain ⟨xa, xap, xb, xbp, xd, xc⟩ := x
  simp only at ca cap' cb cbp cd ccp
  have E : Hid (endT ⟨xa, xap, xb, xbp, xd, xc⟩ u = (xa == u || xb == u)) := rfl
  subst hAc
  clear h
  cases h1 : xa == u with
  | true =>
    rw [h1] at E
    go_enter Try.func59, Try.ntmps59
    go_wp2_with fail
    go_ret
    exact ⟨by rw [E.out]; rfl, B.out⟩
  | false =>
    rw [h1] at E
    cases h2 : xb == u with
    | true =>
      rw [h2] at E
      go_enter Try.func59, Try.ntmps59
      go_wp2_with fail
      go_ret
      exact ⟨by rw [E.out]; first | rfl | simp [h2], B.out⟩
    | false =>
      rw [h2] at E
      go_enter Try.func59, Try.ntmps59
      go_wp2_with fail
      go_ret
      exact ⟨by rw [E.out]; first | rfl | simp [h2], B.out⟩
set_option maxHeartbeats 1000000 in
theorem tother_any (ns : List Nd) (cs : List Cb) (An Ac : Option Addr) (cn cc k : Nat) (u : Int) (w : World) (hl : cs.length ≤ 1000000) (hk : k < cs.length) (h : IsRec 6 cC cb0 w Ac cs.length cs)
    (ha : 0 ≤ (cs.getD k cb0).a ∧ (cs.getD k cb0).a ≤ 1000000) (hb : 0 ≤ (cs.getD k cb0).b ∧ (cs.getD k cb0).b ≤ 1000000) (hu : 0 ≤ u ∧ u ≤ 1000000) :
    Calls Try.prog 60 #[.agg #[.slice An ns.length cn, .slice Ac cs.length cc], .int .i64 (k : Int), .int .i64 u] w fun e w' => e = .returned (.int .i64 (othZ (cs.getD k cb0) u)) ∧ Below w.heap.size w w' := by
  have B : Hid (Below w.heap.size w (w.alloc (.cells #[.slice An ns.length cn, .slice Ac cs.length cc] 25))) := (Below.refl _ _).alloc (Nat.le_refl _) _
  obtain ⟨bc, oc, hAc, hbc, _, ca, cap', cb, cbp, cd, ccp⟩ := cable_at h k hk
  have kw : (k : Int) < (cs.length : Int) := by omega
  have k0 : (0 : Int) ≤ (k : Int) := by omega
  generalize cs.getD k cb0 = x at *
  obtain ⟨xa, xap, xb, xbp, xd, xc⟩ := x
  simp only at ca cap' cb cbp cd ccp ha hb
  obtain ⟨a0, a1⟩ := ha
  obtain ⟨b0, b1⟩ := hb
  obtain ⟨u0, u1⟩ := hu
  have E : Hid (othZ ⟨xa, xap, xb, xbp, xd, xc⟩ u = xa + xb - u) := rfl
  subst hAc
  have q1 : IntKind.i64.wrap (xa + xb) = xa + xb := IntWalk.i64_in _ (by omega)
  have q2 : IntKind.i64.wrap (xa + xb - u) = xa + xb - u := IntWalk.i64_in _ (by omega)
  have B2 : Hid (∀ n, Below w.heap.size w ((w.alloc (.cells #[.slice An ns.length cn, .slice (some ⟨bc, oc, none⟩) cs.length cc] 25)).drewN n)) := fun n => below_drewN B.out n
  clear h
  go_enter Try.func60, Try.ntmps60
  go_wp2_with fail
  go_quiet (fail)
  clear q1 q2
  go_wp2_with fail
  go_ret
  exact ⟨by rw [E.out]; rfl, B2.out _⟩
end Go.Proofs.Ytljojgpjgjfddaa
