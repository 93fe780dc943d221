/- The contracts of the reference's Begin, Other, Above and From. -/
import Derived.Test.YtlhblaemoejefaaCAbove
namespace Go.Proofs.Ytlhblaemoejefaa
open Go.RowKit Go.Maps
set_option linter.unusedVariables false

set_option maxHeartbeats 1000000 in
theorem begin_any (cs : List Cb) (An Ac : Option Addr) (ln cn cc : Nat) (c : Int) (w : World) (hl : cs.length ≤ 1000000) (h : IsRec 6 cC cb0 w Ac cs.length cs) (h0 : 0 ≤ c) (h1 : c < 2 * cs.length) :
    Calls Try.prog 60 #[.agg #[.slice An ln cn, .slice Ac cs.length cc], .int .i64 c] w fun e w' => e = .returned (.int .i64 (chEnds cs c).1) ∧ Below w.heap.size w w' := by
  obtain ⟨k, hk⟩ : ∃ k : Nat, c / 2 = k := ⟨(c / 2).toNat, by omega⟩
  have hkl : k < cs.length := by omega
  have k1 : (k : Int) < (cs.length : Int) := by omega
  obtain ⟨bb, off, ha, hbb, hmem, c0, c1, c2, c3, c4, c5⟩ := cable_at (h.alloc (.cells #[.slice An ln cn, .slice Ac cs.length cc] 40)) k hkl
  have HE : Hid (chEnds cs c = if c % 2 = 0 then ((cs.getD k cb0).a, (cs.getD k cb0).b) else ((cs.getD k cb0).b, (cs.getD k cb0).a)) := by
    show _ = _; unfold chEnds; rw [hk]; rfl
  generalize cs.getD k cb0 = x at *
  subst ha
  obtain ⟨xa, xap, xb, xbp, xdl, xcp⟩ := x
  simp only at c0 c2 HE
  clear hmem h c1 c3 c4 c5
  have BW : Hid (Below w.heap.size w (w.alloc (.cells #[.slice An ln cn, .slice (some ⟨bb, off, none⟩) cs.length cc] 40))) := (Below.refl _ _).alloc (Nat.le_refl _) _
  by_cases hm : c % 2 = 0
  · rw [if_pos hm] at HE
    go_enter Try.func60, Try.ntmps60
    go_wp2_with fail
    go_ret
    exact ⟨by rw [HE.out]; rfl, BW.out⟩
  · rw [if_neg hm] at HE
    have hm1 : c % 2 = 1 := by omega
    clear hm
    go_enter Try.func60, Try.ntmps60
    go_wp2_with fail
    go_ret
    exact ⟨by rw [HE.out]; rfl, BW.out⟩
def otherV (x : Cb) (n : Int) : Int := if x.a = n then x.b else if x.b = n then x.a else -1
set_option maxHeartbeats 1000000 in
theorem other17c_any (x : Cb) (n : Int) (w : World) :
    Calls Try.prog 83 #[.agg #[.int .i64 x.a, .int .i64 x.ap, .int .i64 x.b, .int .i64 x.bp, .int .i64 x.dl, .int .i64 x.cp], .int .i64 n] w fun e w' => e = .returned (.int .i64 (otherV x n)) ∧ Below w.heap.size w w' := by
  obtain ⟨xa, xap, xb, xbp, xdl, xcp⟩ := x
  simp only
  have B : Hid (Below w.heap.size w (w.alloc (.cells #[.int .i64 xa, .int .i64 xap, .int .i64 xb, .int .i64 xbp, .int .i64 xdl, .int .i64 xcp] 47))) := (Below.refl _ _).alloc (Nat.le_refl _) _
  cases h1 : xa == n with
  | true =>
    have F : Hid (otherV ⟨xa, xap, xb, xbp, xdl, xcp⟩ n = xb) := by rw [Hid]; unfold otherV; rw [if_pos (by simpa using h1)]
    go_enter Try.func83, Try.ntmps83
    go_wp2_with fail
    go_ret
    exact ⟨by rw [F.out]; rfl, B.out⟩
  | false =>
    cases h2 : xb == n with
    | true =>
      have F : Hid (otherV ⟨xa, xap, xb, xbp, xdl, xcp⟩ n = xa) := by rw [Hid]; unfold otherV; rw [if_neg (by simpa using h1), if_pos (by simpa using h2)]
      go_enter Try.func83, Try.ntmps83
      go_wp2_with fail
      go_ret
      exact ⟨by rw [F.out]; rfl, B.out⟩
    | false =>
      have F : Hid (otherV ⟨xa, xap, xb, xbp, xdl, xcp⟩ n = -1) := by rw [Hid]; unfold otherV; rw [if_neg (by simpa using h1), if_neg (by simpa using h2)]
      go_enter Try.func83, Try.ntmps83
      go_wp2_with fail
      go_ret
      exact ⟨by rw [F.out]; rfl, B.out⟩
set_option maxHeartbeats 1000000 in
theorem Other17_any (cs : List Cb) (An Ac : Option Addr) (ln cn cc k : Nat) (n : Int) (w : World) (hl : cs.length ≤ 1000000) (h : IsRec 6 cC cb0 w Ac cs.length cs) (hk : k < cs.length) :
    Calls Try.prog 61 #[.agg #[.slice An ln cn, .slice Ac cs.length cc], .int .i64 k, .int .i64 n] w fun e w' => e = .returned (.int .i64 (otherV (cs.getD k cb0) n)) ∧ Below w.heap.size w w' := by
  obtain ⟨bb, off, ha, hbb, hmem, c0, c1, c2, c3, c4, c5⟩ := cable_at (h.alloc (.cells #[.slice An ln cn, .slice Ac cs.length cc] 40)) k hk
  have k1 : (k : Int) < (cs.length : Int) := by omega
  have BW : Hid (Below w.heap.size w (w.alloc (.cells #[.slice An ln cn, .slice Ac cs.length cc] 40))) := (Below.refl _ _).alloc (Nat.le_refl _) _
  generalize cs.getD k cb0 = x at *
  subst ha
  have HC := Lib.hid (other17c_any x n (w.alloc (.cells #[.slice An ln cn, .slice (some ⟨bb, off, none⟩) cs.length cc] 40)))
  clear hmem h
  go_enter Try.func61, Try.ntmps61
  go_wp2_with fail
  refine HC.out.mono ?_
  rintro e w2 ⟨rfl, bel⟩
  have F := Lib.hid (BW.out.trans (bel.mono (by simp)))
  clear bel
  go_wp2_with fail
  go_ret
  exact ⟨rfl, F.out⟩
def fromV (cs : List Cb) (k : Nat) (n : Int) : Int := if (cs.getD k cb0).a = n then 2 * (k : Int) else 2 * (k : Int) + 1
set_option maxHeartbeats 1000000 in
theorem from20_any (cs : List Cb) (An Ac : Option Addr) (ln cn cc k : Nat) (n : Int) (w : World) (hl : cs.length ≤ 1000000) (h : IsRec 6 cC cb0 w Ac cs.length cs) (hk : k < cs.length) :
    Calls Try.prog 63 #[.agg #[.slice An ln cn, .slice Ac cs.length cc], .int .i64 k, .int .i64 n] w fun e w' => e = .returned (.int .i64 (fromV cs k n)) ∧ Below w.heap.size w w' := by
  obtain ⟨bb, off, ha, hbb, hmem, c0, c1, c2, c3, c4, c5⟩ := cable_at (h.alloc (.cells #[.slice An ln cn, .slice Ac cs.length cc] 40)) k hk
  have k1 : (k : Int) < (cs.length : Int) := by omega
  have BW : Hid (Below w.heap.size w (w.alloc (.cells #[.slice An ln cn, .slice Ac cs.length cc] 40))) := (Below.refl _ _).alloc (Nat.le_refl _) _
  have HE : Hid (fromV cs k n = if (cs.getD k cb0).a = n then 2 * (k : Int) else 2 * (k : Int) + 1) := rfl
  generalize cs.getD k cb0 = x at *
  subst ha
  obtain ⟨xa, xap, xb, xbp, xdl, xcp⟩ := x
  simp only at c0 HE
  have q1 : IntKind.i64.wrap (2 * (k : Int)) = 2 * (k : Int) := IntWalk.i64_in _ (by omega)
  have q2 : IntKind.i64.wrap (2 * (k : Int) + 1) = 2 * (k : Int) + 1 := IntWalk.i64_in _ (by omega)
  clear hmem h c1 c2 c3 c4 c5
  cases hq : xa == n with
  | true =>
    rw [if_pos (by simpa using hq)] at HE
    go_enter Try.func63, Try.ntmps63
    go_wp2_with fail
    go_ret
    exact ⟨by rw [HE.out]; rfl, BW.out⟩
  | false =>
    rw [if_neg (by simpa using hq)] at HE
    go_enter Try.func63, Try.ntmps63
    go_wp2_with fail
    go_ret
    exact ⟨by rw [HE.out]; rfl, BW.out⟩
theorem orL_lt (x y a b : Int) : decide (orL [cmpZ x y, cmpZ a b] < 0) = (decide (x < y) || (x == y && decide (a < b))) := by
  rw [Bool.eq_iff_iff]
  simp only [decide_eq_true_iff, Bool.or_eq_true, Bool.and_eq_true, beq_iff_eq]
  unfold orL orL orL cmpZ
  repeat' split
  all_goals omega
set_option maxRecDepth 100000 in
set_option maxHeartbeats 4000000 in
theorem above17_any (lv : List Int) (Al : Option Addr) (cl i j : Nat) (w : World) (hl : lv.length ≤ 1000000) (h : IsRec 1 cI 0 w Al lv.length lv) (hi : i < lv.length) (hj : j < lv.length) (vi : 0 ≤ lv.getD i 0) (vj : 0 ≤ lv.getD j 0) :
    Calls Try.prog 62 #[.slice Al lv.length cl, .int .i64 i, .int .i64 j] w fun e w' => e = .returned (.bool (aboveB lv i j)) ∧ Below w.heap.size w w' := by
  obtain ⟨b1, o1, ha1, hb1, hm1, e1⟩ := int_at h i hi
  obtain ⟨b2, o2, ha2, hb2, hm2, e2⟩ := int_at h j hj
  rw [ha1] at ha2
  injection ha2 with ha2
  injection ha2 with ha3 ha4
  subst ha3
  subst ha4
  have i1 : (i : Int) < (lv.length : Int) := by omega
  have j1 : (j : Int) < (lv.length : Int) := by omega
  have i0 : (0 : Int) ≤ (i : Int) := by omega
  have j0 : (0 : Int) ≤ (j : Int) := by omega
  have F : Hid (aboveB lv i j = (decide (lv.getD i 0 < lv.getD j 0) || (lv.getD i 0 == lv.getD j 0 && decide ((i : Int) < (j : Int))))) := by
    rw [Hid]; unfold aboveB hasB lvAt
    rw [Int.toNat_natCast, Int.toNat_natCast, decide_eq_true i0, decide_eq_true j0, decide_eq_true i1, decide_eq_true j1, decide_eq_true vi, decide_eq_true vj, orL_lt]
    rfl
  generalize lv.getD i 0 = x at *
  generalize lv.getD j 0 = y at *
  subst ha1
  clear hm1 hm2 h
  cases q1 : decide (x < y) with
  | true =>
    rw [q1, Bool.true_or] at F
    go_enter Try.func62, Try.ntmps62
    go_wp2_with fail
    go_quiet (fail)
    go_wp2_with fail
    go_ret
    exact ⟨by rw [F.out]; rfl, below_drewN (Below.refl _ _) _⟩
  | false =>
    rw [q1] at F
    cases q2 : x == y with
    | true =>
      rw [q2, Bool.false_or, Bool.true_and, show decide ((i : Int) < (j : Int)) = decide (i < j) from by simp] at F
      go_enter Try.func62, Try.ntmps62
      go_wp2_with fail
      go_quiet (fail)
      go_wp2_with fail
      go_ret
      exact ⟨by rw [F.out]; rfl, below_drewN (Below.refl _ _) _⟩
    | false =>
      rw [q2, Bool.false_or, Bool.false_and] at F
      go_enter Try.func62, Try.ntmps62
      go_wp2_with fail
      go_quiet (fail)
      go_wp2_with fail
      go_ret
      exact ⟨by rw [F.out]; rfl, below_drewN (Below.refl _ _) _⟩
end Go.Proofs.Ytlhblaemoejefaa
