/- The contracts of channel.Ends and of the law's own great. -/
import Derived.Test.YtlhblaemoejefaaCAbove
import Derived.Test.YtlhblaemoejefaaR14b
namespace Go.Proofs.Ytlhblaemoejefaa
open Go.RowKit Go.Maps
set_option linter.unusedVariables false

def great20B (ln lc lu : Nat) : Bool := decide (20 < ln) || decide (40 < lc) || decide (60 < lu)
theorem great20_any (An Ac Ad : Option Addr) (ln lc ld cn cc cd : Nat) (w : World) (b : Bool) (hb : great20B ln lc ld = b) :
    Calls Try.prog 21 #[.agg #[.slice An ln cn, .slice Ac lc cc], .slice Ad ld cd] w fun e w' => e = .returned (.bool b) ∧ w.alloc (.cells #[.slice An ln cn, .slice Ac lc cc] 40) = w' := by
  subst hb
  have F : Hid ((decide (20 < (ln : Int)) || decide (40 < (lc : Int)) || decide (60 < (ld : Int))) = great20B ln lc ld) := by
    have e1 : decide (20 < (ln : Int)) = decide (20 < ln) := by rw [Bool.eq_iff_iff]; simp; omega
    have e2 : decide (40 < (lc : Int)) = decide (40 < lc) := by rw [Bool.eq_iff_iff]; simp; omega
    have e3 : decide (60 < (ld : Int)) = decide (60 < ld) := by rw [Bool.eq_iff_iff]; simp; omega
    rw [Hid, e1, e2, e3]; rfl
  cases q1 : decide (20 < (ln : Int)) <;> cases q2 : decide (40 < (lc : Int)) <;> cases q3 : decide (60 < (ld : Int)) <;> rw [q1, q2, q3] at F
  all_goals
    go_enter Try.func21, Try.ntmps21
    go_wp2_with fail
    go_ret
    refine ⟨?_, rfl⟩
    rw [← F.out]
    rfl

def endsR (p : Pl) (c : Int) : Int × Int × Int := if validP p ≠ 0 then (0, 0, 1) else if c < 0 ∨ 2 * (p.cs.length : Int) ≤ c then (0, 0, 2) else ((chEnds p.cs c).1, (chEnds p.cs c).2, 0)
set_option maxRecDepth 100000 in
set_option maxHeartbeats 2000000 in
theorem Ends_any (p : Pl) (An Ac : Option Addr) (cn cc : Nat) (c : Int) (w : World) (hl : p.ns.length ≤ 1000000) (hl2 : p.cs.length ≤ 1000000) (hwf : WfP p) (h : IsPlan w An Ac p) :
    Calls Try.prog 22 #[.agg #[.slice An p.ns.length cn, .slice Ac p.cs.length cc], .int .i64 c] w fun e w' =>
      e = .returned (.tuple #[.int .i64 (endsR p c).1, .int .i64 (endsR p c).2.1, .int .i64 (endsR p c).2.2]) ∧ Below w.heap.size w w' := by
  obtain ⟨ns, cs⟩ := p
  simp only at hl hl2 ⊢
  obtain ⟨w1, hw1⟩ : ∃ w1 : World, w.alloc (.cells #[.slice An ns.length cn, .slice Ac cs.length cc] 40) = w1 := ⟨_, rfl⟩
  have s0 : w1.cell? ⟨w.heap.size, 0, none⟩ = some (.slice An ns.length cn) := by rw [← hw1]; simp [go_sem]
  have s1 : w1.cell? ⟨w.heap.size, 1, none⟩ = some (.slice Ac cs.length cc) := by rw [← hw1]; simp [go_sem]
  have sz1 : w.heap.size < w1.heap.size := by rw [← hw1]; simp
  have BW : Hid (Below w.heap.size w w1) := by rw [← hw1]; exact (Below.refl _ _).alloc (Nat.le_refl _) _
  have H1 := Lib.hid (h.below (Nat.le_refl _) BW.out)
  have HC := Lib.hid (gvalid_any ⟨ns, cs⟩ An Ac cn cc w1 hl hl2 hwf H1.out)
  have HW1 := Lib.hid hw1
  clear hw1 h hwf
  go_enter Try.func22, Try.ntmps22
  go_wp2_with fail
  rw [HW1.out]
  refine HC.out.mono ?_
  rintro e w2 ⟨rfl, bel⟩
  have B2 := Lib.hid bel
  have c0 := (bel.cell (p := ⟨w.heap.size, 0, none⟩) sz1).trans s0
  have c1 := (bel.cell (p := ⟨w.heap.size, 1, none⟩) sz1).trans s1
  have BF : Hid (Below w.heap.size w w2) := BW.out.trans (bel.mono BW.out.size)
  have hq : IntKind.i64.wrap (2 * (cs.length : Int)) = 2 * (cs.length : Int) := IntWalk.i64_in _ (by omega)
  clear bel HC s0 s1 HW1
  cases hv : validP ⟨ns, cs⟩ == 0 with
  | false =>
    have F : Hid (endsR ⟨ns, cs⟩ c = (0, 0, 1)) := by rw [Hid]; unfold endsR; rw [if_pos (by simpa using hv)]
    generalize validP ⟨ns, cs⟩ = z at *
    go_wp2_with fail
    refine bodyPost_ret (v := .tuple #[.int .i64 0, .int .i64 0, .int .i64 1]) (by simp [results, Try.results22, go_sem]) rfl ?_
    exact ⟨by rw [F.out], BF.out⟩
  | true =>
    have hv0 : validP ⟨ns, cs⟩ = 0 := by simpa using hv
    rw [hv0]
    clear hv
    by_cases hr : c < 0 ∨ 2 * (cs.length : Int) ≤ c
    · have F : Hid (endsR ⟨ns, cs⟩ c = (0, 0, 2)) := by rw [Hid]; unfold endsR; rw [if_neg (by simp [hv0]), if_pos hr]
      have hr' : c < 0 ∨ (0 ≤ c ∧ 2 * (cs.length : Int) ≤ c) := by omega
      clear hr hv0
      rcases hr' with h1 | ⟨h1, h2⟩
      all_goals
        go_wp2_with fail
        refine bodyPost_ret (v := .tuple #[.int .i64 0, .int .i64 0, .int .i64 2]) (by simp [results, Try.results22, go_sem]) rfl ?_
        exact ⟨by rw [F.out], BF.out⟩
    · have F : Hid (endsR ⟨ns, cs⟩ c = ((chEnds cs c).1, (chEnds cs c).2, 0)) := by rw [Hid]; unfold endsR; rw [if_neg (by simp [hv0]), if_neg hr]
      have h1 : 0 ≤ c := by omega
      have h2 : c < 2 * (cs.length : Int) := by omega
      have HE := Lib.hid (cends_any cs An Ac ns.length cn cc c w2 hl2 ((H1.out.2).below (Nat.le_refl _) B2.out) h1 h2)
      clear hr hv0
      go_wp2_with fail
      refine HE.out.mono ?_
      rintro e w3 ⟨rfl, bel3⟩
      have BF3 : Hid (Below w.heap.size w w3) := BF.out.trans (bel3.mono BF.out.size)
      clear bel3
      go_wp2_with fail
      refine bodyPost_ret (v := .tuple #[.int .i64 (chEnds cs c).1, .int .i64 (chEnds cs c).2, .int .i64 0]) (by simp [results, Try.results22, go_sem]) rfl ?_
      exact ⟨by rw [F.out], BF3.out⟩
end Go.Proofs.Ytlhblaemoejefaa
