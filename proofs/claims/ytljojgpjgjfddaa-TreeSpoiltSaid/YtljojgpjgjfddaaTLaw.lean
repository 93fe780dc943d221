/- The contracts of the law's own small, fits and awake. -/
import Derived.Test.YtljojgpjgjfddaaTMkB
import Derived.Test.YtljojgpjgjfddaaTSame
import Derived.Test.YtljojgpjgjfddaaTFits
import Derived.Test.YtljojgpjgjfddaaR14b
namespace Go.Proofs.Ytljojgpjgjfddaa
open Go.RowKit Go.Maps Go.Sort Go.Shelf
set_option linter.unusedVariables false
set_option linter.unusedSimpArgs false

def smallB (ln lc lv lm : Nat) : Bool := !(decide (8 < ln) || decide (12 < lc) || decide (20 < lv) || decide (20 < lm))
def smallZ (ln lc lv lm : Nat) : Int := if smallB ln lc lv lm = true then 1 else 0
theorem small23_any (An Ac Al Am : Option Addr) (ln lc lv lm cn cc cl cm : Nat) (w : World) :
    Calls Try.prog 27 #[.agg #[.slice An ln cn, .slice Ac lc cc], .slice Al lv cl, .slice Am lm cm] w fun e w' => e = .returned (.int .i64 (smallZ ln lc lv lm)) ∧ w.alloc (.cells #[.slice An ln cn, .slice Ac lc cc] 25) = w' := by
  have F : Hid ((decide (8 < (ln : Int)) || decide (12 < (lc : Int)) || decide (20 < (lv : Int)) || decide (20 < (lm : Int))) = !(smallB ln lc lv lm)) := by
    have e1 : decide (8 < (ln : Int)) = decide (8 < ln) := by rw [Bool.eq_iff_iff]; simp; omega
    have e2 : decide (12 < (lc : Int)) = decide (12 < lc) := by rw [Bool.eq_iff_iff]; simp; omega
    have e3 : decide (20 < (lv : Int)) = decide (20 < lv) := by rw [Bool.eq_iff_iff]; simp; omega
    have e4 : decide (20 < (lm : Int)) = decide (20 < lm) := by rw [Bool.eq_iff_iff]; simp; omega
    rw [Hid, e1, e2, e3, e4]; unfold smallB; rw [Bool.not_not]
  have Z : Hid (∀ b, smallB ln lc lv lm = b → smallZ ln lc lv lm = if b = true then 1 else 0) := fun b h => by unfold smallZ; rw [h]
  cases q1 : decide (8 < (ln : Int)) <;> cases q2 : decide (12 < (lc : Int)) <;> cases q3 : decide (20 < (lv : Int)) <;> cases q4 : decide (20 < (lm : Int)) <;> rw [q1, q2, q3, q4] at F
  all_goals
    first
      | (have F2 : smallB ln lc lv lm = true := by have := F.out; revert this; cases smallB ln lc lv lm <;> simp
         have Z2 := Lib.hid (Z.out _ F2)
         clear F2)
      | (have F2 : smallB ln lc lv lm = false := by have := F.out; revert this; cases smallB ln lc lv lm <;> simp
         have Z2 := Lib.hid (Z.out _ F2)
         clear F2)
    clear F Z
    go_enter Try.func27, Try.ntmps27
    go_wp2_with fail
    go_ret
    refine ⟨?_, rfl⟩
    rw [Z2.out]
    rfl
set_option maxHeartbeats 1000000 in
theorem fits23_any (p : Pl) (lv : List Int) (An Ac Al : Option Addr) (cn cc cl : Nat) (w : World) (hl : p.ns.length ≤ 1000000) (hl2 : p.cs.length ≤ 1000000) (hwf : WfP p) (hlv : lv.length ≤ 1000000) (hwl : WfI lv) (h : IsPlan w An Ac p) (h2 : IsRec 1 cI 0 w Al lv.length lv) :
    Calls Try.prog 31 #[.agg #[.slice An p.ns.length cn, .slice Ac p.cs.length cc], .agg #[.slice Al lv.length cl]] w fun e w' => e = .returned (.bool (orderB p lv)) ∧ Below w.heap.size w w' := by
  obtain ⟨ns, cs⟩ := p
  simp only at hl hl2 ⊢
  obtain ⟨w1, hw1⟩ : ∃ w1 : World, (w.alloc (.cells #[.slice An ns.length cn, .slice Ac cs.length cc] 25)).alloc (.cells #[.slice Al lv.length cl] 57) = w1 := ⟨_, rfl⟩
  have s0 : w1.cell? ⟨w.heap.size, 0, none⟩ = some (.slice An ns.length cn) := by rw [← hw1]; simp [go_sem]
  have s1 : w1.cell? ⟨w.heap.size, 1, none⟩ = some (.slice Ac cs.length cc) := by rw [← hw1]; simp [go_sem]
  have s2 : w1.cell? ⟨w.heap.size + 1, 0, none⟩ = some (.slice Al lv.length cl) := by rw [← hw1]; simp [go_sem]
  have sz1 : w1.heap.size = w.heap.size + 2 := by rw [← hw1]; simp
  have BW0 : Hid (Below w.heap.size w w1) := by rw [Hid, ← hw1]; exact ((Below.refl _ _).alloc (Nat.le_refl _) _).alloc (by simp) _
  have H1 := Lib.hid (h.below (Nat.le_refl _) BW0.out)
  have L1 := Lib.hid (h2.below (Nat.le_refl _) BW0.out)
  have VC := Lib.hid (r14valid_any ⟨ns, cs⟩ An Ac cn cc w1 hl hl2 H1.out)
  have HW1 := Lib.hid hw1
  clear h h2 hw1 hwf
  cases hv : validP ⟨ns, cs⟩ == 0 with
  | false =>
    have FIN : Hid (orderB ⟨ns, cs⟩ lv = false) := ob1 (by simpa using hv)
    generalize validP ⟨ns, cs⟩ = z at *
    go_enter Try.func31, Try.ntmps31
    go_wp2_with fail
    rw [HW1.out]
    go_wp2_with fail
    refine VC.out.mono ?_
    rintro e w2 ⟨rfl, bel⟩
    have BF := Lib.hid (BW0.out.trans (bel.mono BW0.out.size))
    clear bel
    go_wp2_with fail
    go_ret
    exact ⟨by rw [FIN.out]; rfl, BF.out⟩
  | true =>
    have HV : Hid (validP ⟨ns, cs⟩ = 0) := by rw [Hid]; simpa using hv
    have hwl' := Lib.hid hwl
    rw [HV.out] at VC
    clear hv
    go_enter Try.func31, Try.ntmps31
    go_wp2_with fail
    rw [HW1.out]
    go_wp2_with fail
    refine VC.out.mono ?_
    rintro e w2 ⟨rfl, bel⟩
    have B2 := Lib.hid bel
    have u0 := (bel.cell (p := ⟨w.heap.size, 0, none⟩) (by show w.heap.size < _; omega)).trans s0
    have u1 := (bel.cell (p := ⟨w.heap.size, 1, none⟩) (by show w.heap.size < _; omega)).trans s1
    have u2 := (bel.cell (p := ⟨w.heap.size + 1, 0, none⟩) (by show w.heap.size + 1 < _; omega)).trans s2
    have FC := Lib.hid (fits17_any ns cs lv An Ac Al cn cc cl w2 HV.out hlv hwl'.out (H1.out.below (Nat.le_refl _) bel) (L1.out.below (Nat.le_refl _) bel))
    clear bel s0 s1 s2
    go_wp2_with fail
    refine FC.out.mono ?_
    rintro e w3 ⟨rfl, bel3⟩
    have BF : Hid (Below w.heap.size w w3) := BW0.out.trans ((B2.out.trans (bel3.mono B2.out.size)).mono BW0.out.size)
    clear bel3
    go_wp2_with fail
    go_ret
    exact ⟨rfl, BF.out⟩
def awNs : List Nd := [⟨⟨#[97]⟩, true, 2⟩, ⟨⟨#[98]⟩, true, 2⟩, ⟨⟨#[99]⟩, true, 2⟩]
def awCs : List Cb := [⟨0, 0, 1, 0, 1, 1⟩, ⟨1, 1, 2, 0, 1, 1⟩]
def awT : Tr := ⟨0, [[0], [1], []], [1, 2]⟩
theorem aw_err : tErr ⟨awNs, awCs⟩ [1, 0, 1] [2, 1] 0 = 0 := by decide +kernel
theorem aw_del : delM [2, 1] = [1, 2] := by
  unfold delM
  rw [mergeSort_of_perm_i (show List.Perm [2, 1] [1, 2] from List.Perm.swap 1 2 [])]
  exact List.mergeSort_of_pairwise (by decide)
theorem aw_out : (List.range 3).map (makeOut awNs awCs [1, 0, 1] [2, 1] 0) = [[0], [1], []] := by decide +kernel
theorem aw_mk : mkT awNs awCs [1, 0, 1] [2, 1] 0 = awT := by
  unfold mkT
  rw [aw_del]
  show (⟨0, (List.range 3).map (makeOut awNs awCs [1, 0, 1] [2, 1] 0), [1, 2]⟩ : Tr) = awT
  rw [aw_out]
  rfl
theorem aw_cop : copiesB awNs awCs awT = 2 := by decide +kernel
theorem aw_wf : WfP ⟨awNs, awCs⟩ := by
  refine ⟨?_, ?_⟩
  · intro x hx
    simp only [awNs, List.mem_cons, List.not_mem_nil, or_false] at hx
    rcases hx with rfl | rfl | rfl <;> exact ⟨by decide, by decide⟩
  · intro x hx
    simp only [awCs, List.mem_cons, List.not_mem_nil, or_false] at hx
    rcases hx with rfl | rfl <;> exact ⟨by decide, by decide, by decide, by decide, by decide, by decide⟩
theorem aw_small : SmallT awT := ⟨by decide, by decide, by decide⟩
theorem isRec_litT {α : Type} {m : Nat} {c : α → List Value} {d : α} (w : World) (t : TypeId) (xs : List α) (hm : 0 < m) (hc : ∀ x, (c x).length = m) (hx : 0 < xs.length) :
    IsRec m c d (w.alloc (.cells (xs.flatMap c).toArray t)) (some ⟨w.heap.size, 0, none⟩) xs.length xs := by
  refine ⟨rfl, fun h0 => ⟨w.heap.size, 0, rfl, by simp, fun i j hi hj => ?_⟩⟩
  rw [(Blk.new w t _).cell]
  rw [Nat.zero_add, ← flatG_at hc xs i j hi hj]
  simp
def PostT (x : Tr) (w : World) (e : Ending) (w' : World) : Prop :=
  ∃ aO aD cO cD, e = .returned (.tuple #[trV x aO aD cO cD, .int .i64 0]) ∧ (∀ w'', AgreeF w.heap.size w' w'' → IsTree w'' aO aD x) ∧ Below w.heap.size w w'
theorem PostT.tree {x : Tr} {w w' : World} {aO aD : Option Addr} (h : ∀ w'', AgreeF w.heap.size w' w'' → IsTree w'' aO aD x) : IsTree w' aO aD x := h w' (AgreeF.refl _ _)
/-- A tree in a variable. -/
def RG (x : Tr) (w5 : World) (s15 s16 : Value) (wx : World) : Prop :=
  ∃ bX aO aD cO cD, s15 = .pointer (some ⟨bX, 0, none⟩) ∧ s16 = .int .i64 0 ∧ Below w5.heap.size w5 wx ∧ Blk wx bX 61 #[.int .i64 x.src, .slice aO x.out.length cO, .slice aD x.del.length cD] ∧ IsTree wx aO aD x
theorem rg_mk {x : Tr} {w5 wx : World} {bX : Nat} {aO aD : Option Addr} {cO cD : Nat} (hX : Blk wx bX 61 #[.int .i64 x.src, .slice aO x.out.length cO, .slice aD x.del.length cD]) (hB : Below w5.heap.size w5 wx) (hT : IsTree wx aO aD x) : RG x w5 (.pointer (some ⟨bX, 0, none⟩)) (.int .i64 0) wx := ⟨bX, aO, aD, cO, cD, rfl, rfl, hB, hX, hT⟩
/-- Make where there is no error. -/
theorem mk_ok (ns : List Nd) (cs : List Cb) (lv ms : List Int) (s : Nat) (An Ac Al Am : Option Addr) (cn cc cl cm : Nat) (w : World) (hl : ns.length ≤ 1000000) (hl2 : cs.length ≤ 1000000) (hwf : WfP ⟨ns, cs⟩) (hlv : lv.length ≤ 1000000) (hwl : WfI lv) (hms : ms.length ≤ 1000000) (hwm : WfI ms)
    (h : IsPlan w An Ac ⟨ns, cs⟩) (h2 : IsRec 1 cI 0 w Al lv.length lv) (h3 : IsRec 1 cI 0 w Am ms.length ms) (he : tErr ⟨ns, cs⟩ lv ms s = 0) :
    Calls Try.prog 28 #[.agg #[.slice An ns.length cn, .slice Ac cs.length cc], .agg #[.slice Al lv.length cl], .int .i64 s, .slice Am ms.length cm] w fun e w' =>
      PostT (mkT ns cs lv ms s) w e w' :=
  (tmake_any ns cs lv ms s An Ac Al Am cn cc cl cm w hl hl2 hwf hlv hwl hms hwm h h2 h3).mono fun e w' h => by
    obtain ⟨hb, ⟨hne, _⟩ | ⟨_, k, hk, _, aO, aD, cO, cD, rfl, ht⟩⟩ := h
    · exact absurd he hne
    · have : s = k := by omega
      subst this
      exact ⟨aO, aD, cO, cD, rfl, ht, hb⟩
theorem aw_make (An Ac Al Am : Option Addr) (w : World) (h : IsPlan w An Ac ⟨awNs, awCs⟩) (h2 : IsRec 1 cI 0 w Al 3 [1, 0, 1]) (h3 : IsRec 1 cI 0 w Am 2 [2, 1]) :
    Calls Try.prog 28 #[.agg #[.slice An 3 3, .slice Ac 2 2], .agg #[.slice Al 3 3], .int .i64 0, .slice Am 2 2] w fun e w' =>
      ∃ aO aD cO cD, e = .returned (.tuple #[.agg #[.int .i64 0, .slice aO 3 cO, .slice aD 2 cD], .int .i64 0]) ∧ IsTree w' aO aD awT ∧ Below w.heap.size w w' := by
  have := mk_ok awNs awCs [1, 0, 1] [2, 1] 0 An Ac Al Am 3 2 3 2 w (by decide) (by decide) aw_wf (by decide) (by intro x hx; simp only [List.mem_cons, List.not_mem_nil, or_false] at hx; rcases hx with rfl | rfl | rfl <;> decide) (by decide) (by intro x hx; simp only [List.mem_cons, List.not_mem_nil, or_false] at hx; rcases hx with rfl | rfl <;> decide) h h2 h3 aw_err
  rw [aw_mk] at this
  refine this.mono fun e w' h => ?_
  obtain ⟨aO, aD, cO, cD, he, ht, hb⟩ := h
  exact ⟨aO, aD, cO, cD, he, PostT.tree ht, hb⟩
set_option maxRecDepth 100000 in
set_option maxHeartbeats 4000000 in
theorem awake23_any (w : World) : Calls Try.prog 26 #[] w fun e w' => e = .returned (.bool true) ∧ Below w.heap.size w w' := by
  obtain ⟨w1, hw1⟩ : ∃ w1 : World, w.alloc (.cells (awNs.flatMap cN).toArray 105) = w1 := ⟨_, rfl⟩
  obtain ⟨w2, hw2⟩ : ∃ w2 : World, w1.alloc (.cells (awCs.flatMap cC).toArray 73) = w2 := ⟨_, rfl⟩
  obtain ⟨w3, hw3⟩ : ∃ w3 : World, w2.alloc (.cells #[.slice (some ⟨w.heap.size, 0, none⟩) 3 3, .slice (some ⟨w.heap.size + 1, 0, none⟩) 2 2] 25) = w3 := ⟨_, rfl⟩
  obtain ⟨w4, hw4⟩ : ∃ w4 : World, w3.alloc (.cells #[.int .i64 1, .int .i64 0, .int .i64 1] 3) = w4 := ⟨_, rfl⟩
  obtain ⟨w5, hw5⟩ : ∃ w5 : World, w4.alloc (.cells #[.int .i64 2, .int .i64 1] 3) = w5 := ⟨_, rfl⟩
  have z1 : w1.heap.size = w.heap.size + 1 := by rw [← hw1]; simp
  have z2 : w2.heap.size = w.heap.size + 2 := by rw [← hw2]; simp [z1]
  have z3 : w3.heap.size = w.heap.size + 3 := by rw [← hw3]; simp [z2]
  have z4 : w4.heap.size = w.heap.size + 4 := by rw [← hw4]; simp [z3]
  have z5 : w5.heap.size = w.heap.size + 5 := by rw [← hw5]; simp [z4]
  have P5 : Hid (IsPlan w5 (some ⟨w.heap.size, 0, none⟩) (some ⟨w.heap.size + 1, 0, none⟩) ⟨awNs, awCs⟩) := by
    have h1 := isRec_litT (m := 3) (c := cN) (d := nd0) w 105 awNs (by decide) (fun _ => rfl) (by decide)
    have h2 := isRec_litT (m := 6) (c := cC) (d := cb0) w1 73 awCs (by decide) (fun _ => rfl) (by decide)
    rw [hw1] at h1
    rw [hw2, z1] at h2
    have h1' := ((((h1.alloc (.cells (awCs.flatMap cC).toArray 73)).alloc (.cells #[.slice (some ⟨w.heap.size, 0, none⟩) 3 3, .slice (some ⟨w.heap.size + 1, 0, none⟩) 2 2] 25)).alloc (.cells #[.int .i64 1, .int .i64 0, .int .i64 1] 3)).alloc (.cells #[.int .i64 2, .int .i64 1] 3))
    have h2' := ((h2.alloc (.cells #[.slice (some ⟨w.heap.size, 0, none⟩) 3 3, .slice (some ⟨w.heap.size + 1, 0, none⟩) 2 2] 25)).alloc (.cells #[.int .i64 1, .int .i64 0, .int .i64 1] 3)).alloc (.cells #[.int .i64 2, .int .i64 1] 3)
    rw [hw2, hw3, hw4, hw5] at h1'
    rw [hw3, hw4, hw5] at h2'
    exact ⟨h1', h2'⟩
  have L5 : Hid (IsRec 1 cI 0 w5 (some ⟨w.heap.size + 1 + 1 + 1, 0, none⟩) 3 [1, 0, 1]) := by
    have h1 := (isRec_litT (m := 1) (c := cI) (d := (0 : Int)) w3 3 [1, 0, 1] (by decide) (fun _ => rfl) (by decide)).alloc (.cells #[.int .i64 2, .int .i64 1] 3)
    rw [z3] at h1
    exact hw5 ▸ hw4 ▸ h1
  have M5 : Hid (IsRec 1 cI 0 w5 (some ⟨w.heap.size + 1 + 1 + 1 + 1, 0, none⟩) 2 [2, 1]) := by
    have h1 := isRec_litT (m := 1) (c := cI) (d := (0 : Int)) w4 3 [2, 1] (by decide) (fun _ => rfl) (by decide)
    rw [z4] at h1
    exact hw5 ▸ h1
  have BP : Hid (Blk w5 (w.heap.size + 1 + 1) 25 #[.slice (some ⟨w.heap.size, 0, none⟩) 3 3, .slice (some ⟨w.heap.size + 1, 0, none⟩) 2 2]) := by
    have h1 := ((Blk.new w2 25 #[.slice (some ⟨w.heap.size, 0, none⟩) 3 3, .slice (some ⟨w.heap.size + 1, 0, none⟩) 2 2]).alloc (.cells #[.int .i64 1, .int .i64 0, .int .i64 1] 3)).alloc (.cells #[.int .i64 2, .int .i64 1] 3)
    rw [hw3, hw4, hw5, z2] at h1
    exact h1
  have B5 : Hid (Below w.heap.size w w5) := by
    rw [Hid, ← hw5, ← hw4, ← hw3, ← hw2, ← hw1]
    exact (((((Below.refl _ _).alloc (Nat.le_refl _) _).alloc (by simp) _).alloc (by simp; omega) _).alloc (by simp; omega) _).alloc (by simp; omega) _
  have HW1 := Lib.hid hw1
  have HW2 := Lib.hid hw2
  have HW3 := Lib.hid hw3
  have HW4 := Lib.hid hw4
  have HW5 := Lib.hid hw5
  have Z5 := Lib.hid z5
  clear hw1 hw2 hw3 hw4 hw5 z1 z2 z3 z4 z5
  go_enter Try.func26, Try.ntmps26
  go_wp2_with fail
  have AM := aw_make (some ⟨w.heap.size, 0, none⟩) (some ⟨w.heap.size + 1, 0, none⟩) (some ⟨w.heap.size + 1 + 1 + 1, 0, none⟩) (some ⟨w.heap.size + 1 + 1 + 1 + 1, 0, none⟩) w5 P5.out L5.out M5.out
  rw [← HW5.out, ← HW4.out, ← HW3.out, ← HW2.out, ← HW1.out] at AM
  refine (show Calls _ _ _ _ _ from AM).mono ?_
  rintro e w6 ⟨aO, aD, cO, cD, rfl, ht, bel6⟩
  rw [HW1.out, HW2.out, HW3.out, HW4.out, HW5.out] at bel6
  have z5 := Z5.out
  have z6 := bel6.size
  have B6 : Hid (Below w.heap.size w w6) := B5.out.trans (bel6.mono (by omega))
  have BP6 : Hid (Blk w6 (w.heap.size + 1 + 1) 25 #[.slice (some ⟨w.heap.size, 0, none⟩) 3 3, .slice (some ⟨w.heap.size + 1, 0, none⟩) 2 2]) := BP.out.below bel6 (by omega)
  have P6 := Lib.hid (P5.out.below (Nat.le_refl _) bel6)
  obtain ⟨w7, hw7⟩ : ∃ w7 : World, w6.alloc (.cells #[.int .i64 0, .slice aO 3 cO, .slice aD 2 cD] 61) = w7 := ⟨_, rfl⟩
  obtain ⟨w8, hw8⟩ : ∃ w8 : World, w7.alloc (.cells #[.int .i64 0] 3) = w8 := ⟨_, rfl⟩
  obtain ⟨w9, hw9⟩ : ∃ w9 : World, w8.alloc (.cells #[.int .i64 1] 3) = w9 := ⟨_, rfl⟩
  obtain ⟨wA, hwA⟩ : ∃ wA : World, w9.alloc (.cells #[.slice (some ⟨w6.heap.size + 1, 0, none⟩) 1 1, .slice (some ⟨w6.heap.size + 1 + 1, 0, none⟩) 1 1, .slice none 0 0] 35) = wA := ⟨_, rfl⟩
  obtain ⟨wB, hwB⟩ : ∃ wB : World, wA.alloc (.cells #[.int .i64 1, .int .i64 2] 3) = wB := ⟨_, rfl⟩
  have y7 : w7.heap.size = w6.heap.size + 1 := by rw [← hw7]; simp
  have y8 : w8.heap.size = w6.heap.size + 2 := by rw [← hw8]; simp [y7]
  have y9 : w9.heap.size = w6.heap.size + 3 := by rw [← hw9]; simp [y8]
  have yA : wA.heap.size = w6.heap.size + 4 := by rw [← hwA]; simp [y9]
  have yB : wB.heap.size = w6.heap.size + 5 := by rw [← hwB]; simp [yA]
  have B6B : Hid (Below w6.heap.size w6 wB) := by
    rw [Hid, ← hwB, ← hwA, ← hw9, ← hw8, ← hw7]
    exact (((((Below.refl _ _).alloc (Nat.le_refl _) _).alloc (by simp) _).alloc (by simp; omega) _).alloc (by simp; omega) _).alloc (by simp; omega) _
  have T1 : Hid (IsTree wB aO aD awT) := ht.below (Nat.le_refl _) B6B.out
  have T2 : Hid (IsTree wB (some ⟨w6.heap.size + 1 + 1 + 1, 0, none⟩) (some ⟨w6.heap.size + 1 + 1 + 1 + 1, 0, none⟩) awT) := by
    have r0 := (((isRec_litT (m := 1) (c := cI) (d := (0 : Int)) w7 3 [0] (by decide) (fun _ => rfl) (by decide)).alloc (.cells #[.int .i64 1] 3)).alloc (.cells #[.slice (some ⟨w6.heap.size + 1, 0, none⟩) 1 1, .slice (some ⟨w6.heap.size + 1 + 1, 0, none⟩) 1 1, .slice none 0 0] 35)).alloc (.cells #[.int .i64 1, .int .i64 2] 3)
    have r1 := ((isRec_litT (m := 1) (c := cI) (d := (0 : Int)) w8 3 [1] (by decide) (fun _ => rfl) (by decide)).alloc (.cells #[.slice (some ⟨w6.heap.size + 1, 0, none⟩) 1 1, .slice (some ⟨w6.heap.size + 1 + 1, 0, none⟩) 1 1, .slice none 0 0] 35)).alloc (.cells #[.int .i64 1, .int .i64 2] 3)
    have r2 := isRec_litT (m := 1) (c := cI) (d := (0 : Int)) wA 3 [1, 2] (by decide) (fun _ => rfl) (by decide)
    have bl := (Blk.new w9 35 #[.slice (some ⟨w6.heap.size + 1, 0, none⟩) 1 1, .slice (some ⟨w6.heap.size + 1 + 1, 0, none⟩) 1 1, .slice none 0 0]).alloc (.cells #[.int .i64 1, .int .i64 2] 3)
    rw [hwA, hwB, y9] at bl
    have r0' : IsRec 1 cI 0 wB (some ⟨w6.heap.size + 1, 0, none⟩) 1 [0] := by rw [← y7]; exact hwB ▸ hwA ▸ hw9 ▸ hw8 ▸ r0
    have r1' : IsRec 1 cI 0 wB (some ⟨w6.heap.size + 1 + 1, 0, none⟩) 1 [1] := by
      have e : w6.heap.size + 1 + 1 = w8.heap.size := by omega
      rw [e]; exact hwB ▸ hwA ▸ hw9 ▸ r1
    have r2' : IsRec 1 cI 0 wB (some ⟨w6.heap.size + 1 + 1 + 1 + 1, 0, none⟩) 2 [1, 2] := by
      have e : w6.heap.size + 1 + 1 + 1 + 1 = wA.heap.size := by omega
      rw [e]; exact hwB ▸ r2
    refine ⟨⟨rfl, fun _ => ⟨w6.heap.size + 1 + 1 + 1, 0, rfl, by omega, fun i hi => ?_⟩⟩, r2'⟩
    have hi3 : i < 3 := hi
    have hc : wB.cell? ⟨w6.heap.size + 1 + 1 + 1, 0 + i, none⟩ = (#[Value.slice (some ⟨w6.heap.size + 1, 0, none⟩) 1 1, .slice (some ⟨w6.heap.size + 1 + 1, 0, none⟩) 1 1, .slice none 0 0])[0 + i]? := bl.cell (0 + i)
    rw [hc]
    match i, hi3 with
    | 0, _ => exact ⟨_, 1, r0', rfl⟩
    | 1, _ => exact ⟨_, 1, r1', rfl⟩
    | 2, _ => exact ⟨none, 0, IsRec.nil _, rfl⟩
  have SC := same_any awT awT aO aD (some ⟨w6.heap.size + 1 + 1 + 1, 0, none⟩) (some ⟨w6.heap.size + 1 + 1 + 1 + 1, 0, none⟩) cO cD 3 2 wB aw_small aw_small T1.out T2.out
  have es : sameT awT awT = true := by decide
  rw [es] at SC
  have SCH := Lib.hid SC
  have BT : Hid (Blk wB w6.heap.size 61 #[.int .i64 0, .slice aO 3 cO, .slice aD 2 cD]) := by
    have h1 := ((((Blk.new w6 61 #[.int .i64 0, .slice aO 3 cO, .slice aD 2 cD]).alloc (.cells #[.int .i64 0] 3)).alloc (.cells #[.int .i64 1] 3)).alloc (.cells #[.slice (some ⟨w6.heap.size + 1, 0, none⟩) 1 1, .slice (some ⟨w6.heap.size + 1 + 1, 0, none⟩) 1 1, .slice none 0 0] 35)).alloc (.cells #[.int .i64 1, .int .i64 2] 3)
    rw [hw7, hw8, hw9, hwA, hwB] at h1
    exact h1
  have HW7 := Lib.hid hw7
  have HW8 := Lib.hid hw8
  have HW9 := Lib.hid hw9
  have HWA := Lib.hid hwA
  have HWB := Lib.hid hwB
  have YB := Lib.hid yB
  have ZS := Lib.hid z6
  clear hw7 hw8 hw9 hwA hwB SC ht bel6 es y7 y8 y9 yA yB z5 z6
  go_wp2_with fail
  rw [HW7.out, HW8.out, HW9.out, HWA.out, HWB.out]
  refine (show Calls _ _ _ _ _ from SCH.out).mono ?_
  rintro e wC ⟨rfl, belC⟩
  have yb := YB.out
  have zs := ZS.out
  have z5 := Z5.out
  have BPC := BP6.out.below (B6B.out.trans (belC.mono B6B.out.size)) (by omega)
  have BTC := BT.out.below belC (by omega)
  have p0 : wC.cell? ⟨w.heap.size + 1 + 1, 0, none⟩ = some (.slice (some ⟨w.heap.size, 0, none⟩) 3 3) := BPC.cell 0
  have p1 : wC.cell? ⟨w.heap.size + 1 + 1, 1, none⟩ = some (.slice (some ⟨w.heap.size + 1, 0, none⟩) 2 2) := BPC.cell 1
  have t0 : wC.cell? ⟨w6.heap.size, 0, none⟩ = some (.int .i64 0) := BTC.cell 0
  have t1 : wC.cell? ⟨w6.heap.size, 1, none⟩ = some (.slice aO 3 cO) := BTC.cell 1
  have t2 : wC.cell? ⟨w6.heap.size, 2, none⟩ = some (.slice aD 2 cD) := BTC.cell 2
  have B6C : Below w6.heap.size w6 wC := B6B.out.trans (belC.mono B6B.out.size)
  have BC : Hid (Below w.heap.size w wC) := B6.out.trans (B6C.mono B6.out.size)
  have CC := tcopies_any awNs awCs awT (some ⟨w.heap.size, 0, none⟩) (some ⟨w.heap.size + 1, 0, none⟩) aO aD 3 2 cO cD wC (by decide) (by decide) aw_wf aw_small (P6.out.below (Nat.le_refl _) B6C) (T1.out.below (Nat.le_refl _) belC)
  rw [aw_cop] at CC
  have CCH := Lib.hid CC
  clear CC BPC BTC belC B6C yb zs z5
  go_wp2_with fail
  refine (show Calls _ _ _ _ _ from CCH.out).mono ?_
  rintro e wD ⟨rfl, belD⟩
  have BD : Hid (Below w.heap.size w wD) := BC.out.trans (belD.mono BC.out.size)
  clear belD
  go_wp2_with fail
  go_ret
  exact ⟨rfl, BD.out⟩
end Go.Proofs.Ytljojgpjgjfddaa
