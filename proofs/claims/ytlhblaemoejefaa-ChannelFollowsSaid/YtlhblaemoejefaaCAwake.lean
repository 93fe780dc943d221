/- The contract of the law's own awake. -/
import Derived.Test.YtlhblaemoejefaaRingW
import Derived.Test.YtlhblaemoejefaaCAwP
namespace Go.Proofs.Ytlhblaemoejefaa
open Go.RowKit Go.Maps Go.Sort Go.Shelf
set_option linter.unusedVariables false
set_option linter.unusedSimpArgs false

theorem isRec_lit {α : Type} {m : Nat} {c : α → List Value} {d : α} (w : World) (t : TypeId) (xs : List α) (hm : 0 < m) (hc : ∀ x, (c x).length = m) (hx : 0 < xs.length) :
    IsRec m c d (w.alloc (.cells (xs.flatMap c).toArray t)) (some ⟨w.heap.size, 0, none⟩) xs.length xs := by
  refine ⟨rfl, fun h0 => ⟨w.heap.size, 0, rfl, by simp, fun i j hi hj => ?_⟩⟩
  rw [(Blk.new w t _).cell]
  rw [Nat.zero_add, ← flatG_at hc xs i j hi hj]
  simp
theorem ring_lens (n : Nat) : (ringP n).ns.length = n ∧ (ringP n).cs.length = n ∧ (ringL n).length = n ∧ (ringT n).length = n := by simp [ringP, ringL, ringT]
/-- Deps of the circle, in the form that the laws meet. -/
theorem deps_ring (n : Nat) (h : n ≤ 26) (An Ac Al At : Option Addr) (cn cc cl ct : Nat) (w : World) (h1 : IsPlan w An Ac (ringP n)) (h2 : IsRec 1 cI 0 w Al n (ringL n)) (h3 : IsTab w At n (ringT n)) :
    Calls Try.prog 25 #[.agg #[.slice An n cn, .slice Ac n cc], .agg #[.slice Al n cl], .agg #[.slice At n ct]] w (DepsRes (ringP n) (ringL n) (ringT n) w) := by
  obtain ⟨e1, e2, e3, e4⟩ := ring_lens n
  have := deps_any (ringP n) (ringL n) (ringT n) An Ac Al At cn cc cl ct w (by omega) (by omega) (wf_ringP h) (by omega) (wf_ringL h) (by omega) (wf_ringT h) h1 (by rw [e3]; exact h2) (by rw [e4]; exact h3)
  rw [e1, e2, e3, e4] at this
  exact this
set_option maxRecDepth 100000 in
set_option maxHeartbeats 4000000 in
theorem awake20_any (w : World) : Calls Try.prog 12 #[] w fun e w' => e = .returned (.bool true) ∧ Below w.heap.size w w' := by
  have r3 : Hid (Calls Try.prog 24 #[.int .i64 3] w (RingPost 3 w)) := ring_any 3 w (by omega) (by omega)
  go_enter Try.func12, Try.ntmps12
  go_wp2_with fail
  refine r3.out.mono ?_
  rintro e w1 ⟨An, cn, Ac, cc, Al, cl, At, ct, rfl, hp, hl, ht, bel⟩
  clear r3
  have HP := Lib.hid hp
  have HL := Lib.hid hl
  have HT := Lib.hid ht
  have BE := Lib.hid bel
  clear hp hl ht bel
  obtain ⟨w2, hw2⟩ : ∃ w2 : World, ((w1.alloc (.cells #[.slice An 3 cn, .slice Ac 3 cc] 40)).alloc (.cells #[.slice Al 3 cl] 51)).alloc (.cells #[.slice At 3 ct] 54) = w2 := ⟨_, rfl⟩
  have B12 : Below w1.heap.size w1 w2 := by rw [← hw2]; exact (((Below.refl _ _).alloc (Nat.le_refl _) _).alloc (by simp) _).alloc (by simp; omega) _
  have HC := Lib.hid (deps_ring 3 (by omega) An Ac Al At cn cc cl ct w2 (HP.out.below (Nat.le_refl _) B12) (HL.out.below (Nat.le_refl _) B12) (HT.out.below (Nat.le_refl _) B12))
  have B2 : Hid (Below w.heap.size w w2) := BE.out.trans (B12.mono BE.out.size)
  have HW2 := Lib.hid hw2
  clear hw2 B12
  go_wp2_with fail
  rw [HW2.out]
  refine HC.out.mono ?_
  rintro e w3 ⟨bel3, ⟨hbad, _⟩ | ⟨_, v, rfl, own3⟩⟩
  · rw [order3, table3] at hbad; cases hbad
  rw [deps3] at own3
  obtain ⟨a3, c3, hv3, hle3, rec3, _⟩ := rec_of_own (d := d0) (c := cD) (fun _ => rfl) (by decide) own3
  subst hv3
  have l3 : ring3D.length = 3 := rfl
  rw [l3] at hle3 rec3 own3
  obtain ⟨g3, cap3, hsome⟩ := ownsRow_pos (by omega) own3
  injection hsome with hsome _ hcap
  subst hsome
  have R3 := Lib.hid rec3
  have B3 : Hid (Below w.heap.size w w3) := B2.out.trans (bel3.mono B2.out.size)
  have RT := Lib.hid (isRec_take rec3 2 (by omega))
  have h3i : (2 : Int) ≤ (c3 : Int) := by omega
  clear own3 bel3 HW2 HC B2 hle3 rec3 hcap cap3
  have RL : Hid (IsRec 3 cD d0 (w3.alloc (.cells (ring3D.flatMap cD).toArray 28)) (some ⟨w3.heap.size, 0, none⟩) 3 ring3D) := isRec_lit (m := 3) (c := cD) (d := d0) w3 28 ring3D (by decide) (fun _ => rfl) (by decide)
  have R3' : Hid (IsRec 3 cD d0 (w3.alloc (.cells (ring3D.flatMap cD).toArray 28)) (some ⟨g3, 0, none⟩) 3 ring3D) := R3.out.alloc _
  have EQ := Lib.hid (eqD_any ring3D ring3D (some ⟨g3, 0, none⟩) (some ⟨w3.heap.size, 0, none⟩) c3 3 (w3.alloc (.cells (ring3D.flatMap cD).toArray 28)) (by decide) (by decide) R3'.out RL.out)
  go_wp2_with fail
  refine EQ.out.mono ?_
  rintro e w4 ⟨rfl, bel4⟩
  have B34 : Hid (Below w3.heap.size w3 w4) := ((Below.refl _ _).alloc (Nat.le_refl _) _).trans (bel4.mono (by simp))
  have C3 := Lib.hid (cycle_any ring3D (some ⟨g3, 0, none⟩) c3 w4 (by decide) wf_ring3 (R3.out.below (Nat.le_refl _) B34.out))
  clear bel4 EQ RL R3'
  go_wp2_with fail
  refine C3.out.mono ?_
  rintro e w5 ⟨v5, rfl, own5, bel5⟩
  obtain ⟨a5, c5, hv5⟩ := own_shape own5
  rw [cyc3] at hv5
  subst hv5
  have B35 : Hid (Below w3.heap.size w3 w5) := B34.out.trans (bel5.mono B34.out.size)
  clear own5 bel5 C3
  have CT := Lib.hid (cycle_any (ring3D.take 2) (some ⟨g3, 0, none⟩) c3 w5 (by decide) (fun d hd => wf_ring3 d (List.mem_of_mem_take hd)) (RT.out.below (Nat.le_refl _) B35.out))
  go_wp2_with fail
  refine CT.out.mono ?_
  rintro e w6 ⟨v6, rfl, own6, bel6⟩
  obtain ⟨a6, c6, hv6⟩ := own_shape own6
  rw [cyc2] at hv6
  subst hv6
  have F : Hid (Below w.heap.size w w6) := B3.out.trans ((B35.out.trans (bel6.mono B35.out.size)).mono B3.out.size)
  clear own6 bel6 CT
  go_wp2_with fail
  go_ret
  exact ⟨rfl, F.out⟩
end Go.Proofs.Ytlhblaemoejefaa
