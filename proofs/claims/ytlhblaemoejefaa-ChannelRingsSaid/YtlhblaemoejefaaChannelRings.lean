/- The walk of the law ChannelRings. -/
import Derived.Test.YtlhblaemoejefaaCAwake
import Derived.Test.YtlhblaemoejefaaCRingP
import Derived.Test.YtlhblaemoejefaaCDel
import Derived.Test.YtlhblaemoejefaaFrame
namespace Go.Proofs.Ytlhblaemoejefaa.channelRingsW
open Go.RowKit Go.Maps Go.Sort Go.Shelf
set_option linter.unusedVariables false
set_option maxRecDepth 100000 in
set_option maxHeartbeats 8000000 in
theorem walk (a0 a1 : Int) (w : World) (w0 : (Lit.int .u8 a0).wf = true) (w1 : (Lit.int .u8 a1).wf = true) :
    Calls Try.prog 6 #[.int .u8 a0, .int .u8 a1] w fun e w' => e = .returned (.bool true) ∧ Below w.heap.size w w' := by
  obtain ⟨a00, a01⟩ := bounds_u8 w0
  obtain ⟨a10, a11⟩ := bounds_u8 w1
  clear w0 w1
  obtain ⟨n, rfl⟩ : ∃ n : Nat, a0 = n := ⟨a0.toNat, by omega⟩
  obtain ⟨d, rfl⟩ : ∃ d : Nat, a1 = d := ⟨a1.toNat, by omega⟩
  obtain ⟨m, hm⟩ : ∃ m : Nat, 3 + n % 7 = m := ⟨_, rfl⟩
  obtain ⟨k, hk⟩ : ∃ k : Nat, d % m = k := ⟨_, rfl⟩
  have hm3 : 3 ≤ m := by omega
  have hm9 : m ≤ 9 := by omega
  have hkm : k < m := by rw [← hk]; exact Nat.mod_lt _ (by omega)
  have F := Lib.hid (ring_facts m hm3 hm9)
  have hmi : (3 : Int) + (n : Int) % 7 = (m : Int) := by omega
  have HMI := Lib.hid hmi
  have hdi : (d : Int).tmod (m : Int) = (k : Int) := by rw [← hk, Int.tmod_eq_emod_of_nonneg (by omega)]; simp
  have HDI := Lib.hid hdi
  clear hmi hdi hm hk
  go_enter Try.func6, Try.ntmps6
  go_wp2_with fail
  refine (awake20_any _).mono ?_
  rintro e w1 ⟨rfl, bel⟩
  have B1 := Lib.hid bel
  clear bel
  go_wp2_with fail
  rw [HMI.out]
  clear HMI
  refine (ring_any m w1 (by omega) (by omega)).mono ?_
  rintro e w2 ⟨An, cn, Ac, cc, Al, cl, At, ct, rfl, hp, hl, ht, bel⟩
  have HP := Lib.hid hp
  have HL := Lib.hid hl
  have HT := Lib.hid ht
  have BE : Hid (Below w.heap.size w w2) := B1.out.trans (bel.mono B1.out.size)
  clear hp hl ht bel
  obtain ⟨w3, hw3⟩ : ∃ w3 : World, ((w2.alloc (.cells #[.slice An m cn, .slice Ac m cc] 40)).alloc (.cells #[.slice Al m cl] 51)).alloc (.cells #[.slice At m ct] 54) = w3 := ⟨_, rfl⟩
  have B23 : Below w2.heap.size w2 w3 := by rw [← hw3]; exact (((Below.refl _ _).alloc (Nat.le_refl _) _).alloc (by simp) _).alloc (by simp; omega) _
  have HC := Lib.hid (deps_ring m (by omega) An Ac Al At cn cc cl ct w3 (HP.out.below (Nat.le_refl _) B23) (HL.out.below (Nat.le_refl _) B23) (HT.out.below (Nat.le_refl _) B23))
  have B3 : Hid (Below w.heap.size w w3) := BE.out.trans (B23.mono BE.out.size)
  have HW3 := Lib.hid hw3
  clear hw3 B23
  go_wp2_with fail
  rw [HW3.out]
  refine HC.out.mono ?_
  rintro e w4 ⟨bel4, ⟨hbad, _⟩ | ⟨_, v, rfl, own4⟩⟩
  · rw [F.out.order, F.out.table] at hbad; cases hbad
  rw [F.out.deps] at own4
  have B4 : Hid (Below w.heap.size w w4) := B3.out.trans (bel4.mono B3.out.size)
  have SZ34 := bel4.size
  obtain ⟨a4, c4, hv4, hle4, rec4, _⟩ := rec_of_own (d := d0) (c := cD) (fun _ => rfl) (by decide) own4
  subst hv4
  have hlm := F.out.len
  obtain ⟨g4, cap4, hsome⟩ := ownsRow_pos (by omega) own4
  injection hsome with hsome _ hcap
  subst hsome
  subst hcap
  have OW4 := Lib.hid own4
  have R4 := Lib.hid rec4
  have CY := Lib.hid (cycle_any (ringD m) (some ⟨g4, 0, none⟩) c4 w4 (by omega) F.out.wf rec4)
  have WFE : Hid (WfD ((ringD m).eraseIdx k)) := fun x hx => F.out.wf x (List.mem_of_mem_eraseIdx hx)
  have CYL := F.out.cyc
  have CUT := F.out.cut k hkm
  generalize ringD m = D at *
  rw [hlm] at CY
  clear own4 rec4 bel4 HW3 HC F
  go_wp2_with fail
  refine CY.out.mono ?_
  rintro e w5 ⟨v5, rfl, own5, bel5⟩
  obtain ⟨a5, c5, hv5⟩ := own_shape own5
  rw [CYL] at hv5
  subst hv5
  have B5 : Hid (Below w.heap.size w w5) := B4.out.trans (bel5.mono B4.out.size)
  have OW5 : Hid (w5.ownsRow w3.heap.size 28 3 (.slice (some ⟨g4, 0, none⟩) D.length c4) D.length (D.flatMap cD)) := OW4.out.kept (only_of_below bel5 none) (.inr (by simp [Value.ownBlock]))
  have HD := Lib.hid (delD_any D k g4 c4 w3.heap.size w5 (by omega) (by omega) OW5.out)
  have hk1 : ((k + 1 : Nat) : Int) = (k : Int) + 1 := by omega
  rw [hk1, hlm] at HD
  have hq1 : IntKind.i64.wrap ((k : Int) + 1) = (k : Int) + 1 := IntWalk.i64_in _ (by omega)
  have hm0 : m ≠ 0 := by omega
  have SZ5 := bel5.size
  clear own5 bel5 CY OW4 R4 hk1
  have hdi := HDI.out
  go_wp2_with fail
  refine HD.out.mono ?_
  rintro e w6 ⟨rfl, r6, _, bel6⟩
  have B6 : Hid (Below w.heap.size w w6) := B5.out.trans (bel6.mono B3.out.size)
  have EL : (D.eraseIdx k).length = m - 1 := by rw [List.length_eraseIdx_of_lt (by omega), hlm]
  have CY := Lib.hid (cycle_any (D.eraseIdx k) (some ⟨g4, 0, none⟩) c4 w6 (by omega) WFE.out (by rw [EL]; exact r6))
  rw [EL] at CY
  have CUTH := Lib.hid CUT
  clear r6 bel6 HD OW5 EL CUT hdi
  go_wp2_with fail
  refine CY.out.mono ?_
  rintro e w7 ⟨v7, rfl, own7, bel7⟩
  obtain ⟨a7, c7, hv7⟩ := own_shape own7
  rw [CUTH.out] at hv7
  subst hv7
  have FF : Hid (Below w.heap.size w w7) := B6.out.trans (bel7.mono B6.out.size)
  clear own7 bel7 CY
  go_wp2_with fail
  go_ret
  exact ⟨rfl, FF.out⟩
end Go.Proofs.Ytlhblaemoejefaa.channelRingsW
