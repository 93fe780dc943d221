/- The walk of the law ChannelAcyclic. -/
import Derived.Test.YtlhblaemoejefaaNB
import Derived.Test.YtlhblaemoejefaaCAwake
import Derived.Test.YtlhblaemoejefaaCEnds
import Derived.Test.YtlhblaemoejefaaCAcy
import Derived.Test.YtlhblaemoejefaaCRef1
import Derived.Test.YtlhblaemoejefaaCCycle
namespace Go.Proofs.Ytlhblaemoejefaa
open Go.RowKit Go.Maps Go.Sort Go.Shelf
theorem TurnOk.wf {n : Nat} {cs : List Cb} {lv : List Int} {d : Dp} (h : TurnOk n cs lv d) (hn : n ≤ 16) (hc : cs.length ≤ 32) : WfDp d := by
  obtain ⟨u, v, x, i, i2, hu, hv, hx, hi, hi2, a1, a2, a3, a4, _, _, e, _⟩ := h
  exact ⟨wf_small _ (by omega) (by omega), wf_small _ (by omega) (by omega), wf_small _ (by omega) (by omega)⟩
theorem Net.wfd {ns : List Nd} {cs : List Cb} {us : List Bool} {lv : List Int} {G : GT} (h : Net ns cs us lv G) : WfD (depsD ⟨ns, cs⟩ lv (tabOf ns.length G)) := fun d hd => by
  obtain ⟨n16, c32⟩ := valid_sizes h.valid
  exact (h.turns d hd).wf n16 c32
theorem Net.dlen {ns : List Nd} {cs : List Cb} {us : List Bool} {lv : List Int} {G : GT} (h : Net ns cs us lv G) : (depsD ⟨ns, cs⟩ lv (tabOf ns.length G)).length ≤ 10000 := by
  obtain ⟨n16, c32⟩ := valid_sizes h.valid
  unfold depsD; rw [sortD_length]
  show (setOfD (depA cs lv (tabOf ns.length G) ns.length (2 * cs.length))).length ≤ 10000
  have g1 := setOfD_len (depA cs lv (tabOf ns.length G) ns.length (2 * cs.length))
  have g2 := depA_len cs lv (tabOf ns.length G) ns.length (2 * cs.length)
  have g3 : 2 * ns.length * (2 * cs.length) ≤ 32 * 64 := Nat.mul_le_mul (by omega) (by omega)
  omega
end Go.Proofs.Ytlhblaemoejefaa
namespace Go.Proofs.Ytlhblaemoejefaa.channelAcyclicW
open Go.RowKit Go.Maps Go.Sort Go.Shelf
set_option linter.unusedVariables false
set_option linter.unusedSimpArgs false
set_option maxRecDepth 100000 in
set_option maxHeartbeats 8000000 in
theorem walk (An Ac : Option Addr) (cn cc : Nat) (p : Pl) (Au : Option Addr) (cu : Nat) (us : List Bool) (root : Int) (w : World)
    (h : IsPlan w An Ac p) (hwf : WfP p) (h2 : IsRec 1 cB false w Au us.length us) (hroot : (Lit.int .i64 root).wf = true) :
    Calls Try.prog 9 #[.agg #[.slice An p.ns.length cn, .slice Ac p.cs.length cc], .slice Au us.length cu, .int .i64 root] w fun e w' => e = .returned (.bool true) ∧ Below w.heap.size w w' := by
  obtain ⟨ns, cs⟩ := p
  simp only
  obtain ⟨w1, hw1⟩ : ∃ w1 : World, w.alloc (.cells #[.slice An ns.length cn, .slice Ac cs.length cc] 40) = w1 := ⟨_, rfl⟩
  have BW : Hid (Below w.heap.size w w1) := by rw [← hw1]; exact (Below.refl _ _).alloc (Nat.le_refl _) _
  have P0 : Hid (Blk w1 w.heap.size 40 #[.slice An ns.length cn, .slice Ac cs.length cc]) := by rw [← hw1]; exact Blk.new _ _ _
  have H1 := Lib.hid (h.below (Nat.le_refl _) BW.out)
  have U1 := Lib.hid (h2.below (Nat.le_refl _) BW.out)
  have HWF := Lib.hid hwf
  have KC : Hid (∀ w', Below w1.heap.size w1 w' → w'.cell? ⟨w.heap.size, 0, none⟩ = some (.slice An ns.length cn) ∧ w'.cell? ⟨w.heap.size, 1, none⟩ = some (.slice Ac cs.length cc) ∧ w.heap.size < w'.heap.size ∧
      Below w.heap.size w w' ∧ IsPlan w' An Ac ⟨ns, cs⟩ ∧ IsRec 1 cB false w' Au us.length us) := fun w' hb => by
    have hp := P0.out.below hb P0.out.lt
    exact ⟨by rw [hp.cell]; rfl, by rw [hp.cell]; rfl, hp.lt, BW.out.trans (hb.mono BW.out.size), H1.out.below (Nat.le_refl _) hb, U1.out.below (Nat.le_refl _) hb⟩
  have HW1 := Lib.hid hw1
  clear hw1 h h2 hwf
  go_enter Try.func9, Try.ntmps9
  go_wp2_with fail
  rw [HW1.out]
  refine (awake20_any _).mono ?_
  rintro e w2 ⟨rfl, bel⟩
  have B2 := Lib.hid bel
  clear bel HW1
  obtain ⟨c0, c1, l0, _⟩ := KC.out w2 B2.out
  cases hg : great20B ns.length cs.length us.length with
  | true =>
    go_wp2_with fail
    refine (great20_any An Ac Au ns.length cs.length us.length cn cc cu w2 _ hg).mono ?_
    rintro e w3 ⟨rfl, rfl⟩
    have F := Lib.hid ((KC.out _ (B2.out.alloc B2.out.size (.cells #[.slice An ns.length cn, .slice Ac cs.length cc] 40))).2.2.2.1)
    go_wp2_with fail
    go_ret
    exact ⟨rfl, F.out⟩
  | false =>
    have hl : ns.length ≤ 20 ∧ cs.length ≤ 40 ∧ us.length ≤ 60 := by
      unfold great20B at hg; simp at hg; omega
    obtain ⟨hln, hlc, hlu⟩ := hl
    go_wp2_with fail
    refine (great20_any An Ac Au ns.length cs.length us.length cn cc cu w2 _ hg).mono ?_
    rintro e w3 ⟨rfl, hw3⟩
    have B3 : Hid (Below w1.heap.size w1 w3) := by rw [← hw3]; exact B2.out.alloc B2.out.size _
    clear hw3 hg c0 c1 l0
    obtain ⟨c0, c1, l0, bf3, p3, u3⟩ := KC.out w3 B3.out
    have HN := Lib.hid (network_any ns cs us root An Ac Au cn cc cu w3 (by omega) (by omega) (by omega) HWF.out p3 u3)
    clear bf3 p3 u3
    go_wp2_with fail
    refine HN.out.mono ?_
    rintro e w4 ⟨bel4, rfl | ⟨lv, G, aL, cL, aT, cT, net, rfl, rl, rt, hwl, hul⟩⟩
    · have F := Lib.hid ((KC.out _ (B3.out.trans (bel4.mono B3.out.size))).2.2.2.1)
      have F2 : Hid (Below w.heap.size w ((w4.alloc (.cells #[.slice none 0 0] 51)).alloc (.cells #[.slice none 0 0] 54))) := (F.out.alloc F.out.size _).alloc (by have := F.out.size; simp; omega) _
      clear bel4 HN c0 c1
      go_wp2_with fail
      go_ret
      exact ⟨rfl, F2.out⟩
    · have B4 : Hid (Below w1.heap.size w1 w4) := B3.out.trans (bel4.mono B3.out.size)
      obtain ⟨w5, hw5⟩ : ∃ w5 : World, (w4.alloc (.cells #[.slice aL lv.length cL] 51)).alloc (.cells #[.slice aT ns.length cT] 54) = w5 := ⟨_, rfl⟩
      have B45 : Hid (Below w4.heap.size w4 w5) := by rw [← hw5]; exact ((Below.refl _ _).alloc (Nat.le_refl _) _).alloc (by simp) _
      have B5 : Hid (Below w1.heap.size w1 w5) := B4.out.trans (B45.out.mono B4.out.size)
      have RL5 := Lib.hid (rl.below (Nat.le_refl _) B45.out)
      have RT5 := Lib.hid (rt.below (Nat.le_refl _) B45.out)
      have NET := Lib.hid net
      have hll := net.len
      have DLEN := net.dlen
      have WD := Lib.hid net.wfd
      have ACY := Lib.hid net.acyclic
      have CYC : Hid (cycD (depsD ⟨ns, cs⟩ lv (tabOf ns.length G)) = []) := by
        rcases cycD_spec (depsD ⟨ns, cs⟩ lv (tabOf ns.length G)) with ⟨_, h, _⟩ | ⟨h, _⟩
        · rw [net.acyclic] at h; cases h
        · exact h
      have HD := deps_any ⟨ns, cs⟩ lv (tabOf ns.length G) An Ac aL aT cn cc cL cT w5 (by show ns.length ≤ _; omega) (by show cs.length ≤ _; omega) HWF.out (by omega) hwl (by rw [tabOf_len]; omega) net.wft (KC.out w5 B5.out).2.2.2.2.1 RL5.out (by rw [tabOf_len]; exact RT5.out)
      rw [tabOf_len] at HD
      have HDD := Lib.hid HD
      obtain ⟨k0, k1, l4, _⟩ := KC.out w4 B4.out
      have HW5 := Lib.hid hw5
      clear net rl rt hwl hul bel4 HN c0 c1 l0 hw5 HD hll
      go_wp2_with fail
      rw [HW5.out]
      refine HDD.out.mono ?_
      rintro e w6 ⟨bel6, ⟨hbad, _⟩ | ⟨_, v, rfl, own⟩⟩
      · exact absurd hbad (by rw [NET.out.ord, NET.out.table]; simp)
      · generalize depsD ⟨ns, cs⟩ lv (tabOf ns.length G) = D at *
        have B6 : Hid (Below w1.heap.size w1 w6) := B5.out.trans (bel6.mono B5.out.size)
        obtain ⟨pa, pc, hv7, _, r7, _⟩ := rec_of_own (d := d0) (c := cD) (fun _ => rfl) (by decide) own
        subst hv7
        have R7 := Lib.hid r7
        have HPL := Lib.hid (plain20_any D pa pc w6 (by omega) R7.out)
        clear bel6 HDD k0 k1 l4 own r7
        go_wp2_with fail
        refine HPL.out.mono ?_
        rintro e w7 ⟨v7, rfl, own7, bel7⟩
        obtain ⟨qa, qc, hv8, _, r8, _⟩ := rec_of_own (d := d0) (c := cD) (fun _ => rfl) (by decide) own7
        subst hv8
        have B7 : Hid (Below w1.heap.size w1 w7) := B6.out.trans (bel7.mono B6.out.size)
        have R77 := Lib.hid (R7.out.below (Nat.le_refl _) bel7)
        have HA := acyclic20_any D qa qc w7 (by omega) r8
        rw [ACY.out] at HA
        have HAA := Lib.hid HA
        clear bel7 HPL own7 r8 HA
        go_wp2_with fail
        refine HAA.out.mono ?_
        rintro e w8 ⟨rfl, bel8⟩
        have B8 : Hid (Below w1.heap.size w1 w8) := B7.out.trans (bel8.mono B7.out.size)
        have HC := cycle_any D pa pc w8 DLEN WD.out (R77.out.below (Nat.le_refl _) bel8)
        rw [CYC.out] at HC
        have HCC := Lib.hid HC
        clear bel8 HAA HC
        go_wp2_with fail
        refine HCC.out.mono ?_
        rintro e w9 ⟨v9, rfl, own9, bel9⟩
        obtain ⟨ra, rc, hv9, _⟩ := rec_of_own (d := (0 : Int)) cI_length (by decide) own9
        subst hv9
        have F := Lib.hid ((KC.out w9 (B8.out.trans (bel9.mono B8.out.size))).2.2.2.1)
        clear own9 bel9 HCC
        go_wp2_with fail
        go_ret
        exact ⟨rfl, F.out⟩
end Go.Proofs.Ytlhblaemoejefaa.channelAcyclicW
