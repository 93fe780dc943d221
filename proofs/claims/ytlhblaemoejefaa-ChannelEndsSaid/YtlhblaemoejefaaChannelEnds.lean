/- The walk of the law ChannelEnds. -/
import Derived.Test.YtlhblaemoejefaaCAwake
import Derived.Test.YtlhblaemoejefaaCEnds
namespace Go.Proofs.Ytlhblaemoejefaa.channelEndsW
open Go.RowKit Go.Maps Go.Sort Go.Shelf
set_option linter.unusedVariables false
theorem ends_false {p : Pl} {c : Int} (h : validP p ≠ 0) : endsR p c = (0, 0, 1) := by unfold endsR; rw [if_pos h]
theorem ends_range {p : Pl} {c : Int} (h : validP p = 0) (h2 : c < 0 ∨ 2 * (p.cs.length : Int) ≤ c) : endsR p c = (0, 0, 2) := by unfold endsR; rw [if_neg (by simp [h]), if_pos h2]
theorem ends_ok {p : Pl} {c : Int} (h : validP p = 0) (h0 : 0 ≤ c) (h2 : c < 2 * (p.cs.length : Int)) : endsR p c = ((chEnds p.cs c).1, (chEnds p.cs c).2, 0) := by unfold endsR; rw [if_neg (by simp [h]), if_neg (by omega)]
set_option maxRecDepth 100000 in
set_option maxHeartbeats 8000000 in
theorem walk (An Ac : Option Addr) (cn cc : Nat) (p : Pl) (c : Int) (w : World) (h : IsPlan w An Ac p) (hwf : WfP p) (hc : (Lit.int .i64 c).wf = true) :
    Calls Try.prog 5 #[.agg #[.slice An p.ns.length cn, .slice Ac p.cs.length cc], .int .i64 c] w fun e w' => e = .returned (.bool true) ∧ Below w.heap.size w w' := by
  obtain ⟨ns, cs⟩ := p
  simp only
  obtain ⟨w1, hw1⟩ : ∃ w1 : World, w.alloc (.cells #[.slice An ns.length cn, .slice Ac cs.length cc] 40) = w1 := ⟨_, rfl⟩
  have s0 : w1.cell? ⟨w.heap.size, 0, none⟩ = some (.slice An ns.length cn) := by rw [← hw1]; simp [go_sem]
  have s1 : w1.cell? ⟨w.heap.size, 1, none⟩ = some (.slice Ac cs.length cc) := by rw [← hw1]; simp [go_sem]
  have sz1 : w.heap.size < w1.heap.size := by rw [← hw1]; simp
  have BW : Hid (Below w.heap.size w w1) := by rw [← hw1]; exact (Below.refl _ _).alloc (Nat.le_refl _) _
  have H1 := Lib.hid (h.below (Nat.le_refl _) BW.out)
  have HWF := Lib.hid hwf
  have KC : Hid (∀ w', Below w1.heap.size w1 w' → w'.cell? ⟨w.heap.size, 0, none⟩ = some (.slice An ns.length cn) ∧ w'.cell? ⟨w.heap.size, 1, none⟩ = some (.slice Ac cs.length cc) ∧ w.heap.size < w'.heap.size ∧ Below w.heap.size w w' ∧ IsPlan w' An Ac ⟨ns, cs⟩) :=
    fun w' hb => ⟨(hb.cell (by exact sz1)).trans s0, (hb.cell (by exact sz1)).trans s1, by have := hb.size; omega, BW.out.trans (hb.mono BW.out.size), H1.out.below (Nat.le_refl _) hb⟩
  have HW1 := Lib.hid hw1
  clear hw1 h hwf s0 s1
  go_enter Try.func5, Try.ntmps5
  go_wp2_with fail
  rw [HW1.out]
  refine (awake20_any _).mono ?_
  rintro e w2 ⟨rfl, bel⟩
  have B2 := Lib.hid bel
  clear bel HW1
  obtain ⟨c0, c1, sz2, _, _⟩ := KC.out w2 B2.out
  cases hg : great20B ns.length cs.length 0 with
  | true =>
    go_wp2_with fail
    refine (great20_any An Ac none ns.length cs.length 0 cn cc 0 w2 _ hg).mono ?_
    rintro e w3 ⟨rfl, rfl⟩
    have F := Lib.hid ((KC.out _ (B2.out.alloc B2.out.size (.cells #[.slice An ns.length cn, .slice Ac cs.length cc] 40))).2.2.2.1)
    go_wp2_with fail
    go_ret
    exact ⟨rfl, F.out⟩
  | false =>
    have hl : ns.length ≤ 20 ∧ cs.length ≤ 40 := by
      unfold great20B at hg; simp at hg; omega
    have hln := hl.1
    have hlc := hl.2
    clear hl
    go_wp2_with fail
    refine (great20_any An Ac none ns.length cs.length 0 cn cc 0 w2 _ hg).mono ?_
    rintro e w3 ⟨rfl, hw3⟩
    have B3 : Hid (Below w1.heap.size w1 w3) := by rw [← hw3]; exact B2.out.alloc B2.out.size _
    clear hw3 hg c0 c1 sz2
    obtain ⟨c0, c1, sz3, _, p3⟩ := KC.out w3 B3.out
    have HE := Lib.hid (Ends_any ⟨ns, cs⟩ An Ac cn cc c w3 (by simp only; omega) (by simp only; omega) HWF.out p3)
    clear p3
    go_wp2_with fail
    refine HE.out.mono ?_
    rintro e w4 ⟨rfl, bel4⟩
    have B4 : Hid (Below w1.heap.size w1 w4) := B3.out.trans (bel4.mono B3.out.size)
    clear bel4 HE c0 c1 sz3
    obtain ⟨c0, c1, sz4, _, p4⟩ := KC.out w4 B4.out
    have HV := Lib.hid (r14valid_any ⟨ns, cs⟩ An Ac cn cc w4 (by simp only; omega) (by simp only; omega) p4)
    clear p4
    go_wp2_with fail
    refine HV.out.mono ?_
    rintro e w5 ⟨rfl, bel5⟩
    have B5 : Hid (Below w1.heap.size w1 w5) := B4.out.trans (bel5.mono B4.out.size)
    clear bel5 HV c0 c1 sz4
    obtain ⟨c0, c1, sz5, bf5, p5⟩ := KC.out w5 B5.out
    have BF5 := Lib.hid bf5
    have P5 := Lib.hid p5
    clear bf5 p5
    have hq : IntKind.i64.wrap (2 * (cs.length : Int)) = 2 * (cs.length : Int) := IntWalk.i64_in _ (by omega)
    cases hv : validP ⟨ns, cs⟩ == 0 with
    | false =>
      have hv' : validP ⟨ns, cs⟩ ≠ 0 := by simpa using hv
      rw [ends_false hv']
      generalize validP ⟨ns, cs⟩ = z at *
      clear hv'
      go_wp2_with fail
      go_ret
      exact ⟨rfl, BF5.out⟩
    | true =>
      have hv0 : validP ⟨ns, cs⟩ = 0 := by simpa using hv
      clear hv
      by_cases hr : c < 0 ∨ 2 * (cs.length : Int) ≤ c
      · rw [ends_range hv0 hr]
        rw [hv0]
        have hr' : c < 0 ∨ (0 ≤ c ∧ 2 * (cs.length : Int) ≤ c) := by omega
        clear hr hv0
        rcases hr' with h1 | ⟨h1, h2⟩
        all_goals
          go_wp2_with fail
          go_ret
          exact ⟨rfl, BF5.out⟩
      · have h1 : 0 ≤ c := by omega
        have h2 : c < 2 * (cs.length : Int) := by omega
        rw [ends_ok hv0 h1 h2]
        have HV0 := Lib.hid hv0
        obtain ⟨n16, c32⟩ := valid_sizes hv0
        rw [hv0]
        clear hr hv0
        obtain ⟨k, hk⟩ : ∃ k : Nat, c / 2 = k := ⟨(c / 2).toNat, by omega⟩
        have hkl : k < cs.length := by omega
        obtain ⟨x, hx⟩ : ∃ x, cs.getD k cb0 = x := ⟨_, rfl⟩
        obtain ⟨xa, xap, xb, xbp, xdl, xcp⟩ := x
        have HX := Lib.hid hx
        go_wp2_with fail
        by_cases hm : c % 2 = 0
        · skip
          have F1 : Hid (chanV (IntKind.i64.wrap (c.tdiv 2)) (IntKind.i64.wrap (1 - c.tmod 2)) = 2 * (k : Int) + 1) := by
            have t1 : IntKind.i64.wrap (c.tdiv 2) = k := by rw [Int.tdiv_eq_ediv_of_nonneg h1, hk]; exact IntWalk.i64_in _ (by omega)
            have t2 : IntKind.i64.wrap (1 - c.tmod 2) = 1 := by rw [Int.tmod_eq_emod_of_nonneg h1, hm]; rfl
            rw [Hid, t1, t2]; unfold chanV; rw [if_neg (by omega)]
          have F2 : Hid (chanV (k : Int) 0 = c) := by rw [Hid]; unfold chanV; rw [if_neg (by omega)]; omega
          have E0 : chEnds cs c = (xa, xb) := by unfold chEnds; rw [hk, Int.toNat_natCast, hx]; simp [hm]
          have E1 : Hid (endsR ⟨ns, cs⟩ (2 * (k : Int) + 1) = (xb, xa, 0)) := by
            rw [Hid, ends_ok HV0.out (by omega) (by simp only; omega)]
            have : (2 * (k : Int) + 1) / 2 = k := by omega
            have h2 : (2 * (k : Int) + 1) % 2 = 1 := by omega
            unfold chEnds; rw [this, h2, Int.toNat_natCast, hx]; simp
          rw [E0]
          clear E0 hx
          have EC := Lib.hid (Ends_any ⟨ns, cs⟩ An Ac cn cc (2 * (k : Int) + 1) w5.drew (by simp only; omega) (by simp only; omega) HWF.out (P5.out.below (Nat.le_refl _) ((Below.refl _ _).drew)))
          go_region_held3 (fun w' => w'.cell? ⟨w.heap.size, 0, none⟩ = some (.slice An ns.length cn) ∧ w'.cell? ⟨w.heap.size, 1, none⟩ = some (.slice Ac cs.length cc))
            (first | exact ⟨c0, c1⟩ | exact ⟨KX.out.1, KX.out.2.1⟩)
            (first
              | (go_at_call 13; refine (channel_any _ _ _).mono ?_; rintro e w' ⟨rfl, rfl⟩; rw [F1.out])
              | (go_at_call 22; refine EC.out.mono ?_; rintro e w6 ⟨rfl, bel6⟩; rw [E1.out]; have B6 : Hid (Below w1.heap.size w1 w6) := (B5.out.drew).trans (bel6.mono B5.out.size); clear bel6; have KX := Lib.hid (KC.out w6 B6.out)))
          all_goals
            obtain ⟨d0, d1, sz6, bf6, p6⟩ := KX.out
            have BF6 := Lib.hid bf6
            obtain ⟨bb, off, ha, hbb, hmem, e0, e1, e2, e3, e4, e5⟩ := cable_at p6.2 k hkl
            rw [HX.out] at e0 e1 e2 e3 e4 e5
            simp only at e0 e1 e2 e3 e4 e5
            subst ha
            have kl1 : (k : Int) < (cs.length : Int) := by omega
            have BG : Hid (Below w.heap.size w (w6.alloc (.cells #[.int .i64 xa, .int .i64 xap, .int .i64 xb, .int .i64 xbp, .int .i64 xdl, .int .i64 xcp] 47))) := BF6.out.alloc (by omega) _
            clear hmem c0 c1 p6 KX bf6 EC E1 F1
            go_wp2_with fail
            refine (channel_any _ _ _).mono ?_
            rintro e w7 ⟨rfl, rfl⟩
            rw [F2.out]
            go_wp2_with fail
            go_ret
            exact ⟨rfl, BG.out⟩
        · have hm1 : c % 2 = 1 := by omega
          clear hm
          have hm := hm1
          clear hm1
          have F1 : Hid (chanV (IntKind.i64.wrap (c.tdiv 2)) (IntKind.i64.wrap (1 - c.tmod 2)) = 2 * (k : Int) + 0) := by
            have t1 : IntKind.i64.wrap (c.tdiv 2) = k := by rw [Int.tdiv_eq_ediv_of_nonneg h1, hk]; exact IntWalk.i64_in _ (by omega)
            have t2 : IntKind.i64.wrap (1 - c.tmod 2) = 0 := by rw [Int.tmod_eq_emod_of_nonneg h1, hm]; rfl
            rw [Hid, t1, t2]; unfold chanV; rw [if_neg (by omega)]
          have F2 : Hid (chanV (k : Int) 1 = c) := by rw [Hid]; unfold chanV; rw [if_neg (by omega)]; omega
          have E0 : chEnds cs c = (xb, xa) := by unfold chEnds; rw [hk, Int.toNat_natCast, hx]; simp [hm]
          have E1 : Hid (endsR ⟨ns, cs⟩ (2 * (k : Int) + 0) = (xa, xb, 0)) := by
            rw [Hid, ends_ok HV0.out (by omega) (by simp only; omega)]
            have : (2 * (k : Int) + 0) / 2 = k := by omega
            have h2 : (2 * (k : Int) + 0) % 2 = 0 := by omega
            unfold chEnds; rw [this, h2, Int.toNat_natCast, hx]; simp
          rw [E0]
          clear E0 hx
          have EC := Lib.hid (Ends_any ⟨ns, cs⟩ An Ac cn cc (2 * (k : Int) + 0) w5.drew (by simp only; omega) (by simp only; omega) HWF.out (P5.out.below (Nat.le_refl _) ((Below.refl _ _).drew)))
          go_region_held3 (fun w' => w'.cell? ⟨w.heap.size, 0, none⟩ = some (.slice An ns.length cn) ∧ w'.cell? ⟨w.heap.size, 1, none⟩ = some (.slice Ac cs.length cc))
            (first | exact ⟨c0, c1⟩ | exact ⟨KX.out.1, KX.out.2.1⟩)
            (first
              | (go_at_call 13; refine (channel_any _ _ _).mono ?_; rintro e w' ⟨rfl, rfl⟩; rw [F1.out])
              | (go_at_call 22; refine EC.out.mono ?_; rintro e w6 ⟨rfl, bel6⟩; rw [E1.out]; have B6 : Hid (Below w1.heap.size w1 w6) := (B5.out.drew).trans (bel6.mono B5.out.size); clear bel6; have KX := Lib.hid (KC.out w6 B6.out)))
          all_goals
            obtain ⟨d0, d1, sz6, bf6, p6⟩ := KX.out
            have BF6 := Lib.hid bf6
            obtain ⟨bb, off, ha, hbb, hmem, e0, e1, e2, e3, e4, e5⟩ := cable_at p6.2 k hkl
            rw [HX.out] at e0 e1 e2 e3 e4 e5
            simp only at e0 e1 e2 e3 e4 e5
            subst ha
            have kl1 : (k : Int) < (cs.length : Int) := by omega
            have BG : Hid (Below w.heap.size w (w6.alloc (.cells #[.int .i64 xa, .int .i64 xap, .int .i64 xb, .int .i64 xbp, .int .i64 xdl, .int .i64 xcp] 47))) := BF6.out.alloc (by omega) _
            clear hmem c0 c1 p6 KX bf6 EC E1 F1
            go_wp2_with fail
            refine (channel_any _ _ _).mono ?_
            rintro e w7 ⟨rfl, rfl⟩
            rw [F2.out]
            go_wp2_with fail
            go_ret
            exact ⟨rfl, BG.out⟩
end Go.Proofs.Ytlhblaemoejefaa.channelEndsW
