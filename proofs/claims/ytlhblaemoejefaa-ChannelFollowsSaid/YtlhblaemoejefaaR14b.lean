/- The contract of fairlinkref14.Valid: the same as that of graph.Valid. -/
import Derived.Test.YtlhblaemoejefaaR14t
namespace Go.Proofs.Ytlhblaemoejefaa
open Go.RowKit Go.Maps
set_option linter.unusedVariables false

set_option maxRecDepth 100000 in
set_option maxHeartbeats 8000000 in
theorem r14valid_any (p : Pl) (An Ac : Option Addr) (cn cc : Nat) (w : World) (hl : p.ns.length ≤ 1000000) (hl2 : p.cs.length ≤ 1000000) (h : IsPlan w An Ac p) :
    Calls Try.prog 23 #[.agg #[.slice An p.ns.length cn, .slice Ac p.cs.length cc]] w fun e w' => e = .returned (.int .i64 (validP p)) ∧ Below w.heap.size w w' := by
  obtain ⟨ns, cs⟩ := p
  simp only at hl hl2 ⊢
  obtain ⟨w1, hw1⟩ : ∃ w1 : World, w.alloc (.cells #[.slice An ns.length cn, .slice Ac cs.length cc] 40) = w1 := ⟨_, rfl⟩
  have s0 : w1.cell? ⟨w.heap.size, 0, none⟩ = some (.slice An ns.length cn) := by rw [← hw1]; simp [go_sem]
  have s1 : w1.cell? ⟨w.heap.size, 1, none⟩ = some (.slice Ac cs.length cc) := by rw [← hw1]; simp [go_sem]
  have sz1 : w.heap.size < w1.heap.size := by rw [← hw1]; simp
  have BW0 : Below w.heap.size w w1 := by rw [← hw1]; exact (Below.refl _ _).alloc (Nat.le_refl _) _
  have BW := Lib.hid BW0
  have H1 := Lib.hid (h.below (Nat.le_refl _) BW0)
  have HW1 := Lib.hid hw1
  have KC : Hid (∀ w', Below w1.heap.size w1 w' → w'.cell? ⟨w.heap.size, 0, none⟩ = some (.slice An ns.length cn) ∧ w'.cell? ⟨w.heap.size, 1, none⟩ = some (.slice Ac cs.length cc) ∧ w.heap.size < w'.heap.size ∧ Below w.heap.size w w') :=
    fun w' hb => ⟨(hb.cell (by exact sz1)).trans s0, (hb.cell (by exact sz1)).trans s1, by have := hb.size; omega, BW0.trans (hb.mono (by omega))⟩
  clear h hw1 BW0
  by_cases h16 : 16 < ns.length
  · have FIN := Lib.hid (validP5 (p := ⟨ns, cs⟩) (.inl h16))
    go_enter Try.func23, Try.ntmps23
    go_wp2_with fail
    rw [HW1.out]
    go_ret
    exact ⟨by rw [FIN.out]; rfl, BW.out⟩
  by_cases h32 : 32 < cs.length
  · have FIN := Lib.hid (validP5 (p := ⟨ns, cs⟩) (.inr h32))
    go_enter Try.func23, Try.ntmps23
    go_wp2_with fail
    rw [HW1.out]
    go_ret
    exact ⟨by rw [FIN.out]; rfl, BW.out⟩
  have V : Hid (¬(16 < (⟨ns, cs⟩ : Pl).ns.length ∨ 32 < (⟨ns, cs⟩ : Pl).cs.length)) := by
    rintro (h | h)
    · exact h16 h
    · exact h32 h
  go_enter Try.func23, Try.ntmps23
  go_wp2_with fail
  rw [HW1.out]
  go_loopw [3] (fun i wr => RelAll okNode ns w1.heap.size w1 i wr) (fun i _ => ns.length - (RowKit.intOf i).toNat)
  case atStart => exact ⟨0, Nat.zero_le _, rfl, rfl, Below.refl _ _⟩
  case round =>
    clear s0 s1
    obtain ⟨k, hk, rfl, hall, bel⟩ := hrel
    have bs := bel.size
    have HA := Lib.hid hall
    clear hall
    obtain ⟨u0, u1, sz2, bw2⟩ := KC.out wr bel
    have BW2 := Lib.hid bw2
    clear bw2
    by_cases hkr : k < ns.length
    · obtain ⟨bb, off, ha, hbb, hmem, c0, c1, c2⟩ := node_at (H1.out.below (Nat.le_refl _) bel).1 k hkr
      have AS := Lib.hid (all_snoc okNode nd0 ns k hkr)
      have AB := Lib.hid (all_bad okNode nd0 ns k hkr)
      generalize ns.getD k nd0 = x at *
      subst ha
      obtain ⟨nm, sw, po⟩ := x
      simp only at c0 c1 c2
      clear hmem
      have B3 := Lib.hid (bel.alloc bs (.cells #[.string nm, .bool sw, .int .i64 po] 93))
      have BF := Lib.hid (BW2.out.alloc (by omega) (.cells #[.string nm, .bool sw, .int .i64 po] 93))
      have RR : Hid (okNode ⟨nm, sw, po⟩ = true → RelAll okNode ns w1.heap.size w1 (.int .i64 ((k + 1 : Nat) : Int)) (wr.alloc (.cells #[.string nm, .bool sw, .int .i64 po] 93))) :=
        fun hx => ⟨k + 1, by omega, rfl, by rw [AS.out, HA.out, hx]; rfl, B3.out⟩
      have FF : Hid (okNode ⟨nm, sw, po⟩ = false → validP ⟨ns, cs⟩ = 1) := fun hx => validP1 (p := ⟨ns, cs⟩) V.out (AB.out hx)
      clear AS AB HA
      cases hn : okName nm with
      | false =>
        have FIN := Lib.hid (FF.out (by simp [okNode, hn]))
        have HN := Lib.hid hn
        clear hn
        go_wp2_with (go_at_call 47; refine (r14name_any _ _).mono ?_; rintro r w' ⟨rfl, rfl⟩; rw [HN.out])
        go_ret
        exact ⟨by rw [FIN.out]; rfl, BF.out⟩
      | true =>
        cases sw with
        | true =>
          rcases (by omega : po < 1 ∨ (1 ≤ po ∧ 8 < po) ∨ (1 ≤ po ∧ po ≤ 8)) with q1 | ⟨q1, q2⟩ | ⟨q1, q2⟩
          · have FIN := Lib.hid (FF.out (by simp [okNode, hn]; omega))
            have HN := Lib.hid hn
            clear hn
            go_wp2_with (go_at_call 47; refine (r14name_any _ _).mono ?_; rintro r w' ⟨rfl, rfl⟩; rw [HN.out])
            go_ret
            exact ⟨by rw [FIN.out]; rfl, BF.out⟩
          · have FIN := Lib.hid (FF.out (by simp [okNode, hn]; omega))
            have HN := Lib.hid hn
            clear hn
            go_wp2_with (go_at_call 47; refine (r14name_any _ _).mono ?_; rintro r w' ⟨rfl, rfl⟩; rw [HN.out])
            go_ret
            exact ⟨by rw [FIN.out]; rfl, BF.out⟩
          · have R := Lib.hid (RR.out (by simp [okNode, hn]; omega))
            have HN := Lib.hid hn
            clear hn
            go_wp2_with (go_at_call 47; refine (r14name_any _ _).mono ?_; rintro r w' ⟨rfl, rfl⟩; rw [HN.out])
            exact ⟨by simpa using R.out, by simp [RowKit.intOf]; omega⟩
        | false =>
          by_cases q1 : po = 1
          · have R := Lib.hid (RR.out (by simp [okNode, hn, q1]))
            have q2 : (po != 1) = false := by simp [q1]
            have HN := Lib.hid hn
            clear hn q1
            go_wp2_with (go_at_call 47; refine (r14name_any _ _).mono ?_; rintro r w' ⟨rfl, rfl⟩; rw [HN.out])
            exact ⟨by simpa using R.out, by simp [RowKit.intOf]; omega⟩
          · have FIN := Lib.hid (FF.out (by simp [okNode, hn, q1]))
            have q2 : (po != 1) = true := by simp [q1]
            have HN := Lib.hid hn
            clear hn q1
            go_wp2_with (go_at_call 47; refine (r14name_any _ _).mono ?_; rintro r w' ⟨rfl, rfl⟩; rw [HN.out])
            go_ret
            exact ⟨by rw [FIN.out]; rfl, BF.out⟩
    · obtain rfl : k = ns.length := by omega
      rw [List.take_length] at HA
      have BE2 := Lib.hid bel
      obtain ⟨w2, rfl⟩ : ∃ w2 : World, w2 = wr := ⟨_, rfl⟩
      clear bel
      go_wp2_with fail
      go_loopw [5] (fun i wr => RelAll (okPorts ns) cs w2.heap.size w2 i wr) (fun i _ => cs.length - (RowKit.intOf i).toNat)
      case atStart => exact ⟨0, Nat.zero_le _, rfl, rfl, Below.refl _ _⟩
      case round =>
        clear u0 u1
        obtain ⟨k, hk, rfl, hall, belC⟩ := hrel
        have bc := belC.size
        have HC := Lib.hid hall
        clear hall
        have B3 := Lib.hid (BE2.out.trans (belC.mono BE2.out.size))
        obtain ⟨u0, u1, sz3, bw3⟩ := KC.out wr B3.out
        have BW3 := Lib.hid bw3
        clear bw3
        by_cases hkr : k < cs.length
        · obtain ⟨bb, off, ha, hbb, hmem, c0, c1, c2, c3, c4, c5⟩ := cable_at (H1.out.below (Nat.le_refl _) B3.out).2 k hkr
          have AS := Lib.hid (all_snoc (okPorts ns) cb0 cs k hkr)
          have AB := Lib.hid (all_bad (okPorts ns) cb0 cs k hkr)
          generalize cs.getD k cb0 = x at *
          have HAn : Hid (IsPlan wr An (some ⟨bb, off, none⟩) ⟨ns, cs⟩) := by rw [← ha]; exact H1.out.below (Nat.le_refl _) B3.out
          subst ha
          obtain ⟨xa, xap, xb, xbp, xdl, xcp⟩ := x
          simp only at c0 c1 c2 c3 c4 c5
          clear hmem
          obtain ⟨ob, hob⟩ : ∃ ob, Obj.cells #[Value.slice An ns.length cn, .slice (some ⟨bb, off, none⟩) cs.length cc] 40 = ob := ⟨_, rfl⟩
          have HOB := Lib.hid hob
          clear hob
          cases hx : hasPort ns xa xap with
          | false =>
            have FIN := Lib.hid (validP2 (p := ⟨ns, cs⟩) V.out HA.out (AB.out (by simp [okPorts, hx])))
            have HX := Lib.hid hx
            have BF : Hid (Below w.heap.size w ((wr.alloc (.cells #[.int .i64 xa, .int .i64 xap, .int .i64 xb, .int .i64 xbp, .int .i64 xdl, .int .i64 xcp] 47)).alloc ob)) := (BW3.out.alloc (by omega) _).alloc (by simp; omega) _
            clear hx AS AB HA HC V
            go_wp2_with fail
            refine (place_any2 ns cs An _ cn cc xa xap _ hl (HAn.out.alloc _) _ HX.out ob HOB.out).mono ?_
            rintro r w' ⟨rfl, rfl⟩
            go_wp2_with fail
            go_ret
            exact ⟨by rw [FIN.out]; rfl, BF.out⟩
          | true =>
            have HX := Lib.hid hx
            have BF : Hid (Below w.heap.size w (((wr.alloc (.cells #[.int .i64 xa, .int .i64 xap, .int .i64 xb, .int .i64 xbp, .int .i64 xdl, .int .i64 xcp] 47)).alloc ob).alloc ob)) := ((BW3.out.alloc (by omega) _).alloc (by simp; omega) _).alloc (by simp; omega) _
            have BB : Hid (Below w2.heap.size w2 (((wr.alloc (.cells #[.int .i64 xa, .int .i64 xap, .int .i64 xb, .int .i64 xbp, .int .i64 xdl, .int .i64 xcp] 47)).alloc ob).alloc ob)) := ((belC.alloc bc _).alloc (by simp; omega) _).alloc (by simp; omega) _
            cases hy : hasPort ns xb xbp with
            | false =>
              have FIN := Lib.hid (validP2 (p := ⟨ns, cs⟩) V.out HA.out (AB.out (by simp [okPorts, hy])))
              have HY := Lib.hid hy
              clear hx hy AS AB HA HC V
              go_wp2_with fail
              refine (place_any2 ns cs An _ cn cc xa xap _ hl (HAn.out.alloc _) _ HX.out ob HOB.out).mono ?_
              rintro r w' ⟨rfl, rfl⟩
              go_wp2_with fail
              refine (place_any2 ns cs An _ cn cc xb xbp _ hl ((HAn.out.alloc _).alloc _) _ HY.out ob HOB.out).mono ?_
              rintro r w' ⟨rfl, rfl⟩
              go_wp2_with fail
              go_ret
              exact ⟨by rw [FIN.out]; rfl, BF.out⟩
            | true =>
              have HY := Lib.hid hy
              have R : Hid (RelAll (okPorts ns) cs w2.heap.size w2 (.int .i64 ((k + 1 : Nat) : Int)) (((wr.alloc (.cells #[.int .i64 xa, .int .i64 xap, .int .i64 xb, .int .i64 xbp, .int .i64 xdl, .int .i64 xcp] 47)).alloc ob).alloc ob)) :=
                ⟨k + 1, by omega, rfl, by rw [AS.out, HC.out]; simp [okPorts, hx, hy], BB.out⟩
              clear hx hy AS AB HA HC V BB
              go_wp2_with fail
              refine (place_any2 ns cs An _ cn cc xa xap _ hl (HAn.out.alloc _) _ HX.out ob HOB.out).mono ?_
              rintro r w' ⟨rfl, rfl⟩
              go_wp2_with fail
              refine (place_any2 ns cs An _ cn cc xb xbp _ hl ((HAn.out.alloc _).alloc _) _ HY.out ob HOB.out).mono ?_
              rintro r w' ⟨rfl, rfl⟩
              go_wp2_with fail
              exact ⟨by simpa using R.out, by simp [RowKit.intOf]; omega⟩
        · obtain rfl : k = cs.length := by omega
          rw [List.take_length] at HC
          have H3 := Lib.hid (H1.out.below (Nat.le_refl _) B3.out)
          clear belC
          cases hr : repeatsB ⟨ns, cs⟩ with
          | true =>
            have FIN := Lib.hid (validP8 (p := ⟨ns, cs⟩) V.out HA.out HC.out hr)
            have HR := Lib.hid hr
            clear hr V HA HC
            go_wp2_with fail
            refine (twice_any ⟨ns, cs⟩ An Ac cn cc _ hl hl2 H3.out).mono ?_
            rintro r w' ⟨rfl, bel3⟩
            rw [HR.out]
            have BF := Lib.hid (BW3.out.trans (bel3.mono (by omega)))
            clear bel3
            go_wp2_with fail
            go_ret
            exact ⟨by rw [FIN.out]; rfl, BF.out⟩
          | false =>
            have HR := Lib.hid hr
            clear hr
            go_wp2_with fail
            refine (twice_any ⟨ns, cs⟩ An Ac cn cc _ hl hl2 H3.out).mono ?_
            rintro r w4 ⟨rfl, bel4⟩
            rw [HR.out]
            have B4 := Lib.hid (B3.out.trans (bel4.mono B3.out.size))
            clear bel4 u0 u1
            obtain ⟨u0, u1, sz4, bw4⟩ := KC.out w4 B4.out
            clear bw4
            go_wp2_with fail
            go_loopw [7] (fun i wr => RelAll (fun x : Cb => decide (x.a ≠ x.b)) cs w4.heap.size w4 i wr) (fun i _ => cs.length - (RowKit.intOf i).toNat)
            case atStart => exact ⟨0, Nat.zero_le _, rfl, rfl, Below.refl _ _⟩
            case round =>
              clear u0 u1
              obtain ⟨k, hk, rfl, hall, belD⟩ := hrel
              have HD := Lib.hid hall
              clear hall
              have B5 := Lib.hid (B4.out.trans (belD.mono B4.out.size))
              obtain ⟨u0, u1, sz5, bw5⟩ := KC.out wr B5.out
              have BW5 := Lib.hid bw5
              clear bw5
              by_cases hkr : k < cs.length
              · obtain ⟨bb, off, ha, hbb, hmem, c0, c1, c2, c3, c4, c5⟩ := cable_at (H1.out.below (Nat.le_refl _) B5.out).2 k hkr
                have AS := Lib.hid (all_snoc (fun x : Cb => decide (x.a ≠ x.b)) cb0 cs k hkr)
                have AB := Lib.hid (all_bad (fun x : Cb => decide (x.a ≠ x.b)) cb0 cs k hkr)
                generalize cs.getD k cb0 = x at *
                subst ha
                obtain ⟨xa, xap, xb, xbp, xdl, xcp⟩ := x
                simp only at c0 c1 c2 c3 c4 c5
                have i1 : (0 : Int) ≤ (k : Int) := by omega
                have i2 : (k : Int) < (cs.length : Int) := by omega
                clear hmem
                by_cases hab : xa = xb
                · have FIN := Lib.hid (validP12 (p := ⟨ns, cs⟩) V.out HA.out HC.out HR.out (AB.out (by simp [hab])))
                  have hq : (xa == xb) = true := by rw [hab]; simp
                  clear AS AB HA HC HR V HD hab
                  go_wp2_with fail
                  go_quiet (fail)
                  go_wp2_with fail
                  go_ret
                  exact ⟨by rw [FIN.out]; rfl, bdrewN BW5.out _⟩
                · have R : Hid ((((cs.take (k + 1)).all fun x : Cb => decide (x.a ≠ x.b)) = true)) := by rw [Hid, AS.out, HD.out]; simp [hab]
                  have hq : (xa == xb) = false := by rw [beq_eq_false_iff_ne]; exact hab
                  clear AS AB HA HC HR V HD hab
                  go_wp2_with fail
                  go_quiet (fail)
                  go_wp2_with fail
                  exact ⟨⟨k + 1, by omega, by simp, R.out, bdrewN belD _⟩, by simp [RowKit.intOf]; omega⟩
              · obtain rfl : k = cs.length := by omega
                rw [List.take_length] at HD
                obtain ⟨w6, rfl⟩ : ∃ w6 : World, w6 = wr := ⟨_, rfl⟩
                clear belD
                go_wp2_with fail
                go_loopw [8] (fun i wr => RelAll okForm cs w6.heap.size w6 i wr) (fun i _ => cs.length - (RowKit.intOf i).toNat)
                case atStart => exact ⟨0, Nat.zero_le _, rfl, rfl, Below.refl _ _⟩
                case round =>
                  clear u0 u1
                  obtain ⟨k, hk, rfl, hall, belF⟩ := hrel
                  have bf := belF.size
                  have HF := Lib.hid hall
                  clear hall
                  have B7 := Lib.hid (B5.out.trans (belF.mono B5.out.size))
                  obtain ⟨u0, u1, sz7, bw7⟩ := KC.out wr B7.out
                  have BW7 := Lib.hid bw7
                  clear bw7
                  by_cases hkr : k < cs.length
                  · obtain ⟨bb, off, ha, hbb, hmem, c0, c1, c2, c3, c4, c5⟩ := cable_at (H1.out.below (Nat.le_refl _) B7.out).2 k hkr
                    have AS := Lib.hid (all_snoc okForm cb0 cs k hkr)
                    have AB := Lib.hid (all_bad okForm cb0 cs k hkr)
                    generalize cs.getD k cb0 = x at *
                    subst ha
                    obtain ⟨xa, xap, xb, xbp, xdl, xcp⟩ := x
                    simp only at c0 c1 c2 c3 c4 c5
                    clear hmem
                    have BB : Hid (Below w6.heap.size w6 (wr.alloc (.cells #[.int .i64 xa, .int .i64 xap, .int .i64 xb, .int .i64 xbp, .int .i64 xdl, .int .i64 xcp] 47))) := belF.alloc bf _
                    have BF := Lib.hid (BW7.out.alloc (by omega) (.cells #[.int .i64 xa, .int .i64 xap, .int .i64 xb, .int .i64 xbp, .int .i64 xdl, .int .i64 xcp] 47))
                    by_cases hok : 1 ≤ xdl ∧ xdl ≤ 100 ∧ 1 ≤ xcp ∧ xcp ≤ 1000
                    · have R : Hid (RelAll okForm cs w6.heap.size w6 (.int .i64 ((k + 1 : Nat) : Int)) (wr.alloc (.cells #[.int .i64 xa, .int .i64 xap, .int .i64 xb, .int .i64 xbp, .int .i64 xdl, .int .i64 xcp] 47))) :=
                        ⟨k + 1, by omega, rfl, by rw [AS.out, HF.out]; simp [okForm, hok], BB.out⟩
                      obtain ⟨q1, q2, q3, q4⟩ := hok
                      clear AS AB HA HC HR HD V HF BB
                      go_wp2_with fail
                      exact ⟨by simpa using R.out, by simp [RowKit.intOf]; omega⟩
                    · have FIN := Lib.hid (validP3 (p := ⟨ns, cs⟩) V.out HA.out HC.out HR.out HD.out (AB.out (by
                        simp only [okForm]; rw [Bool.eq_false_iff]; intro h; simp at h; exact hok ⟨h.1.1.1, h.1.1.2, h.1.2, h.2⟩)))
                      clear AS AB HA HC HR HD V HF
                      rcases (by omega : xdl < 1 ∨ (1 ≤ xdl ∧ 100 < xdl) ∨ (1 ≤ xdl ∧ xdl ≤ 100 ∧ xcp < 1) ∨ (1 ≤ xdl ∧ xdl ≤ 100 ∧ 1 ≤ xcp ∧ 1000 < xcp)) with q1 | ⟨q1, q2⟩ | ⟨q1, q2, q3⟩ | ⟨q1, q2, q3, q4⟩ <;> clear hok
                      all_goals
                        go_wp2_with fail
                        go_ret
                        exact ⟨by rw [FIN.out]; rfl, BF.out⟩
                  · obtain rfl : k = cs.length := by omega
                    rw [List.take_length] at HF
                    have FIN := Lib.hid (validP0 (p := ⟨ns, cs⟩) V.out HA.out HC.out HR.out HD.out HF.out)
                    clear HA HC HR HD V HF
                    go_wp2_with fail
                    go_ret
                    exact ⟨by rw [FIN.out]; rfl, BW7.out⟩
end Go.Proofs.Ytlhblaemoejefaa
