/- The walk of the law ChannelDeps. -/
import Derived.Test.YtlhblaemoejefaaCAwake
import Derived.Test.YtlhblaemoejefaaCEnds
import Derived.Test.YtlhblaemoejefaaCRefDeps
namespace Go.Proofs.Ytlhblaemoejefaa.channelDepsW
open Go.RowKit Go.Maps Go.Sort Go.Shelf
set_option linter.unusedVariables false
set_option maxRecDepth 100000 in
set_option maxHeartbeats 8000000 in
theorem walk (An Ac : Option Addr) (cn cc : Nat) (p : Pl) (Al : Option Addr) (cl : Nat) (lv : List Int) (At : Option Addr) (ct : Nat) (T : List Row2) (w : World)
    (h : IsPlan w An Ac p) (hwf : WfP p) (h2 : IsRec 1 cI 0 w Al lv.length lv) (hwl : WfI lv) (h3 : IsTab w At T.length T) (hwt : WfT T) :
    Calls Try.prog 8 #[.agg #[.slice An p.ns.length cn, .slice Ac p.cs.length cc], .agg #[.slice Al lv.length cl], .agg #[.slice At T.length ct]] w fun e w' => e = .returned (.bool true) ∧ Below w.heap.size w w' := by
  obtain ⟨ns, cs⟩ := p
  simp only
  obtain ⟨w1, hw1⟩ : ∃ w1 : World, ((w.alloc (.cells #[.slice An ns.length cn, .slice Ac cs.length cc] 40)).alloc (.cells #[.slice Al lv.length cl] 51)).alloc (.cells #[.slice At T.length ct] 54) = w1 := ⟨_, rfl⟩
  have s0 : w1.cell? ⟨w.heap.size, 0, none⟩ = some (.slice An ns.length cn) := by rw [← hw1]; simp [go_sem]
  have s1 : w1.cell? ⟨w.heap.size, 1, none⟩ = some (.slice Ac cs.length cc) := by rw [← hw1]; simp [go_sem]
  have s2 : w1.cell? ⟨w.heap.size + 1, 0, none⟩ = some (.slice Al lv.length cl) := by rw [← hw1]; simp [go_sem]
  have s3 : w1.cell? ⟨w.heap.size + 1 + 1, 0, none⟩ = some (.slice At T.length ct) := by rw [← hw1]; simp [go_sem]
  have sz1 : w.heap.size + 1 + 1 < w1.heap.size := by rw [← hw1]; simp
  have BW : Hid (Below w.heap.size w w1) := by rw [← hw1]; exact (((Below.refl _ _).alloc (Nat.le_refl _) _).alloc (by simp) _).alloc (by simp; omega) _
  have H1 := Lib.hid (h.below (Nat.le_refl _) BW.out)
  have L1 := Lib.hid (h2.below (Nat.le_refl _) BW.out)
  have T1 := Lib.hid (h3.below (Nat.le_refl _) BW.out)
  have HWF := Lib.hid hwf
  have HWL := Lib.hid hwl
  have HWT := Lib.hid hwt
  have KC : Hid (∀ w', Below w1.heap.size w1 w' → (w'.cell? ⟨w.heap.size, 0, none⟩ = some (.slice An ns.length cn) ∧ w'.cell? ⟨w.heap.size, 1, none⟩ = some (.slice Ac cs.length cc) ∧ w'.cell? ⟨w.heap.size + 1, 0, none⟩ = some (.slice Al lv.length cl) ∧ w'.cell? ⟨w.heap.size + 1 + 1, 0, none⟩ = some (.slice At T.length ct)) ∧
      Below w.heap.size w w' ∧ IsPlan w' An Ac ⟨ns, cs⟩ ∧ IsRec 1 cI 0 w' Al lv.length lv ∧ IsTab w' At T.length T) :=
    fun w' hb => ⟨⟨(hb.cell (by show w.heap.size < _; omega)).trans s0, (hb.cell (by show w.heap.size < _; omega)).trans s1, (hb.cell (by show w.heap.size + 1 < _; omega)).trans s2, (hb.cell (by exact sz1)).trans s3⟩, BW.out.trans (hb.mono BW.out.size), H1.out.below (Nat.le_refl _) hb, L1.out.below (Nat.le_refl _) hb, T1.out.below (Nat.le_refl _) hb⟩
  have HW1 := Lib.hid hw1
  clear hw1 h h2 h3 hwf hwl hwt s0 s1 s2 s3
  go_enter Try.func8, Try.ntmps8
  go_wp2_with fail
  rw [HW1.out]
  refine (awake20_any _).mono ?_
  rintro e w2 ⟨rfl, bel⟩
  have B2 := Lib.hid bel
  clear bel HW1
  obtain ⟨⟨c0, c1, c2, c3⟩, _⟩ := KC.out w2 B2.out
  cases hg : great20B ns.length cs.length 0 with
  | true =>
    go_wp2_with fail
    refine (great20_any An Ac none ns.length cs.length 0 cn cc 0 w2 _ hg).mono ?_
    rintro e w3 ⟨rfl, rfl⟩
    have F := Lib.hid ((KC.out _ (B2.out.alloc B2.out.size (.cells #[.slice An ns.length cn, .slice Ac cs.length cc] 40))).2.1)
    go_wp2_with fail
    go_ret
    exact ⟨rfl, F.out⟩
  | false =>
    have hl : ns.length ≤ 20 ∧ cs.length ≤ 40 := by
      unfold great20B at hg; simp at hg; omega
    have hln := hl.1
    have hlc := hl.2
    clear hl
    go_wp2_with fail
    refine (great20_any An Ac none ns.length cs.length 0 cn cc 0 w2 _ hg).mono ?_
    rintro e w3 ⟨rfl, hw3⟩
    have B3 : Hid (Below w1.heap.size w1 w3) := by rw [← hw3]; exact B2.out.alloc B2.out.size _
    clear hw3 hg c0 c1 c2 c3
    obtain ⟨⟨c0, c1, c2, c3⟩, bf3, p3, l3, t3⟩ := KC.out w3 B3.out
    have BF3 := Lib.hid bf3
    clear bf3
    by_cases hb : 60 < lv.length ∨ 60 < T.length
    · have hb' : 60 < lv.length ∨ (lv.length ≤ 60 ∧ 60 < T.length) := by omega
      clear hb p3 l3 t3
      rcases hb' with q1 | ⟨q1, q2⟩
      · have q1i : (60 : Int) < (lv.length : Int) := by omega
        go_wp2_with fail
        go_ret
        exact ⟨rfl, BF3.out⟩
      · have q1i : (lv.length : Int) ≤ 60 := by omega
        have q2i : (60 : Int) < (T.length : Int) := by omega
        go_wp2_with fail
        go_ret
        exact ⟨rfl, BF3.out⟩
    · have q1 : lv.length ≤ 60 := by omega
      have q2 : T.length ≤ 60 := by omega
      have q1i : (lv.length : Int) ≤ 60 := by omega
      have q2i : (T.length : Int) ≤ 60 := by omega
      have HD := Lib.hid (deps_any ⟨ns, cs⟩ lv T An Ac Al At cn cc cl ct w3 (by simp only; omega) (by simp only; omega) HWF.out (by omega) HWL.out (by omega) HWT.out p3 l3 t3)
      clear hb p3 l3 t3
      go_wp2_with fail
      refine HD.out.mono ?_
      rintro e w4 ⟨bel4, hres⟩
      have B4 : Hid (Below w1.heap.size w1 w4) := B3.out.trans (bel4.mono B3.out.size)
      have HRES := Lib.hid hres
      clear bel4 HD c0 c1 c2 c3 hres
      obtain ⟨⟨c0, c1, c2, c3⟩, _, p4, l4, _⟩ := KC.out w4 B4.out
      have HO := Lib.hid (order_any ⟨ns, cs⟩ lv An Ac Al cn cc cl w4 (by simp only; omega) (by simp only; omega) HWF.out (by omega) HWL.out p4 l4)
      clear p4 l4
      rcases HRES.out with ⟨hbad, rfl⟩ | ⟨hgood, v, rfl, own⟩
      · clear HRES
        go_wp2_with fail
        refine HO.out.mono ?_
        rintro e w5 ⟨rfl, bel5⟩
        have B5 : Hid (Below w1.heap.size w1 w5) := B4.out.trans (bel5.mono B4.out.size)
        clear bel5 HO c0 c1 c2 c3
        obtain ⟨⟨c0, c1, c2, c3⟩, bf5, p5, _, t5⟩ := KC.out w5 B5.out
        have BF5 := Lib.hid bf5
        cases ho : orderB ⟨ns, cs⟩ lv with
        | false =>
          clear p5 t5 bf5 hbad
          go_wp2_with fail
          go_ret
          exact ⟨rfl, BF5.out⟩
        | true =>
          rw [ho, Bool.true_and] at hbad
          have HT := Lib.hid (table_any ⟨ns, cs⟩ T An Ac At cn cc ct w5 (by simp only; omega) (by simp only; omega) HWF.out (by omega) p5 t5)
          rw [hbad] at HT
          clear p5 t5 bf5 hbad ho
          go_wp2_with fail
          refine HT.out.mono ?_
          rintro e w6 ⟨rfl, bel6⟩
          have F := Lib.hid ((KC.out w6 (B5.out.trans (bel6.mono B5.out.size))).2.1)
          clear bel6 HT c0 c1 c2 c3
          go_wp2_with fail
          go_ret
          exact ⟨rfl, F.out⟩
      · have hgg := hgood
        rw [Bool.and_eq_true] at hgg
        obtain ⟨ho, ht⟩ := hgg
        rw [ho] at HO
        obtain ⟨la, lc, hv4, _, rl, _⟩ := rec_of_own (d := d0) (c := cD) (fun _ => rfl) (by decide) own
        subst hv4
        have RL := Lib.hid rl
        have OT := Lib.hid ho
        have TT := Lib.hid ht
        have DLEN : (depsD ⟨ns, cs⟩ lv T).length ≤ 1000000 := by
          unfold depsD; rw [sortD_length]
          show (setOfD (depA cs lv T ns.length (2 * cs.length))).length ≤ 1000000
          have g1 := setOfD_len (depA cs lv T ns.length (2 * cs.length))
          have g2 := depA_len cs lv T ns.length (2 * cs.length)
          have g3 : 2 * ns.length * (2 * cs.length) ≤ 40 * 80 := Nat.mul_le_mul (by omega) (by omega)
          omega
        clear HRES hgood ho ht own rl
        generalize hDD : depsD ⟨ns, cs⟩ lv T = D at *
        have HDD := Lib.hid hDD
        clear hDD
        go_wp2_with fail
        refine HO.out.mono ?_
        rintro e w5 ⟨rfl, bel5⟩
        have B5 : Hid (Below w1.heap.size w1 w5) := B4.out.trans (bel5.mono B4.out.size)
        have RL5 := Lib.hid (RL.out.below (Nat.le_refl _) bel5)
        clear bel5 HO c0 c1 c2 c3 RL
        obtain ⟨⟨c0, c1, c2, c3⟩, _, p5, _, t5⟩ := KC.out w5 B5.out
        have HT := Lib.hid (table_any ⟨ns, cs⟩ T An Ac At cn cc ct w5 (by simp only; omega) (by simp only; omega) HWF.out (by omega) p5 t5)
        rw [TT.out] at HT
        clear p5 t5
        go_wp2_with fail
        refine HT.out.mono ?_
        rintro e w6 ⟨rfl, bel6⟩
        have B6 : Hid (Below w1.heap.size w1 w6) := B5.out.trans (bel6.mono B5.out.size)
        have RL6 := Lib.hid (RL5.out.below (Nat.le_refl _) bel6)
        clear bel6 HT c0 c1 c2 c3 RL5
        obtain ⟨⟨c0, c1, c2, c3⟩, _⟩ := KC.out w6 B6.out
        have PL := Lib.hid (plain20_any D la lc w6.drew DLEN (RL6.out.below (Nat.le_refl _) ((Below.refl _ _).drew)))
        have RD : Hid (∀ W, Below w1.heap.size w1 W → Calls Try.prog 34 #[.agg #[.slice An ns.length cn, .slice Ac cs.length cc], .slice Al lv.length cl, .slice At T.length ct] W fun e w' => ∃ v, e = .returned v ∧ Lst w' v D ∧ Below W.heap.size W w') := fun W hW => by
          have hk := KC.out W hW
          have := refdeps_any ⟨ns, cs⟩ lv T An Ac Al At cn cc cl ct W OT.out TT.out hk.2.2.1 hk.2.2.2.1 hk.2.2.2.2
          rw [HDD.out] at this
          exact this
        go_wp2_with fail
        go_region_held3 (fun W => W.cell? ⟨w.heap.size, 0, none⟩ = some (.slice An ns.length cn) ∧ W.cell? ⟨w.heap.size, 1, none⟩ = some (.slice Ac cs.length cc) ∧ W.cell? ⟨w.heap.size + 1, 0, none⟩ = some (.slice Al lv.length cl) ∧ W.cell? ⟨w.heap.size + 1 + 1, 0, none⟩ = some (.slice At T.length ct))
          (first | exact ⟨c0, c1, c2, c3⟩ | exact K7.out | exact K8.out | exact K9.out)
          (first
            | (go_at_call 19; refine PL.out.mono ?_; rintro e w7 ⟨v7, rfl, own7, bel7⟩; obtain ⟨pa, pc, hv7, _, r7, _⟩ := rec_of_own (d := d0) (c := cD) (fun _ => rfl) (by decide) own7; subst hv7; have B7 : Hid (Below w1.heap.size w1 w7) := (B6.out.drew).trans (bel7.mono B6.out.size); have K7 := Lib.hid (KC.out w7 B7.out).1; have R7 := Lib.hid r7; clear bel7 own7 r7)
            | (go_at_call 34; refine (RD.out w7 B7.out).mono ?_; rintro e w8 ⟨v8, rfl, ⟨ra, rcap, hv8, _, _, r8⟩, bel8⟩; subst hv8; have B8 : Hid (Below w1.heap.size w1 w8) := B7.out.trans (bel8.mono B7.out.size); have K8 := Lib.hid (KC.out w8 B8.out).1; have R8 := Lib.hid r8; have R78 := Lib.hid (R7.out.below (Nat.le_refl _) bel8); clear bel8 r8)
            | (go_at_call 18; refine (eqR20_any D D pa ra pc rcap w8 (by omega) (by omega) R78.out R8.out).mono ?_; rintro e w9 ⟨rfl, bel9⟩; have B9 : Hid (Below w1.heap.size w1 w9) := B8.out.trans (bel9.mono B8.out.size); have K9 := Lib.hid (KC.out w9 B9.out).1; clear bel9))
        all_goals
          have F := Lib.hid ((KC.out w9 B9.out).2.1)
          clear c0 c1 c2 c3
          go_wp2_with fail
          go_ret
          exact ⟨by simp, F.out⟩
end Go.Proofs.Ytlhblaemoejefaa.channelDepsW
