/- The walk of the law LocalRoutes. -/
import Derived.Test.YtljojgpjgjfddaaGreatLCof
import Derived.Test.YtljojgpjgjfddaaGreatLAwake
namespace Go.Proofs.YtljojgpjgjfddaaGreat.localRoutesW
open Go.RowKit Go.Maps
set_option linter.unusedVariables false
set_option linter.unusedSimpArgs false

def RelLr (n : Nat) (w9 : World) (i : Value) (wr : World) : Prop := ∃ k : Nat, k ≤ n ∧ i = .int .i64 k ∧ Below w9.heap.size w9 wr
set_option maxRecDepth 100000 in
set_option maxHeartbeats 8000000 in
theorem walk (An Ac : Option Addr) (cn cc : Nat) (p : Pl) (Au : Option Addr) (cu : Nat) (us : List Bool) (root : Int) (w : World)
    (h : IsPlan w An Ac p) (hwf : WfP p) (h2 : IsRec 1 cB false w Au us.length us) (hroot : (Lit.int .i64 root).wf = true) :
    Calls Tryz.prog 3 #[.agg #[.slice An p.ns.length cn, .slice Ac p.cs.length cc], .slice Au us.length cu, .int .i64 root] w fun e w' => e = .returned (.bool true) ∧ Below w.heap.size w w' := by
  obtain ⟨ns, cs⟩ := p
  simp only
  obtain ⟨w1, hw1⟩ : ∃ w1 : World, w.alloc (.cells #[.slice An ns.length cn, .slice Ac cs.length cc] 25) = w1 := ⟨_, rfl⟩
  have BW : Hid (Below w.heap.size w w1) := by rw [← hw1]; exact (Below.refl _ _).alloc (Nat.le_refl _) _
  have P0 : Hid (Blk w1 w.heap.size 25 #[.slice An ns.length cn, .slice Ac cs.length cc]) := by rw [← hw1]; exact Blk.new _ _ _
  have H1 := Lib.hid (h.below (Nat.le_refl _) BW.out)
  have U1 := Lib.hid (h2.below (Nat.le_refl _) BW.out)
  have HWF := Lib.hid hwf
  have KC : Hid (∀ w', Below w1.heap.size w1 w' → w'.cell? ⟨w.heap.size, 0, none⟩ = some (.slice An ns.length cn) ∧ w'.cell? ⟨w.heap.size, 1, none⟩ = some (.slice Ac cs.length cc) ∧ w.heap.size < w'.heap.size ∧
      Below w.heap.size w w' ∧ IsPlan w' An Ac ⟨ns, cs⟩ ∧ IsRec 1 cB false w' Au us.length us) := fun w' hb => by
    have hp := P0.out.below hb P0.out.lt
    exact ⟨by rw [hp.cell]; rfl, by rw [hp.cell]; rfl, hp.lt, BW.out.trans (hb.mono BW.out.size), H1.out.below (Nat.le_refl _) hb, U1.out.below (Nat.le_refl _) hb⟩
  have HW1 := Lib.hid hw1
  clear hw1 h h2 hwf
  go_enter Tryz.func3, Tryz.ntmps3
  go_wp2_with fail
  rw [HW1.out]
  refine (awake_any _).mono ?_
  rintro e w2 ⟨rfl, bel⟩
  have B2 := Lib.hid bel
  clear bel HW1
  obtain ⟨c0, c1, l0, bf2, p2, u2⟩ := KC.out w2 B2.out
  have F2 := Lib.hid bf2
  have PP2 := Lib.hid p2
  have UU2 := Lib.hid u2
  clear bf2 p2 u2
  by_cases hn : 8 < ns.length
  · have q1 : decide ((8 : Int) < (ns.length : Int)) = true := decide_eq_true (by omega)
    clear hn
    go_wp2_with fail
    go_ret
    exact ⟨rfl, F2.out⟩
  have q1 : decide ((8 : Int) < (ns.length : Int)) = false := decide_eq_false (by omega)
  by_cases hc : 16 < cs.length
  · have q2 : decide ((16 : Int) < (cs.length : Int)) = true := decide_eq_true (by omega)
    clear hn hc
    go_wp2_with fail
    go_ret
    exact ⟨rfl, F2.out⟩
  have q2 : decide ((16 : Int) < (cs.length : Int)) = false := decide_eq_false (by omega)
  have HN := Lib.hid (show ns.length ≤ 8 by omega)
  have HC := Lib.hid (show cs.length ≤ 16 by omega)
  have OC := Lib.hid (of_anyU ⟨ns, cs⟩ us root An Ac Au cn cc cu w2 (by show ns.length ≤ _; omega) (by show cs.length ≤ _; omega) HWF.out PP2.out UU2.out)
  clear hn hc
  go_wp2_with fail
  refine (show Calls _ _ _ _ _ from OC.out).mono ?_
  rintro e w3 ⟨bel3, hres⟩
  have B3 : Hid (Below w1.heap.size w1 w3) := B2.out.trans (bel3.mono B2.out.size)
  clear OC PP2 UU2 F2 c0 c1 l0 q1 q2
  obtain ⟨c0, c1, l0, bf3, p3, u3⟩ := KC.out w3 B3.out
  have BF3 := Lib.hid bf3
  clear bf3 p3 u3
  rcases hres with ⟨_, c, hc, rfl⟩ | ⟨hok, lv, v, hlv, rfl, own⟩
  · have hcb : (c != 0) = true := by simpa using hc
    have F : Hid (Below w.heap.size w (w3.alloc (.cells #[.slice none 0 0] 30))) := BF3.out.alloc BF3.out.size _
    clear hc bel3
    go_wp2_with fail
    go_ret
    exact ⟨rfl, F.out⟩
  obtain ⟨hv, hul, hr0, hr1⟩ := hok
  simp only at hul hr1
  obtain ⟨aL, cL, hve, _, rl, _⟩ := rec_of_own (d := (0 : Int)) cI_length (by decide) own
  subst hve
  have hord := hlv.order hv
  have hwl := hlv.wf (by show ns.length ≤ _; have := HN.out; omega)
  have hll := hlv.len
  simp only at hll hwl
  obtain ⟨w4, hw4⟩ : ∃ w4 : World, w3.alloc (.cells #[.slice aL lv.length cL] 30) = w4 := ⟨_, rfl⟩
  have B34 : Hid (Below w3.heap.size w3 w4) := by rw [← hw4]; exact (Below.refl _ _).alloc (Nat.le_refl _) _
  have B4 : Hid (Below w1.heap.size w1 w4) := B3.out.trans (B34.out.mono B3.out.size)
  have P4 : Hid (Blk w4 w3.heap.size 30 #[.slice aL lv.length cL]) := by rw [← hw4]; exact Blk.new _ _ _
  have RL4 := Lib.hid (rl.below (Nat.le_refl _) B34.out)
  have KD : Hid (∀ w', Below w4.heap.size w4 w' → w'.cell? ⟨w3.heap.size, 0, none⟩ = some (.slice aL lv.length cL) ∧ w3.heap.size < w'.heap.size ∧ IsRec 1 cI 0 w' aL lv.length lv ∧ Below w1.heap.size w1 w') := fun w' hb => by
    have hp := P4.out.below hb P4.out.lt
    exact ⟨by rw [hp.cell]; rfl, hp.lt, RL4.out.below (Nat.le_refl _) hb, B4.out.trans (hb.mono B4.out.size)⟩
  have HM := Lib.hid (make_any ns cs us lv An Ac Au aL cn cc cu cL w4 hv hord hul hll HWF.out hwl (KC.out w4 B4.out).2.2.2.2.1 (KC.out w4 B4.out).2.2.2.2.2 RL4.out)
  have HV := Lib.hid hv
  have HORD := Lib.hid hord
  have HWL := Lib.hid hwl
  have HLL := Lib.hid hll
  have HW4 := Lib.hid hw4
  clear hv hul hr0 hr1 hlv own rl hord hwl hll hw4 bel3
  go_wp2_with fail
  rw [HW4.out]
  clear c0 c1 l0
  refine (show Calls _ _ _ _ _ from HM.out).mono ?_
  rintro e w5 ⟨bT, base, V, G, rfl, hbT, tm, hcol, bel5⟩
  have NT : Hid (Net ns cs us lv G) := ⟨HV.out, HORD.out, hcol⟩
  obtain ⟨w6, hw6⟩ : ∃ w6 : World, w5.alloc (.cells #[.slice (some ⟨bT, 0, none⟩) ns.length ns.length] 36) = w6 := ⟨_, rfl⟩
  have B56 : Below w5.heap.size w5 w6 := by rw [← hw6]; exact (Below.refl _ _).alloc (Nat.le_refl _) _
  have B46 : Hid (Below w4.heap.size w4 w6) := bel5.trans (B56.mono bel5.size)
  have P6 : Hid (Blk w6 w5.heap.size 36 #[.slice (some ⟨bT, 0, none⟩) ns.length ns.length]) := by rw [← hw6]; exact Blk.new _ _ _
  have HD := deps_any ⟨ns, cs⟩ lv (tabOf ns.length G) An Ac aL (some ⟨bT, 0, none⟩) cn cc cL ns.length w6 (by show ns.length ≤ _; have := HN.out; omega) (by show cs.length ≤ _; have := HC.out; omega) HWF.out (by have := HN.out; have := HLL.out; omega) HWL.out (by rw [tabOf_len]; have := HN.out; omega) NT.out.wft (KC.out w6 (KD.out w6 B46.out).2.2.2).2.2.2.2.1 (KD.out w6 B46.out).2.2.1 (by rw [tabOf_len]; exact (tm.below B56).isTab)
  rw [tabOf_len] at HD
  have HDD := Lib.hid HD
  have HW6 := Lib.hid hw6
  have BEL5 := Lib.hid bel5
  obtain ⟨k0, k1, _, _⟩ := KD.out w5 bel5
  obtain ⟨c0, c1, l0, _⟩ := KC.out w5 (KD.out w5 bel5).2.2.2
  have TURNS := Lib.hid NT.out.turns
  have DLEN := Lib.hid NT.out.depsLen
  clear HM hcol tm bel5 hw6 HD hbT B56
  go_wp2_with fail
  rw [HW6.out]
  refine (show Calls _ _ _ _ _ from HDD.out).mono ?_
  rintro e w7 ⟨bel7, ⟨hbad, _⟩ | ⟨_, v, rfl, own⟩⟩
  · exact absurd hbad (by rw [NT.out.ord, NT.out.table]; simp)
  generalize depsD ⟨ns, cs⟩ lv (tabOf ns.length G) = D at *
  obtain ⟨aD, cD', hvD, _, r7, _⟩ := rec_of_own (d := d0) (c := cD) (fun _ => rfl) (by decide) own
  subst hvD
  have B47 : Hid (Below w4.heap.size w4 w7) := B46.out.trans (bel7.mono B46.out.size)
  have R7 := Lib.hid r7
  clear own r7 bel7 HDD c0 c1 l0 k0 k1 HW6 P6
  obtain ⟨k0, k1, rl7, b17⟩ := KD.out w7 B47.out
  obtain ⟨c0, c1, l0, _, pl7, _⟩ := KC.out w7 b17
  have CO := Lib.hid (certOf_any ns cs lv An Ac aL cn cc cL w7 HV.out HORD.out HWF.out HWL.out pl7 rl7)
  clear rl7 b17 pl7
  go_wp2_with fail
  refine (show Calls _ _ _ _ _ from CO.out).mono ?_
  rintro e w8 ⟨v, rfl, own8, bel8⟩
  obtain ⟨aR, cR, hvR, _, r8, _⟩ := rec_of_own (d := (0 : Int)) cI_length (by decide) own8
  subst hvR
  have B48 : Hid (Below w4.heap.size w4 w8) := B47.out.trans (bel8.mono B47.out.size)
  have D8 := Lib.hid (R7.out.below (Nat.le_refl _) bel8)
  have R8 := Lib.hid r8
  have RLEN : Hid ((ranksV cs lv).length = 2 * cs.length) := ranksV_len cs lv
  have WFR := Lib.hid (ranksV_wf (ns := ns) (cs := cs) (lv := lv) HV.out HLL.out)
  have CHK : Hid (∀ i, i < ns.length → checkErr ⟨ns, cs⟩ (splitPt ⟨ns, cs⟩ D (ranksV cs lv) i) = 0) := fun i hi => check_turns HV.out HLL.out (valid_abG HV.out) TURNS.out hi
  have SPL : Hid (splitErr ⟨ns, cs⟩ D (ranksV cs lv) = 0) := split_turns HV.out TURNS.out
  have WFD : Hid (WfD D) := fun d hd => (TURNS.out d hd).wfD (by have := HN.out; omega) (by have := HC.out; omega)
  generalize ranksV cs lv = R at *
  clear own8 r8 bel8 CO c0 c1 l0 k0 k1
  obtain ⟨_, _, _, b18⟩ := KD.out w8 B48.out
  obtain ⟨c0, c1, l0, _, pl8, _⟩ := KC.out w8 b18
  have SP := Lib.hid (split_any ⟨ns, cs⟩ An Ac aD aR cn cc cD' cR D R w8 (by show ns.length ≤ _; have := HN.out; omega) (by show cs.length ≤ _; have := HC.out; omega) HWF.out (by have := DLEN.out; omega) (by have := RLEN.out; have := HC.out; omega) WFD.out WFR.out pl8 D8.out R8.out)
  clear b18 pl8
  go_wp2_with fail
  refine (show Calls _ _ _ _ _ from SP.out).mono ?_
  rintro e w9 ⟨bel9, ⟨hne, _⟩ | ⟨_, g, dv, mb, rfl, hok⟩⟩
  · exact absurd SPL.out hne
  have B49 : Hid (Below w4.heap.size w4 w9) := B48.out.trans (bel9.mono B48.out.size)
  have OK := Lib.hid hok
  have PT9 := Lib.hid hok.parts
  clear hok bel9 SP c0 c1 l0
  obtain ⟨_, _, _, b19⟩ := KD.out w9 B49.out
  obtain ⟨c0, c1, l0, _, pl9, _⟩ := KC.out w9 b19
  have AG := agree_any ⟨ns, cs⟩ An Ac (some ⟨g, 0, none⟩) cn cc ns.length (splitL ⟨ns, cs⟩ D R) w9 (by show ns.length ≤ _; have := HN.out; omega) (by show cs.length ≤ _; have := HC.out; omega) HWF.out (by rw [splitL_length]; show ns.length ≤ _; have := HN.out; omega) (small_split _ _ _ (by show cs.length ≤ _; have := HC.out; omega)) pl9 (by rw [splitL_length]; exact PT9.out)
  rw [agree_split ⟨ns, cs⟩ D R HV.out, splitL_length] at AG
  have AGH : Hid (Calls Tryz.prog 12 #[.agg #[.slice An ns.length cn, .slice Ac cs.length cc], .slice (some ⟨g, 0, none⟩) ns.length ns.length] w9 fun e w' => e = .returned (.int .i64 0) ∧ Below w9.heap.size w9 w') := AG
  clear AG b19 pl9
  go_wp2_with fail
  refine AGH.out.mono ?_
  rintro e w10 ⟨rfl, bel10⟩
  have B910 := Lib.hid bel10
  have B410 : Hid (Below w4.heap.size w4 w10) := B49.out.trans (bel10.mono B49.out.size)
  have ST : Hid (RelLr ns.length w10 (.int .i64 0) w10) := ⟨0, Nat.zero_le _, rfl, Below.refl _ _⟩
  clear bel10 AGH c0 c1 l0
  go_wp2_with fail
  go_loopw [95] (fun i wr => RelLr ns.length w10 i wr) (fun i _ => ns.length - (RowKit.intOf i).toNat)
  case atStart => exact ST.out
  case round =>
    clear ST
    obtain ⟨k, hk, rfl, bel⟩ := hrel
    have BE := Lib.hid bel
    have B9R : Hid (Below w9.heap.size w9 wr) := B910.out.trans (bel.mono B910.out.size)
    have B4R : Hid (Below w4.heap.size w4 wr) := B410.out.trans (bel.mono B410.out.size)
    obtain ⟨_, _, _, b1r⟩ := KD.out wr B4R.out
    obtain ⟨c0, c1, l0, bfr, plr, _⟩ := KC.out wr b1r
    have BFR := Lib.hid bfr
    clear bel b1r bfr
    have hn8 := HN.out
    by_cases hkr : k < ns.length
    · obtain ⟨a9, c9, hv9, _, hrec9, _⟩ := rec_of_own (m := 3) (c := cD) (d := d0) (fun _ => rfl) (by decide) (OK.out.deps k hkr)
      have rw9 := OK.out.row.below B9R.out OK.out.row.lt
      have p0 : wr.cell? ⟨g, k * 3, none⟩ = some (.int .i64 (k : Int)) := rw9.cell (i := k) (j := 0) hkr (by decide)
      have p1 : wr.cell? ⟨g, k * 3 + 1, none⟩ = some (.slice a9 (ownDeps D k).length c9) := (rw9.cell (i := k) (j := 1) hkr (by decide)).trans (by show some (dv k) = _; rw [hv9])
      have p2 : wr.cell? ⟨g, k * 3 + 1 + 1, none⟩ = some (.map (some (mb k))) := rw9.cell (i := k) (j := 2) hkr (by decide)
      obtain ⟨wv, hwv⟩ : ∃ wv : World, wr.alloc (.cells #[.int .i64 (k : Int), .slice a9 (ownDeps D k).length c9, .map (some (mb k))] 51) = wv := ⟨_, rfl⟩
      have bv : Below wr.heap.size wr wv := by rw [← hwv]; exact (Below.refl _ _).alloc (Nat.le_refl _) _
      have hrec := hrec9.below (Nat.le_refl _) (B9R.out.trans (bv.mono B9R.out.size))
      have mp : IM wv (mb k) (ranksOf cs R k) := ((OK.out.maps k hkr).below B9R.out (OK.out.maps k hkr).lt).below bv (by have := (OK.out.maps k hkr).lt; have := B9R.out.size; omega)
      have ol : (ownDeps D k).length ≤ D.length := List.length_filter_le _ _
      have rl : (ranksOf cs R k).length ≤ 1000000 := by
        unfold ranksOf chansAt
        rw [List.length_map]
        have := chTo_length cs k cs.length
        have := HC.out
        omega
      have CC := check_any ⟨ns, cs⟩ An Ac a9 cn cc c9 (some (mb k)) (splitPt ⟨ns, cs⟩ D R k) wv (by show ns.length ≤ _; have := HN.out; omega) (by show cs.length ≤ _; have := HC.out; omega) HWF.out (by show (ownDeps D k).length ≤ _; have := DLEN.out; omega) rl (fun d hd => WFD.out d (List.mem_filter.1 hd).1) (plr.below (Nat.le_refl _) bv) hrec (.inr ⟨mb k, rfl, mp⟩)
      rw [CHK.out k hkr] at CC
      have CCH : Hid (Calls Tryz.prog 13 #[.agg #[.slice An ns.length cn, .slice Ac cs.length cc], .agg #[.int .i64 (k : Int), .slice a9 (ownDeps D k).length c9, .map (some (mb k))]] wv fun e w' => e = .returned (.int .i64 0) ∧ Below wv.heap.size wv w') := CC
      have k1 : (k : Int) < (ns.length : Int) := by omega
      have gl := rw9.lt
      have BV := Lib.hid bv
      have HWV := Lib.hid hwv
      clear rw9 hrec9 hrec mp ol rl CC hwv bv hv9 plr
      generalize (ownDeps D k).length = dl at *
      go_wp2_with fail
      rw [HWV.out]
      refine CCH.out.mono ?_
      rintro e w11 ⟨rfl, bel11⟩
      have R : Hid (RelLr ns.length w10 (.int .i64 ((k + 1 : Nat) : Int)) w11) := ⟨k + 1, by omega, rfl, (BE.out.trans (BV.out.mono BE.out.size)).trans (bel11.mono (BE.out.trans (BV.out.mono BE.out.size)).size)⟩
      clear bel11 CCH c0 c1 l0 p0 p1 p2
      go_wp2_with fail
      exact ⟨by simpa using R.out, by simp [RowKit.intOf]; omega⟩
    · obtain rfl : k = ns.length := by omega
      clear plr
      go_wp2_with fail
      go_ret
      exact ⟨rfl, BFR.out⟩
end Go.Proofs.YtljojgpjgjfddaaGreat.localRoutesW
