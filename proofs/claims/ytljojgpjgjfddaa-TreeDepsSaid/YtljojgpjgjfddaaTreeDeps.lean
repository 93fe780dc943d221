/- The walk of the law TreeDeps. -/
import Derived.Test.YtljojgpjgjfddaaTMkS
import Derived.Test.YtljojgpjgjfddaaTOneP
import Derived.Test.YtljojgpjgjfddaaTDep
import Derived.Test.YtljojgpjgjfddaaFrame
namespace Go.Proofs.Ytljojgpjgjfddaa.treeDepsW
open Go.RowKit Go.Maps Go.Sort Go.Shelf
set_option linter.unusedVariables false
set_option linter.unusedSimpArgs false

def RelDd (n : Nat) (w1 : World) (i : Value) (wr : World) : Prop := ∃ k : Nat, k ≤ n ∧ i = .int .i64 k ∧ Below w1.heap.size w1 wr
set_option maxRecDepth 100000 in
set_option maxHeartbeats 8000000 in
theorem walk (An Ac : Option Addr) (cn cc : Nat) (p : Pl) (Al : Option Addr) (cl : Nat) (lv : List Int) (src : Int) (Am : Option Addr) (cm : Nat) (ms : List Int) (w : World)
    (h : IsPlan w An Ac p) (hwf : WfP p) (h2 : IsRec 1 cI 0 w Al lv.length lv) (hwl : WfI lv) (h0 : (Lit.int .u8 src).wf = true) (h3 : IsRec 1 cI 0 w Am ms.length ms) (hwm : WfI ms) (hcm : ms.length ≤ cm) :
    Calls Try.prog 10 #[.agg #[.slice An p.ns.length cn, .slice Ac p.cs.length cc], .agg #[.slice Al lv.length cl], .int .u8 src, .slice Am ms.length cm] w fun e w' => e = .returned (.bool true) ∧ Below w.heap.size w w' := by
  obtain ⟨ns, cs⟩ := p
  simp only
  obtain ⟨w1, hw1⟩ : ∃ w1 : World, (w.alloc (.cells #[.slice An ns.length cn, .slice Ac cs.length cc] 25)).alloc (.cells #[.slice Al lv.length cl] 57) = w1 := ⟨_, rfl⟩
  have s0 : w1.cell? ⟨w.heap.size, 0, none⟩ = some (.slice An ns.length cn) := by rw [← hw1]; simp [go_sem]
  have s1 : w1.cell? ⟨w.heap.size, 1, none⟩ = some (.slice Ac cs.length cc) := by rw [← hw1]; simp [go_sem]
  have s2 : w1.cell? ⟨w.heap.size + 1, 0, none⟩ = some (.slice Al lv.length cl) := by rw [← hw1]; simp [go_sem]
  have sz1 : w.heap.size + 1 < w1.heap.size := by rw [← hw1]; simp
  have BW : Hid (Below w.heap.size w w1) := by rw [Hid, ← hw1]; exact ((Below.refl _ _).alloc (Nat.le_refl _) _).alloc (by simp) _
  have H1 := Lib.hid (h.below (Nat.le_refl _) BW.out)
  have L1 := Lib.hid (h2.below (Nat.le_refl _) BW.out)
  have M1 := Lib.hid (h3.below (Nat.le_refl _) BW.out)
  have HWF := Lib.hid hwf
  have HWL := Lib.hid hwl
  have HWM := Lib.hid hwm
  have KC : Hid (∀ w', Below w1.heap.size w1 w' → (w'.cell? ⟨w.heap.size, 0, none⟩ = some (.slice An ns.length cn) ∧ w'.cell? ⟨w.heap.size, 1, none⟩ = some (.slice Ac cs.length cc) ∧ w'.cell? ⟨w.heap.size + 1, 0, none⟩ = some (.slice Al lv.length cl)) ∧
      Below w.heap.size w w' ∧ IsPlan w' An Ac ⟨ns, cs⟩ ∧ IsRec 1 cI 0 w' Al lv.length lv ∧ IsRec 1 cI 0 w' Am ms.length ms) :=
    fun w' hb => ⟨⟨(hb.cell (by show w.heap.size < _; omega)).trans s0, (hb.cell (by show w.heap.size < _; omega)).trans s1, (hb.cell (by exact sz1)).trans s2⟩, BW.out.trans (hb.mono BW.out.size), H1.out.below (Nat.le_refl _) hb, L1.out.below (Nat.le_refl _) hb, M1.out.below (Nat.le_refl _) hb⟩
  have HW1 := Lib.hid hw1
  obtain ⟨a0, a1⟩ := bounds_u8 h0
  obtain ⟨sn, rfl⟩ : ∃ sn : Nat, src = sn := ⟨src.toNat, by omega⟩
  clear h h2 h3 hw1 hwf hwl hwm s0 s1 s2 h0
  go_enter Try.func10, Try.ntmps10
  go_wp2_with fail
  rw [HW1.out]
  refine (awake23_any _).mono ?_
  rintro e w2 ⟨rfl, bel⟩
  have B2 := Lib.hid bel
  obtain ⟨⟨c0, c1, c2⟩, bw, _⟩ := KC.out w2 bel
  have BW2 := Lib.hid bw
  clear bel bw
  cases hsm : smallB ns.length cs.length lv.length ms.length with
  | false =>
    have hz : smallZ ns.length cs.length lv.length ms.length = 0 := by unfold smallZ; rw [hsm]; rfl
    have SC := small23_any An Ac Al Am ns.length cs.length lv.length ms.length cn cc cl cm w2
    rw [hz] at SC
    go_wp2_with fail
    refine (show Calls _ _ _ _ _ from SC).mono ?_
    rintro e w3 ⟨rfl, rfl⟩
    have BF : Hid (Below w.heap.size w (w2.alloc (.cells #[.slice An ns.length cn, .slice Ac cs.length cc] 25))) := BW2.out.alloc BW2.out.size _
    clear SC
    go_wp2_with fail
    go_ret
    exact ⟨rfl, BF.out⟩
  | true =>
    have hz : smallZ ns.length cs.length lv.length ms.length = 1 := by unfold smallZ; rw [hsm]; rfl
    have hb : ns.length ≤ 8 ∧ cs.length ≤ 12 ∧ lv.length ≤ 20 ∧ ms.length ≤ 20 := by
      unfold smallB at hsm
      simp at hsm
      omega
    obtain ⟨bn, bc, bl, bm⟩ := hb
    have SC := small23_any An Ac Al Am ns.length cs.length lv.length ms.length cn cc cl cm w2
    rw [hz] at SC
    go_wp2_with fail
    refine (show Calls _ _ _ _ _ from SC).mono ?_
    rintro e w3 ⟨rfl, hw3⟩
    have B3 : Hid (Below w1.heap.size w1 w3) := by rw [Hid, ← hw3]; exact B2.out.alloc B2.out.size _
    clear SC hw3 hsm hz c0 c1 c2
    obtain ⟨⟨c0, c1, c2⟩, _, pl3, lr3, _⟩ := KC.out w3 B3.out
    have FC := Lib.hid (fits23_any ⟨ns, cs⟩ lv An Ac Al cn cc cl w3 (by show ns.length ≤ _; omega) (by show cs.length ≤ _; omega) HWF.out (by omega) HWL.out pl3 lr3)
    clear pl3 lr3
    go_wp2_with fail
    refine (show Calls _ _ _ _ _ from FC.out).mono ?_
    rintro e w4 ⟨rfl, bel4⟩
    have B4 : Hid (Below w1.heap.size w1 w4) := B3.out.trans (bel4.mono B3.out.size)
    clear bel4 FC c0 c1 c2
    obtain ⟨⟨c0, c1, c2⟩, bw4, pl4, lr4, mr4⟩ := KC.out w4 B4.out
    have BW4 := Lib.hid bw4
    have PL4 := Lib.hid pl4
    have LR4 := Lib.hid lr4
    have MR4 := Lib.hid mr4
    clear bw4 pl4 lr4 mr4
    cases ho : orderB ⟨ns, cs⟩ lv with
    | false =>
      go_wp2_with fail
      go_ret
      exact ⟨rfl, BW4.out⟩
    | true =>
      by_cases hn0 : ns.length = 0
      · have q1 : ((ns.length : Int) == 0) = true := by simp [hn0]
        clear hn0
        go_wp2_with fail
        go_ret
        exact ⟨rfl, BW4.out⟩
      · have q1 : ((ns.length : Int) == 0) = false := by rw [beq_eq_false_iff_ne]; omega
        obtain ⟨s, hs⟩ : ∃ s : Nat, sn % ns.length = s := ⟨_, rfl⟩
        have hsn : s < ns.length := by rw [← hs]; exact Nat.mod_lt _ (by omega)
        have hrem : (sn : Int).tmod (ns.length : Int) = (s : Int) := by rw [← hs, Int.tmod_eq_emod_of_nonneg (by omega)]; simp
        obtain ⟨te, hte⟩ : ∃ te, tErr ⟨ns, cs⟩ lv ms (s : Int) = te := ⟨_, rfl⟩
        obtain ⟨X, hX⟩ : ∃ X, mkX ns cs lv ms (s : Int) = X := ⟨_, rfl⟩
        have HTE := Lib.hid hte
        have HX := Lib.hid hX
        have HSX : Hid (SmallT X) := by rw [Hid, ← hX]; exact mkX_small _ (by omega)
        have HO := Lib.hid ho
        have MZ : Hid (∀ w', Below w4.heap.size w4 w' → Calls Try.prog 28 #[.agg #[.slice An ns.length cn, .slice Ac cs.length cc], .agg #[.slice Al lv.length cl], .int .i64 (s : Int), .slice Am ms.length cm] w' (fun e w'' => PostX X te w' e w'' ∧ Below w4.heap.size w4 w'' ∧
            ∀ j, (w4.heap.size < w'.heap.size → w''.cell? ⟨w4.heap.size, j, none⟩ = w'.cell? ⟨w4.heap.size, j, none⟩ ∧ w''.frozen? ⟨w4.heap.size, j, none⟩ = w'.frozen? ⟨w4.heap.size, j, none⟩ ∧ w4.heap.size < w''.heap.size ∧ ¬ w4.heap.size = w''.heap.size))) := fun w' hb => by
          obtain ⟨_, _, pl, lr, mr⟩ := KC.out w' (B4.out.trans (hb.mono B4.out.size))
          have h1 := tmake_any ns cs lv ms (s : Int) An Ac Al Am cn cc cl cm w' (by omega) (by omega) HWF.out (by omega) HWL.out (by omega) HWM.out pl lr mr
          refine h1.mono fun e w'' h => ?_
          have h2 := px_of h
          rw [hte, hX] at h2
          have hb2 : Below w'.heap.size w' w'' := h.1
          have hz2 := hb2.size
          exact ⟨h2, hb.trans (hb2.mono hb.size), fun j hl => ⟨hb2.cell hl, hb2.frozen hl, by omega, by omega⟩⟩
        have KP : Hid (∀ w', Below w4.heap.size w4 w' → w'.cell? ⟨w.heap.size, 0, none⟩ = some (.slice An ns.length cn) ∧ w'.cell? ⟨w.heap.size, 1, none⟩ = some (.slice Ac cs.length cc) ∧ w'.cell? ⟨w.heap.size + 1, 0, none⟩ = some (.slice Al lv.length cl)) := fun w' hb => (KC.out w' (B4.out.trans (hb.mono B4.out.size))).1
        clear hs hte hX ho
        go_wp2_with fail
        go_cut [9, 10] from 41 to 53 (fun s9 s10 wx => RGx X te w4 s9 s10 wx)
        case first =>
          clear HTE HX HSX HO H1 L1 M1 HWF HWL HWM KC HW1 B2 BW2 B3 B4 BW4 PL4 LR4 MR4 BW
          have hw0 : IntKind.i64.wrap (s : Int) = (s : Int) := IntWalk.i64_in _ (by omega)
          have hn1 : (0 : Int) < (ns.length : Int) := by omega
          have hw1' : IntKind.i64.wrap (sn : Int) = (sn : Int) := IntWalk.i64_in _ (by omega)
          go_region_held3 (fun w' => w'.cell? ⟨w.heap.size, 0, none⟩ = some (.slice An ns.length cn) ∧ w'.cell? ⟨w.heap.size, 1, none⟩ = some (.slice Ac cs.length cc) ∧ w'.cell? ⟨w.heap.size + 1, 0, none⟩ = some (.slice Al lv.length cl))
            (first | exact ⟨c0, c1, c2⟩ | (refine KP.out _ ?_; repeat (first | exact Below.refl _ _ | exact BS.out | refine below_drewS ?_ | refine below_allocS ?_ _ | refine below_setS ?_ (by first | exact Nat.le_refl _ | (dsimp only; omega) | (dsimp only; have := BS.out.size; omega)))))
            (first
              | (go_at_call 28
                 refine (MZ.out _ (by repeat (first | exact Below.refl _ _ | refine below_drewS ?_ | refine below_allocS ?_ _))).mono ?_
                 rintro e ws ⟨⟨aO, aD, cO, cDl, rfl, ht3, bels⟩, bs1, pos⟩
                 unfold trV
                 have HT3 := Lib.hid ht3
                 have BS := Lib.hid bs1
                 have BLS := Lib.hid bels
                 have xc0 := pos 0
                 have xc1 := pos 1
                 have xc2 := pos 2
                 try simp [go_sem] at xc0
                 try simp [go_sem] at xc1
                 try simp [go_sem] at xc2
                 clear ht3 bels bs1 pos))
          all_goals
            go_wp2_with fail
            go_meet
            case rel =>
              have z0 := BLS.out.size
              simp at z0
              apply rgx_mk
              case hX =>
                first
                  | with_reducible exact blkA0 ws _ _
                  | with_reducible exact fill3 (a0 := .int .i64 0) (a1 := .slice none 0 0) (a2 := .slice none 0 0) (keepD (by with_reducible exact blkA0 _ _ _) BLS.out) _ _ _
              case hB =>
                repeat (first | with_reducible exact BS.out | refine below_allocS ?_ _ | refine below_setS ?_ (by dsimp only; omega))
              case hT =>
                refine HT3.out _ ?_
                first
                  | with_reducible exact AgreeF.alloc _ ws _
                  | exact AgreeF.set3 ws (by simp) _ _ _
        case rest =>
          obtain ⟨bX, aO, aD, cO, cDl, rfl, rfl, belc, hXB, hXT⟩ := hcut
          have B6 : Hid (Below w1.heap.size w1 wc) := B4.out.trans (belc.mono B4.out.size)
          have XB6 := Lib.hid hXB
          have XT6 := Lib.hid hXT
          obtain ⟨⟨pc0, pc1, pc2⟩, bwc, _⟩ := KC.out wc B6.out
          have BW6 := Lib.hid bwc
          clear MZ KP belc hXB hXT c0 c1 c2 bwc
          by_cases ht0 : te = 0
          · obtain ⟨k', hk', mok⟩ := mok_of (HTE.out.trans ht0)
            obtain rfl : s = k' := by omega
            have hXk : X = mkT ns cs lv ms s := by rw [← HX.out]; exact mkX_ok (HTE.out.trans ht0)
            have wys : waysB ns cs X = true := by rw [hXk]; exact mok.mk_ways
            have hsrc : X.src = (s : Int) := by rw [hXk]; rfl
            have HLX : Hid (X.out.length = ns.length) := by rw [Hid, hXk]; exact mkT_len
            subst ht0
            clear hk'
            obtain ⟨s', r, vt⟩ := valid_tree wys
            obtain rfl : s' = s := by have := vt.src; omega
            have DC := tdeps_any ns cs X An Ac aO aD cn cc cO cDl wc (by omega) (by omega) HWF.out HSX.out (KC.out wc B6.out).2.2.1 XT6.out
            unfold trV at DC
            have DCH := Lib.hid DC
            have x0c : wc.cell? ⟨bX, 0, none⟩ = some (.int .i64 X.src) := XB6.out.cell 0
            have x1c : wc.cell? ⟨bX, 1, none⟩ = some (.slice aO X.out.length cO) := XB6.out.cell 1
            have x2c : wc.cell? ⟨bX, 2, none⟩ = some (.slice aD X.del.length cDl) := XB6.out.cell 2
            have WY := Lib.hid wys
            have SRC := Lib.hid hsrc
            have DL := Lib.hid vt.dep_len
            have DE : Hid (∀ d ∈ depT23 ns.length cs X, (chEnds cs d.1).2 = d.2.2 ∧ (chEnds cs d.2.1).1 = d.2.2 ∧ d.2.2 ≠ X.src ∧ (0 ≤ d.1 ∧ d.1 < 2 * cs.length) ∧ 0 ≤ d.2.1 ∧ d.2.1 < 2 * cs.length) := fun d hd => vt.dep_ends hd
            have DA : Hid (∀ l : List Dp, l.Perm (depT23 ns.length cs X) → l.Pairwise (fun a b => ¬ keyLt b a) → l.Pairwise keyLt) := fun l h1 h2 => vt.dep_asc h1 h2
            have HVP := Lib.hid vt.hv
            have RLN := Lib.hid (vt.row_len s')
            have VTR : Hid (∀ u, (X.out.getD u []).length ≤ 32) := fun u => vt.row_len u
            clear q1 DC wys hsrc vt hXk mok
            go_wp2_with fail
            refine (show Calls _ _ _ _ _ from DCH.out).mono ?_
            rintro e w7 ⟨bel7, ⟨hw, _⟩ | ⟨_, ts, v, hp, hs, rfl, own⟩⟩
            · rw [WY.out] at hw; cases hw
            · obtain ⟨aT, cT, hv, _, rects, _⟩ := rec_of_own (d := d0) (c := cD) (fun _ => rfl) (by decide) own
              subst hv
              have TLN : Hid (ts.length + (X.out.getD s' []).length = sumL X.out) := by rw [Hid, hp.length_eq]; exact DL.out
              have TDE : Hid (∀ d ∈ ts, (chEnds cs d.1).2 = d.2.2 ∧ (chEnds cs d.2.1).1 = d.2.2 ∧ d.2.2 ≠ X.src ∧ (0 ≤ d.1 ∧ d.1 < 2 * cs.length) ∧ 0 ≤ d.2.1 ∧ d.2.1 < 2 * cs.length) := fun d hd => DE.out d (hp.mem_iff.1 hd)
              have TDA := Lib.hid (DA.out ts hp hs)
              have RT7 := Lib.hid rects
              have B7 : Hid (Below w1.heap.size w1 w7) := B6.out.trans (bel7.mono B6.out.size)
              have XB7 : Hid (Blk w7 bX 61 #[.int .i64 X.src, .slice aO X.out.length cO, .slice aD X.del.length cDl]) := XB6.out.below bel7 XB6.out.lt
              have XT7 : Hid (IsTree w7 aO aD X) := XT6.out.below (Nat.le_refl _) bel7
              have CP : Hid (∀ w', Below w7.heap.size w7 w' → Calls Try.prog 32 #[.agg #[.slice An ns.length cn, .slice Ac cs.length cc], .agg #[.int .i64 (s' : Int), .slice aO X.out.length cO, .slice aD X.del.length cDl]] w' fun e w'' => e = .returned (.int .i64 (sumL X.out : Int)) ∧ Below w'.heap.size w' w'') := fun w' hb => by
                have h1 := tcopies_any ns cs X An Ac aO aD cn cc cO cDl w' (by omega) (by omega) HWF.out HSX.out (KC.out w' (B7.out.trans (hb.mono B7.out.size))).2.2.1 (XT7.out.below (Nat.le_refl _) hb)
                unfold copiesB trV at h1
                rw [if_pos WY.out, SRC.out] at h1
                exact h1
              obtain ⟨bo, oo, ar, capr, hao, hbo, hmr, hrr, cr0⟩ := XT7.out.out.at_ s' (by have := HLX.out; omega)
              have x0 : w7.cell? ⟨bX, 0, none⟩ = some (.int .i64 (s' : Int)) := by rw [← SRC.out]; exact XB7.out.cell 0
              have x1 : w7.cell? ⟨bX, 1, none⟩ = some (.slice aO X.out.length cO) := XB7.out.cell 1
              have x2 : w7.cell? ⟨bX, 2, none⟩ = some (.slice aD X.del.length cDl) := XB7.out.cell 2
              obtain ⟨⟨c0, c1, c2⟩, _⟩ := KC.out w7 B7.out
              have SLN := TLN.out
              have SL2 := RLN.out
              have hts : ts.length ≤ 8000 := by
                have h1 := depL_bd (cs := cs) (ov := (reachR ns.length cs X).1) (out := X.out) (fun u => by have := (VTR.out u); omega) ns.length
                have h2 : ts.length = (depT23 ns.length cs X).length := hp.length_eq
                unfold depT23 at h2
                have : ns.length * 1000 ≤ 8 * 1000 := Nat.mul_le_mul_right _ bn
                omega
              have K7 : Hid (∀ w', Below w7.heap.size w7 w' → w'.cell? ⟨w.heap.size, 0, none⟩ = some (.slice An ns.length cn) ∧ w'.cell? ⟨w.heap.size, 1, none⟩ = some (.slice Ac cs.length cc) ∧ w'.cell? ⟨bX, 0, none⟩ = some (.int .i64 (s' : Int)) ∧ w'.cell? ⟨bX, 1, none⟩ = some (.slice aO X.out.length cO) ∧ w'.cell? ⟨bX, 2, none⟩ = some (.slice aD X.del.length cDl) ∧ w'.cell? ⟨bo, oo + s', none⟩ = some (.slice ar (X.out.getD s' []).length capr)) := fun w' hb => by
                obtain ⟨⟨a0, a1, _⟩, _⟩ := KC.out w' (B7.out.trans (hb.mono B7.out.size))
                exact ⟨a0, a1, (hb.cell XB7.out.lt).trans x0, (hb.cell XB7.out.lt).trans x1, (hb.cell XB7.out.lt).trans x2, (hb.cell (by exact hbo)).trans cr0⟩
              have EC : Hid (∀ (c a b : Int) w', Below w7.heap.size w7 w' → chEnds cs c = (a, b) → 0 ≤ c → c < 2 * cs.length → Calls Try.prog 41 #[.agg #[.slice An ns.length cn, .slice Ac cs.length cc], .int .i64 c] w' fun e w'' => e = .returned (.tuple #[.int .i64 a, .int .i64 b, .int .i64 0]) ∧ Below w'.heap.size w' w'') := fun c a b w' hb he h0 h1 => by
                have h2 := Ends_any ⟨ns, cs⟩ An Ac cn cc c w' (by show ns.length ≤ _; omega) (by show cs.length ≤ _; omega) HWF.out (KC.out w' (B7.out.trans (hb.mono B7.out.size))).2.2.1
                have e1 : endsRC ⟨ns, cs⟩ c = (a, b, 0) := by
                  unfold endsRC
                  rw [if_neg (by rw [HVP.out]; decide), if_neg (by simp only; omega)]
                  simp only
                  rw [he]
                rw [e1] at h2
                exact h2
              have BW7 : Hid (∀ w', Below w7.heap.size w7 w' → Below w.heap.size w w') := fun w' hb => (KC.out w' (B7.out.trans (hb.mono B7.out.size))).2.1
              have TDE2 : Hid (∀ d ∈ ts, (chEnds cs d.1).2 = d.2.2 ∧ (chEnds cs d.2.1).1 = d.2.2 ∧ d.2.2 ≠ (s' : Int) ∧ (0 ≤ d.1 ∧ d.1 < 2 * cs.length) ∧ 0 ≤ d.2.1 ∧ d.2.1 < 2 * cs.length) := by have := TDE.out; rw [SRC.out] at this; exact this
              have XN := HLX.out
              generalize (X.out.getD s' []).length = rl at *
              generalize hsL : sumL X.out = sL at *
              have q2 : ((X.out.length : Int) != (ns.length : Int)) = false := by rw [XN]; simp
              have q3 : IntKind.i64.wrap ((sL : Int) - (rl : Int)) = (sL : Int) - (rl : Int) := IntWalk.i64_in _ (by omega)
              have q4 : ((ts.length : Int) != (sL : Int) - (rl : Int)) = false := by rw [bne_eq_false_iff_eq]; omega
              have q5 : (0 : Int) ≤ (s' : Int) := by omega
              have q6 : (s' : Int) < (X.out.length : Int) := by omega
              subst hao
              clear hmr hrr hsL TDE DL DE DA TLN SLN HX HSX XT6 XB6 DCH x0c x1c x2c pc0 pc1 pc2 hp hs own rects bel7 VTR XN
              go_wp2_with fail
              go_region_held3 (fun w' => w'.cell? ⟨w.heap.size, 0, none⟩ = some (.slice An ns.length cn) ∧ w'.cell? ⟨w.heap.size, 1, none⟩ = some (.slice Ac cs.length cc) ∧ w'.cell? ⟨bX, 0, none⟩ = some (.int .i64 (s' : Int)) ∧ w'.cell? ⟨bX, 1, none⟩ = some (.slice (some ⟨bo, oo, none⟩) X.out.length cO) ∧ w'.cell? ⟨bX, 2, none⟩ = some (.slice aD X.del.length cDl) ∧ w'.cell? ⟨bo, oo + s', none⟩ = some (.slice ar rl capr))
                (first | exact ⟨c0, c1, x0, x1, x2, cr0⟩ | (refine K7.out _ ?_; repeat (first | exact Below.refl _ _ | exact BS.out | refine Below.drew ?_)))
                (first
                  | (go_at_call 32
                     refine (CP.out _ (by repeat (first | exact Below.refl _ _ | refine Below.drew ?_))).mono ?_
                     rintro e ws ⟨rfl, bels⟩
                     have BS : Hid (Below w7.heap.size w7 ws) := (Below.refl _ _).drew.trans bels
                     clear bels))
              all_goals
                obtain ⟨c0', c1', x0', _⟩ := K7.out ws BS.out
                have RT8 : Hid (IsRec 3 Go.Proofs.Ytljojgpjgjfddaa.cD d0 ws aT ts.length ts) := RT7.out.below (Nat.le_refl _) BS.out
                have KD : Hid (∀ w', Below ws.heap.size ws w' → (w'.cell? ⟨w.heap.size, 0, none⟩ = some (.slice An ns.length cn) ∧ w'.cell? ⟨w.heap.size, 1, none⟩ = some (.slice Ac cs.length cc) ∧ w'.cell? ⟨bX, 0, none⟩ = some (.int .i64 (s' : Int))) ∧ Below w7.heap.size w7 w' ∧ Below w.heap.size w w' ∧ IsRec 3 Go.Proofs.Ytljojgpjgjfddaa.cD d0 w' aT ts.length ts) := fun w' hb => by
                  have h7 := BS.out.trans (hb.mono BS.out.size)
                  obtain ⟨a0, a1, a2, _⟩ := K7.out w' h7
                  exact ⟨⟨a0, a1, a2⟩, h7, BW7.out w' h7, RT8.out.below (Nat.le_refl _) hb⟩
                have lwX : w.heap.size < ws.heap.size := by have := (KD.out ws (Below.refl _ _)).2.2.1.size; have := B7.out.size; have := BS.out.size; omega
                have lX : bX < ws.heap.size := by have := XB7.out.lt; have := BS.out.size; omega
                clear c0 c1 x0 x1 x2 cr0 c2 q2 q3 q4 q5 q6 CP
                go_wp2_with fail
                clear c0' c1' x0'
                go_loopw [91] (fun i wr => RelDd ts.length ws i wr) (fun i _ => ts.length - (RowKit.intOf i).toNat)
                case atStart => exact ⟨0, Nat.zero_le _, rfl, Below.refl _ _⟩
                case round =>
                  obtain ⟨k, hk, rfl, belr⟩ := hrel
                  have BR := Lib.hid belr
                  clear belr
                  by_cases hkr : k < ts.length
                  · obtain ⟨bt, ot, hat, hbt, hmd, e0, e1, e2⟩ := dep_at (KD.out wr BR.out).2.2.2 k hkr
                    obtain ⟨de1, de2, de3, ⟨de4, de5⟩, de6, de7⟩ := TDE2.out _ hmd
                    have PRV : Hid (∀ w', Below ws.heap.size ws w' → 0 < k → w'.cell? ⟨bt, ot + (k - 1) * 3, none⟩ = some (.int .i64 (ts.getD (k - 1) d0).1) ∧ w'.cell? ⟨bt, ot + (k - 1) * 3 + 1, none⟩ = some (.int .i64 (ts.getD (k - 1) d0).2.1)) := fun w' hb h0 => by
                      obtain ⟨b9, o9, ha9, _, _, f0, f1, _⟩ := dep_at (KD.out w' hb).2.2.2 (k - 1) (by omega)
                      rw [hat] at ha9
                      injection ha9 with ha9
                      injection ha9 with ga gb
                      subst ga
                      subst gb
                      exact ⟨f0, f1⟩
                    have ASC : Hid (0 < k → keyLt (ts.getD (k - 1) d0) (ts.getD k d0)) := fun h0 => by
                      have h1 := List.pairwise_iff_getElem.1 TDA.out (k - 1) k (by omega) hkr (by omega)
                      have g1 : ts.getD (k - 1) d0 = ts[k - 1]'(by omega) := by simp [List.getD, show k - 1 < ts.length by omega]
                      have g2 : ts.getD k d0 = ts[k] := by simp [List.getD, hkr]
                      rw [g1, g2]; exact h1
                    generalize ts.getD (k - 1) d0 = pd at *
                    generalize ts.getD k d0 = d at *
                    obtain ⟨df, dt, dn⟩ := d
                    obtain ⟨pf, pt, pn⟩ := pd
                    simp only at e0 e1 e2 de1 de2 de3 de4 de5 de6 de7 PRV
                    obtain ⟨⟨a0, a1, a2⟩, _⟩ := KD.out wr BR.out
                    have zr := BR.out.size
                    have l0 : w.heap.size < wr.heap.size := by omega
                    have n0 : ¬ w.heap.size = wr.heap.size := by omega
                    have l2 : bX < wr.heap.size := by omega
                    have n2 : ¬ bX = wr.heap.size := by omega
                    obtain ⟨wa, hwa⟩ : ∃ wa : World, wr.alloc (.cells #[.int .i64 df, .int .i64 dt, .int .i64 dn] 49) = wa := ⟨_, rfl⟩
                    have bwa : Below wr.heap.size wr wa := by rw [← hwa]; exact (Below.refl _ _).alloc (Nat.le_refl _) _
                    have BA : Hid (Below ws.heap.size ws wa) := BR.out.trans (bwa.mono BR.out.size)
                    have DB : Hid (Blk wa wr.heap.size 49 #[.int .i64 df, .int .i64 dt, .int .i64 dn]) := by rw [Hid, ← hwa]; exact Blk.new _ _ _
                    have HWA := Lib.hid hwa
                    obtain ⟨ea, hea⟩ : ∃ ea, (chEnds cs df).1 = ea := ⟨_, rfl⟩
                    obtain ⟨eb, heb⟩ : ∃ eb, (chEnds cs dt).2 = eb := ⟨_, rfl⟩
                    have EC1 := Lib.hid (fun (w' : World) (hb : Below ws.heap.size ws w') => EC.out df ea dn w' (KD.out w' hb).2.1 (Prod.ext hea de1) de4 de5)
                    have EC2 := Lib.hid (fun (w' : World) (hb : Below ws.heap.size ws w') => EC.out dt dn eb w' (KD.out w' hb).2.1 (Prod.ext de2 heb) de6 de7)
                    have NE : Hid (¬ dn = (s' : Int)) := de3
                    have HAT := Lib.hid hat
                    subst hat
                    clear hea heb de1 de2 de3 de4 de5 de6 de7 hwa bwa hmd
                    have ki : (k : Int) < (ts.length : Int) := by omega
                    go_wp2_with fail
                    rw [HWA.out]
                    refine (EC1.out _ BA.out).mono ?_
                    rintro e wb ⟨rfl, belb⟩
                    have BB : Hid (Below ws.heap.size ws wb) := BA.out.trans (belb.mono BA.out.size)
                    have DBb : Hid (Blk wb wr.heap.size 49 #[.int .i64 df, .int .i64 dt, .int .i64 dn]) := DB.out.below belb DB.out.lt
                    obtain ⟨⟨b0, b1, _⟩, _⟩ := KD.out wb BB.out
                    have z1 : wb.cell? ⟨wr.heap.size, 1, none⟩ = some (.int .i64 dt) := DBb.out.cell 1
                    clear a0 a1 a2 e0 e1 e2 belb
                    go_wp2_with fail
                    refine (EC2.out _ BB.out).mono ?_
                    rintro e wd ⟨rfl, beld⟩
                    have BD : Hid (Below ws.heap.size ws wd) := BB.out.trans (beld.mono BB.out.size)
                    have DBd : Hid (Blk wd wr.heap.size 49 #[.int .i64 df, .int .i64 dt, .int .i64 dn]) := DBb.out.below beld DBb.out.lt
                    have R : Hid (∀ nq, RelDd ts.length ws (.int .i64 ((k + 1 : Nat) : Int)) (wd.drewN nq)) := fun nq => ⟨k + 1, by omega, rfl, below_drewN BD.out nq⟩
                    obtain ⟨⟨_, _, x0⟩, _⟩ := KD.out wd BD.out
                    have z0 : wd.cell? ⟨wr.heap.size, 0, none⟩ = some (.int .i64 df) := DBd.out.cell 0
                    have z1 : wd.cell? ⟨wr.heap.size, 1, none⟩ = some (.int .i64 dt) := DBd.out.cell 1
                    have z2 : wd.cell? ⟨wr.heap.size, 2, none⟩ = some (.int .i64 dn) := DBd.out.cell 2
                    have ndn : (dn == (s' : Int)) = false := by rw [beq_eq_false_iff_ne]; exact NE.out
                    clear b0 b1 beld EC1 EC2
                    by_cases hk0 : 0 < k
                    · obtain ⟨p0, p1⟩ := PRV.out wd BD.out hk0
                      have k1 : decide ((0 : Int) < (k : Int)) = true := by simp; omega
                      have k2 : IntKind.i64.wrap ((k : Int) - 1) = (k : Int) - 1 := IntWalk.i64_in _ (by omega)
                      have k3 : (0 : Int) ≤ (k : Int) - 1 := by omega
                      have k4 : (k : Int) - 1 < (ts.length : Int) := by omega
                      have k5 : ((k : Int) - 1).toNat = k - 1 := by omega
                      rcases ASC.out hk0 with h1 | ⟨h1, h2⟩
                      · simp only at h1
                        have g1 : decide (df < pf) = false := by simp; omega
                        have g2 : (df == pf) = false := by rw [beq_eq_false_iff_ne]; omega
                        clear PRV ASC
                        go_wp2_with fail
                        go_quiet (fail)
                        go_wp2_with fail
                        exact ⟨by simpa using R.out _, by simp [RowKit.intOf]; omega⟩
                      · simp only at h1 h2
                        subst h1
                        have g1 : decide (pf < pf) = false := by simp
                        have g2 : (pf == pf) = true := by simp
                        have g3 : decide (dt ≤ pt) = false := by simp; omega
                        clear PRV ASC
                        go_wp2_with fail
                        go_quiet (fail)
                        go_wp2_with fail
                        exact ⟨by simpa using R.out _, by simp [RowKit.intOf]; omega⟩
                    · have k1 : decide ((0 : Int) < (k : Int)) = false := by simp; omega
                      clear PRV ASC
                      go_wp2_with fail
                      go_quiet (fail)
                      go_wp2_with fail
                      exact ⟨by simpa using R.out _, by simp [RowKit.intOf]; omega⟩
                  · obtain rfl : k = ts.length := by omega
                    have BF := Lib.hid (KD.out wr BR.out).2.2.1
                    go_wp2_with fail
                    go_ret
                    exact ⟨rfl, BF.out⟩
          · have q3 : (te != 0) = true := by simpa using ht0
            clear q1 pc0 pc1 pc2
            go_wp2_with fail
            go_ret
            exact ⟨rfl, BW6.out⟩
