/- The walk of the law ChannelTurns. -/
import Derived.Test.YtlhblaemoejefaaChannelAcyclic
import Derived.Test.YtlhblaemoejefaaNTurn
namespace Go.Proofs.Ytlhblaemoejefaa.channelTurnsW
open Go.RowKit Go.Maps Go.Sort Go.Shelf
set_option linter.unusedVariables false
set_option linter.unusedSimpArgs false
set_option maxRecDepth 100000 in
set_option maxHeartbeats 8000000 in
theorem walk (An Ac : Option Addr) (cn cc : Nat) (p : Pl) (Au : Option Addr) (cu : Nat) (us : List Bool) (root : Int) (w : World)
    (h : IsPlan w An Ac p) (hwf : WfP p) (h2 : IsRec 1 cB false w Au us.length us) (hroot : (Lit.int .i64 root).wf = true) :
    Calls Try.prog 11 #[.agg #[.slice An p.ns.length cn, .slice Ac p.cs.length cc], .slice Au us.length cu, .int .i64 root] w fun e w' => e = .returned (.bool true) ∧ Below w.heap.size w w' := by
  obtain ⟨ns, cs⟩ := p
  simp only
  obtain ⟨w1, hw1⟩ : ∃ w1 : World, w.alloc (.cells #[.slice An ns.length cn, .slice Ac cs.length cc] 40) = w1 := ⟨_, rfl⟩
  have BW : Hid (Below w.heap.size w w1) := by rw [← hw1]; exact (Below.refl _ _).alloc (Nat.le_refl _) _
  have P0 : Hid (Blk w1 w.heap.size 40 #[.slice An ns.length cn, .slice Ac cs.length cc]) := by rw [← hw1]; exact Blk.new _ _ _
  have H1 := Lib.hid (h.below (Nat.le_refl _) BW.out)
  have U1 := Lib.hid (h2.below (Nat.le_refl _) BW.out)
  have HWF := Lib.hid hwf
  have KC : Hid (∀ w', Below w1.heap.size w1 w' → w'.cell? ⟨w.heap.size, 0, none⟩ = some (.slice An ns.length cn) ∧ w'.cell? ⟨w.heap.size, 1, none⟩ = some (.slice Ac cs.length cc) ∧ w.heap.size < w'.heap.size ∧
      Below w.heap.size w w' ∧ IsPlan w' An Ac ⟨ns, cs⟩ ∧ IsRec 1 cB false w' Au us.length us) := fun w' hb => by
    have hp := P0.out.below hb P0.out.lt
    exact ⟨by rw [hp.cell]; rfl, by rw [hp.cell]; rfl, hp.lt, BW.out.trans (hb.mono BW.out.size), H1.out.below (Nat.le_refl _) hb, U1.out.below (Nat.le_refl _) hb⟩
  have HW1 := Lib.hid hw1
  clear hw1 h h2 hwf
  go_enter Try.func11, Try.ntmps11
  go_wp2_with fail
  rw [HW1.out]
  refine (awake20_any _).mono ?_
  rintro e w2 ⟨rfl, bel⟩
  have B2 := Lib.hid bel
  clear bel HW1
  obtain ⟨c0, c1, l0, _⟩ := KC.out w2 B2.out
  cases hg : great20B ns.length cs.length us.length with
  | true =>
    go_wp2_with fail
    refine (great20_any An Ac Au ns.length cs.length us.length cn cc cu w2 _ hg).mono ?_
    rintro e w3 ⟨rfl, rfl⟩
    have F := Lib.hid ((KC.out _ (B2.out.alloc B2.out.size (.cells #[.slice An ns.length cn, .slice Ac cs.length cc] 40))).2.2.2.1)
    go_wp2_with fail
    go_ret
    exact ⟨rfl, F.out⟩
  | false =>
    have hl : ns.length ≤ 20 ∧ cs.length ≤ 40 ∧ us.length ≤ 60 := by
      unfold great20B at hg; simp at hg; omega
    obtain ⟨hln, hlc, hlu⟩ := hl
    go_wp2_with fail
    refine (great20_any An Ac Au ns.length cs.length us.length cn cc cu w2 _ hg).mono ?_
    rintro e w3 ⟨rfl, hw3⟩
    have B3 : Hid (Below w1.heap.size w1 w3) := by rw [← hw3]; exact B2.out.alloc B2.out.size _
    clear hw3 hg c0 c1 l0
    obtain ⟨c0, c1, l0, bf3, p3, u3⟩ := KC.out w3 B3.out
    have HN := Lib.hid (network_any ns cs us root An Ac Au cn cc cu w3 (by omega) (by omega) (by omega) HWF.out p3 u3)
    clear bf3 p3 u3
    go_wp2_with fail
    refine HN.out.mono ?_
    rintro e w4 ⟨bel4, rfl | ⟨lv, G, aL, cL, aT, cT, net, rfl, rl, rt, hwl, hul⟩⟩
    · have F := Lib.hid ((KC.out _ (B3.out.trans (bel4.mono B3.out.size))).2.2.2.1)
      have F2 : Hid (Below w.heap.size w ((w4.alloc (.cells #[.slice none 0 0] 51)).alloc (.cells #[.slice none 0 0] 54))) := (F.out.alloc F.out.size _).alloc (by have := F.out.size; simp; omega) _
      clear bel4 HN c0 c1
      go_wp2_with fail
      go_ret
      exact ⟨rfl, F2.out⟩
    · have B4 : Hid (Below w1.heap.size w1 w4) := B3.out.trans (bel4.mono B3.out.size)
      obtain ⟨w5, hw5⟩ : ∃ w5 : World, (w4.alloc (.cells #[.slice aL lv.length cL] 51)).alloc (.cells #[.slice aT ns.length cT] 54) = w5 := ⟨_, rfl⟩
      have B45 : Hid (Below w4.heap.size w4 w5) := by rw [← hw5]; exact ((Below.refl _ _).alloc (Nat.le_refl _) _).alloc (by simp) _
      have B5 : Hid (Below w1.heap.size w1 w5) := B4.out.trans (B45.out.mono B4.out.size)
      have RL5 := Lib.hid (rl.below (Nat.le_refl _) B45.out)
      have RT5 := Lib.hid (rt.below (Nat.le_refl _) B45.out)
      have NET := Lib.hid net
      have hll := net.len
      have DLEN := net.dlen
      have WD := Lib.hid net.wfd
      have HD := deps_any ⟨ns, cs⟩ lv (tabOf ns.length G) An Ac aL aT cn cc cL cT w5 (by show ns.length ≤ _; omega) (by show cs.length ≤ _; omega) HWF.out (by omega) hwl (by rw [tabOf_len]; omega) net.wft (KC.out w5 B5.out).2.2.2.2.1 RL5.out (by rw [tabOf_len]; exact RT5.out)
      rw [tabOf_len] at HD
      have HDD := Lib.hid HD
      obtain ⟨k0, k1, l4, _⟩ := KC.out w4 B4.out
      have HW5 := Lib.hid hw5
      have PO5 : Hid (Blk w5 w4.heap.size 51 #[.slice aL lv.length cL]) := by rw [← hw5]; exact (Blk.new _ _ _).alloc _
      have HWL := Lib.hid hwl
      have TRN := Lib.hid net.turns
      clear net rl rt hwl hul bel4 HN c0 c1 l0 hw5 HD hll
      go_wp2_with fail
      rw [HW5.out]
      refine HDD.out.mono ?_
      rintro e w6 ⟨bel6, ⟨hbad, _⟩ | ⟨_, v, rfl, own⟩⟩
      · exact absurd hbad (by rw [NET.out.ord, NET.out.table]; simp)
      · generalize depsD ⟨ns, cs⟩ lv (tabOf ns.length G) = D at *
        have B6 : Hid (Below w1.heap.size w1 w6) := B5.out.trans (bel6.mono B5.out.size)
        obtain ⟨pa, pc, hv7, _, r7, _⟩ := rec_of_own (d := d0) (c := cD) (fun _ => rfl) (by decide) own
        subst hv7
        have R7 := Lib.hid r7
        have RL6 := Lib.hid (RL5.out.below (Nat.le_refl _) bel6)
        have PO6 := Lib.hid (PO5.out.below bel6 PO5.out.lt)
        obtain ⟨bo, hbo⟩ : ∃ bo, w4.heap.size = bo := ⟨_, rfl⟩
        rw [hbo] at PO6
        have HBO := Lib.hid hbo
        have KD : Hid (∀ W, Below w6.heap.size w6 W → W.cell? ⟨w.heap.size, 0, none⟩ = some (.slice An ns.length cn) ∧ W.cell? ⟨w.heap.size, 1, none⟩ = some (.slice Ac cs.length cc) ∧ W.cell? ⟨bo, 0, none⟩ = some (.slice aL lv.length cL) ∧ w.heap.size < W.heap.size ∧ bo < W.heap.size ∧
            Below w.heap.size w W ∧ IsPlan W An Ac ⟨ns, cs⟩ ∧ IsRec 1 cI 0 W aL lv.length lv) := fun W hW => by
          have hb : Below w1.heap.size w1 W := B6.out.trans (hW.mono B6.out.size)
          obtain ⟨x0, x1, x2, x3, x4, _⟩ := KC.out W hb
          have po := PO6.out.below hW PO6.out.lt
          exact ⟨x0, x1, po.one.1, x2, po.lt, x3, x4, RL6.out.below (Nat.le_refl _) hW⟩
        have ST : Hid (Below w6.heap.size w6 w6) := Below.refl _ _
        clear bel6 HDD k0 k1 l4 own r7 hbo
        go_wp2_with fail
        rw [HBO.out]
        go_loopw [48] (fun i wr => ∃ k : Nat, k ≤ D.length ∧ i = .int .i64 k ∧ Below w6.heap.size w6 wr) (fun i _ => D.length - (RowKit.intOf i).toNat)
        case atStart => exact ⟨0, Nat.zero_le _, rfl, ST.out⟩
        case round =>
          clear ST
          obtain ⟨k, hk, rfl, bel⟩ := hrel
          have BEL := Lib.hid bel
          by_cases hkr : k < D.length
          · obtain ⟨bb, off, ha, hbb, hmem, e0, e1, e2⟩ := dep_at (R7.out.below (Nat.le_refl _) bel) k hkr
            have TK := TRN.out _ hmem
            obtain ⟨c0, c1, c2, l0, l1, _, p6, r6⟩ := KD.out wr bel
            generalize D.getD k d0 = x at *
            subst ha
            obtain ⟨df, dt, dn⟩ := x
            simp only at e0 e1 e2
            obtain ⟨u, v, x, i, i2, hu, hv, hx, hi, hi2, a0, a1, b0, b1, en1, en2, en, q1, q2, t1, t2, lu, lw, lx, hup, hne⟩ := TK
            simp only at a0 a1 b0 b1 en1 en2 en q1 q2
            subst en
            obtain ⟨w7, hw7⟩ : ∃ w7 : World, wr.alloc (.cells #[.int .i64 df, .int .i64 dt, .int .i64 (v : Int)] 28) = w7 := ⟨_, rfl⟩
            obtain ⟨bd, hbd⟩ : ∃ bd, wr.heap.size = bd := ⟨_, rfl⟩
            have PD : Hid (Blk w7 bd 28 #[.int .i64 df, .int .i64 dt, .int .i64 (v : Int)]) := by rw [← hw7, ← hbd]; exact Blk.new _ _ _
            have B7 : Hid (Below w6.heap.size w6 w7) := by rw [← hw7]; exact bel.alloc bel.size _
            have hvl := NET.out.valid
            have E1 : Hid (endsR ⟨ns, cs⟩ df = ((u : Int), (v : Int), 0)) := by rw [Hid]; unfold endsR; rw [if_neg (by simp [hvl]), if_neg (by show ¬ (df < 0 ∨ 2 * (cs.length : Int) ≤ df); omega)]; show ((chEnds cs df).1, (chEnds cs df).2, (0 : Int)) = _; rw [en1]
            have E2 : Hid (endsR ⟨ns, cs⟩ dt = ((v : Int), (x : Int), 0)) := by rw [Hid]; unfold endsR; rw [if_neg (by simp [hvl]), if_neg (by show ¬ (dt < 0 ∨ 2 * (cs.length : Int) ≤ dt); omega)]; show ((chEnds cs dt).1, (chEnds cs dt).2, (0 : Int)) = _; rw [en2]
            have HE1 : Hid (∀ W, Below w6.heap.size w6 W → Calls Try.prog 22 #[.agg #[.slice An ns.length cn, .slice Ac cs.length cc], .int .i64 df] W fun e w' => e = .returned (.tuple #[.int .i64 (u : Int), .int .i64 (v : Int), .int .i64 0]) ∧ Below W.heap.size W w') := fun W hW => by
              have := Ends_any ⟨ns, cs⟩ An Ac cn cc df W (by show ns.length ≤ _; omega) (by show cs.length ≤ _; omega) HWF.out (KD.out W hW).2.2.2.2.2.2.1
              rw [E1.out] at this; exact this
            have HE2 : Hid (∀ W, Below w6.heap.size w6 W → Calls Try.prog 22 #[.agg #[.slice An ns.length cn, .slice Ac cs.length cc], .int .i64 dt] W fun e w' => e = .returned (.tuple #[.int .i64 (v : Int), .int .i64 (x : Int), .int .i64 0]) ∧ Below W.heap.size W w') := fun W hW => by
              have := Ends_any ⟨ns, cs⟩ An Ac cn cc dt W (by show ns.length ≤ _; omega) (by show cs.length ≤ _; omega) HWF.out (KD.out W hW).2.2.2.2.2.2.1
              rw [E2.out] at this; exact this
            have HOE : Hid (∀ W, Below w6.heap.size w6 W → Calls Try.prog 38 #[.agg #[.slice An ns.length cn, .slice Ac cs.length cc], .int .i64 df] W fun e w' => e = .returned (.int .i64 (u : Int)) ∧ Below W.heap.size W w') := fun W hW => by
              have := otherEnd_any ⟨ns, cs⟩ An Ac cn cc df W (by show ns.length ≤ _; omega) (by show cs.length ≤ _; omega) HWF.out (KD.out W hW).2.2.2.2.2.2.1
              rw [E1.out] at this; exact this
            have HU1 : Hid (∀ W, Below w6.heap.size w6 W → Calls Try.prog 37 #[.agg #[.slice An ns.length cn, .slice Ac cs.length cc], .agg #[.slice aL lv.length cL], .int .i64 (i : Int), .int .i64 (u : Int)] W fun e w' => e = .returned (.tuple #[.bool (upB lv u v), .int .i64 0]) ∧ Below W.heap.size W w') := fun W hW =>
              upward_any ns cs lv An Ac aL cn cc cL i u v W NET.out.ord hi t1 hu hv lu lw HWF.out HWL.out (KD.out W hW).2.2.2.2.2.2.1 (KD.out W hW).2.2.2.2.2.2.2
            have HU2 : Hid (∀ W, Below w6.heap.size w6 W → Calls Try.prog 37 #[.agg #[.slice An ns.length cn, .slice Ac cs.length cc], .agg #[.slice aL lv.length cL], .int .i64 (i2 : Int), .int .i64 (v : Int)] W fun e w' => e = .returned (.tuple #[.bool (upB lv v x), .int .i64 0]) ∧ Below W.heap.size W w') := fun W hW =>
              upward_any ns cs lv An Ac aL cn cc cL i2 v x W NET.out.ord hi2 t2 hv hx lw lx HWF.out HWL.out (KD.out W hW).2.2.2.2.2.2.1 (KD.out W hW).2.2.2.2.2.2.2
            have HTU : Hid (∀ W, Below w6.heap.size w6 W → Calls Try.prog 39 #[.agg #[.slice An ns.length cn, .slice Ac cs.length cc], .agg #[.slice aL lv.length cL], .int .i64 (i : Int), .int .i64 (v : Int), .int .i64 (i2 : Int)] W fun e w' => e = .returned (.bool true) ∧ Below W.heap.size W w') := fun W hW =>
              turn_any ns cs lv An Ac aL cn cc cL i i2 u v x W NET.out.ord hi hi2 t1 t2 hu hv hx lu lw lx hne hup HWF.out HWL.out (KD.out W hW).2.2.2.2.2.2.1 (KD.out W hW).2.2.2.2.2.2.2
            have HUP : Hid (upB lv v x = true → upB lv u v = true) := hup
            have KE : Hid (∀ W, Below w7.heap.size w7 W → W.cell? ⟨w.heap.size, 0, none⟩ = some (.slice An ns.length cn) ∧ W.cell? ⟨w.heap.size, 1, none⟩ = some (.slice Ac cs.length cc) ∧ W.cell? ⟨bo, 0, none⟩ = some (.slice aL lv.length cL) ∧ W.cell? ⟨bd, 0, none⟩ = some (.int .i64 df) ∧ W.cell? ⟨bd, 1, none⟩ = some (.int .i64 dt) ∧ W.cell? ⟨bd, 2, none⟩ = some (.int .i64 (v : Int)) ∧ Below w6.heap.size w6 W) := fun W hW => by
              have hb : Below w6.heap.size w6 W := B7.out.trans (hW.mono B7.out.size)
              obtain ⟨x0, x1, x2, _⟩ := KD.out W hb
              have pd := PD.out.below hW PD.out.lt
              exact ⟨x0, x1, x2, by rw [pd.cell]; rfl, by rw [pd.cell]; rfl, by rw [pd.cell]; rfl, hb⟩
            have T1 : Int.tdiv df 2 = (i : Int) := by rw [← q1]; exact Int.tdiv_eq_ediv_of_nonneg a0
            have T2 : Int.tdiv dt 2 = (i2 : Int) := by rw [← q2]; exact Int.tdiv_eq_ediv_of_nonneg b0
            have df9 : df ≤ 100 := by omega
            have dt9 : dt ≤ 100 := by omega
            have HT1 := Lib.hid T1
            have HT2 := Lib.hid T2
            have HQ1 := Lib.hid q1
            have HQ2 := Lib.hid q2
            have HW7 := Lib.hid hw7
            have HBD := Lib.hid hbd
            clear hmem hw7 hbd en1 en2 q1 q2 t1 t2 hup bel p6 r6 T1 T2 a1 b1
            go_wp2_with fail
            rw [HW7.out, HBD.out]
            refine (HE1.out _ B7.out).mono ?_
            rintro e w8 ⟨rfl, bel8⟩
            have D8 : Hid (Below w7.heap.size w7 w8) := bel8
            clear bel8 c0 c1 c2 l0 l1 e0 e1 e2
            obtain ⟨c0, c1, c2, e0, e1, e2, bb8⟩ := KE.out w8 D8.out
            have B8 := Lib.hid bb8
            clear bb8
            go_wp2_with fail
            refine (HE2.out _ B8.out).mono ?_
            rintro e w9 ⟨rfl, bel9⟩
            have D9 : Hid (Below w7.heap.size w7 w9) := D8.out.trans (bel9.mono D8.out.size)
            clear bel9 c0 c1 c2 e0 e1 e2
            obtain ⟨c0, c1, c2, e0, e1, e2, bb9⟩ := KE.out w9 D9.out
            have B9 := Lib.hid bb9
            clear bb9
            go_wp2_with fail
            have T1 := HT1.out
            have W1 : IntKind.i64.wrap (i : Int) = (i : Int) := IntWalk.i64_in _ (by omega)
            go_region_held3 (fun W => W.cell? ⟨w.heap.size, 0, none⟩ = some (.slice An ns.length cn) ∧ W.cell? ⟨w.heap.size, 1, none⟩ = some (.slice Ac cs.length cc) ∧ W.cell? ⟨bo, 0, none⟩ = some (.slice aL lv.length cL) ∧ W.cell? ⟨bd, 0, none⟩ = some (.int .i64 df))
              (first | exact ⟨c0, c1, c2, e0⟩ | exact KA.out | exact KB.out)
              (first
                | (go_at_call 38; refine (HOE.out _ (B9.out.drew)).mono ?_; rintro e wa ⟨rfl, bela⟩; have DA : Hid (Below w7.heap.size w7 wa) := (D9.out.drew).trans (bela.mono D9.out.size); have KA : Hid (wa.cell? ⟨w.heap.size, 0, none⟩ = some (.slice An ns.length cn) ∧ wa.cell? ⟨w.heap.size, 1, none⟩ = some (.slice Ac cs.length cc) ∧ wa.cell? ⟨bo, 0, none⟩ = some (.slice aL lv.length cL) ∧ wa.cell? ⟨bd, 0, none⟩ = some (.int .i64 df)) := ⟨(KE.out wa DA.out).1, (KE.out wa DA.out).2.1, (KE.out wa DA.out).2.2.1, (KE.out wa DA.out).2.2.2.1⟩; have BA : Hid (Below w6.heap.size w6 wa) := B7.out.trans (DA.out.mono B7.out.size); clear bela)
                | (go_at_call 37; refine (HU1.out _ BA.out).mono ?_; rintro e wb ⟨rfl, belb⟩; have DB : Hid (Below w7.heap.size w7 wb) := DA.out.trans (belb.mono DA.out.size); have KB : Hid (wb.cell? ⟨w.heap.size, 0, none⟩ = some (.slice An ns.length cn) ∧ wb.cell? ⟨w.heap.size, 1, none⟩ = some (.slice Ac cs.length cc) ∧ wb.cell? ⟨bo, 0, none⟩ = some (.slice aL lv.length cL) ∧ wb.cell? ⟨bd, 0, none⟩ = some (.int .i64 df)) := ⟨(KE.out wb DB.out).1, (KE.out wb DB.out).2.1, (KE.out wb DB.out).2.2.1, (KE.out wb DB.out).2.2.2.1⟩; clear belb))
            all_goals
              clear T1 W1 c0 c1 c2 e0 e1 e2 KA KB
              obtain ⟨c0, c1, c2, e0, e1, e2, bbB⟩ := KE.out wb DB.out
              have BB := Lib.hid bbB
              clear bbB
              go_wp2_with fail
              rw [HQ2.out]
              refine (HU2.out _ BB.out).mono ?_
              rintro e wc ⟨rfl, belc⟩
              have DC : Hid (Below w7.heap.size w7 wc) := DB.out.trans (belc.mono DB.out.size)
              clear belc c0 c1 c2 e0 e1 e2
              obtain ⟨c0, c1, c2, e0, e1, e2, bbC⟩ := KE.out wc DC.out
              have BC := Lib.hid bbC
              clear bbC
              have U12 : Hid (upB lv v x = true → upB lv u v = true) := HUP.out
              obtain ⟨p1, hp1⟩ : ∃ b, upB lv u v = b := ⟨_, rfl⟩
              obtain ⟨p2, hp2⟩ : ∃ b, upB lv v x = b := ⟨_, rfl⟩
              rw [hp1, hp2] at U12
              rw [hp1, hp2]
              clear hp1 hp2
              cases p1 with
              | true =>
                go_wp2_with fail
                rw [HQ1.out, HQ2.out]
                refine (HTU.out _ BC.out).mono ?_
                rintro e wd ⟨rfl, beld⟩
                have R : Hid (Below w6.heap.size w6 wd) := BC.out.trans (beld.mono BC.out.size)
                clear beld c0 c1 c2 e0 e1 e2
                go_wp2_with fail
                exact ⟨⟨k + 1, by omega, by go_num, R.out⟩, by simp [RowKit.intOf]; omega⟩
              | false =>
                have hp : p2 = false := by
                  cases p2 with
                  | false => rfl
                  | true => have := U12.out rfl; cases this
                subst hp
                go_wp2_with fail
                rw [HQ1.out, HQ2.out]
                refine (HTU.out _ BC.out).mono ?_
                rintro e wd ⟨rfl, beld⟩
                have R : Hid (Below w6.heap.size w6 wd) := BC.out.trans (beld.mono BC.out.size)
                clear beld c0 c1 c2 e0 e1 e2
                go_wp2_with fail
                exact ⟨⟨k + 1, by omega, by go_num, R.out⟩, by simp [RowKit.intOf]; omega⟩
          · obtain rfl : k = D.length := by omega
            have F := Lib.hid (KD.out wr bel).2.2.2.2.2.1
            clear bel
            go_wp2_with fail
            go_ret
            exact ⟨rfl, F.out⟩
end Go.Proofs.Ytlhblaemoejefaa.channelTurnsW
