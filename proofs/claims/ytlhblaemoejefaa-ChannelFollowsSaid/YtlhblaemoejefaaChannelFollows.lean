/- The walk of the law ChannelFollows. -/
import Derived.Test.YtlhblaemoejefaaChannelAcyclic
import Derived.Test.YtlhblaemoejefaaNFollow
import Derived.Test.YtlhblaemoejefaaCRef2
import Derived.IntWalk
namespace Go.Proofs.Ytlhblaemoejefaa.channelFollowsW
open Go.RowKit Go.Maps Go.Sort Go.Shelf
set_option linter.unusedVariables false
set_option linter.unusedSimpArgs false
set_option maxRecDepth 100000 in
set_option maxHeartbeats 8000000 in
theorem walk (An Ac : Option Addr) (cn cc : Nat) (p : Pl) (Au : Option Addr) (cu : Nat) (us : List Bool) (root : Int) (w : World)
    (h : IsPlan w An Ac p) (hwf : WfP p) (h2 : IsRec 1 cB false w Au us.length us) (hroot : (Lit.int .i64 root).wf = true) :
    Calls Try.prog 10 #[.agg #[.slice An p.ns.length cn, .slice Ac p.cs.length cc], .slice Au us.length cu, .int .i64 root] w fun e w' => e = .returned (.bool true) ∧ Below w.heap.size w w' := by
  obtain ⟨ns, cs⟩ := p
  simp only
  obtain ⟨w1, hw1⟩ : ∃ w1 : World, w.alloc (.cells #[.slice An ns.length cn, .slice Ac cs.length cc] 40) = w1 := ⟨_, rfl⟩
  have BW : Hid (Below w.heap.size w w1) := by rw [← hw1]; exact (Below.refl _ _).alloc (Nat.le_refl _) _
  have P0 : Hid (Blk w1 w.heap.size 40 #[.slice An ns.length cn, .slice Ac cs.length cc]) := by rw [← hw1]; exact Blk.new _ _ _
  have H1 := Lib.hid (h.below (Nat.le_refl _) BW.out)
  have U1 := Lib.hid (h2.below (Nat.le_refl _) BW.out)
  have HWF := Lib.hid hwf
  have KC : Hid (∀ w', Below w1.heap.size w1 w' → w'.cell? ⟨w.heap.size, 0, none⟩ = some (.slice An ns.length cn) ∧ w'.cell? ⟨w.heap.size, 1, none⟩ = some (.slice Ac cs.length cc) ∧ w.heap.size < w'.heap.size ∧
      Below w.heap.size w w' ∧ IsPlan w' An Ac ⟨ns, cs⟩ ∧ IsRec 1 cB false w' Au us.length us) := fun w' hb => by
    have hp := P0.out.below hb P0.out.lt
    exact ⟨by rw [hp.cell]; rfl, by rw [hp.cell]; rfl, hp.lt, BW.out.trans (hb.mono BW.out.size), H1.out.below (Nat.le_refl _) hb, U1.out.below (Nat.le_refl _) hb⟩
  have HW1 := Lib.hid hw1
  clear hw1 h h2 hwf
  go_enter Try.func10, Try.ntmps10
  go_wp2_with fail
  rw [HW1.out]
  refine (awake20_any _).mono ?_
  rintro e w2 ⟨rfl, bel⟩
  have B2 := Lib.hid bel
  clear bel HW1
  obtain ⟨c0, c1, l0, _⟩ := KC.out w2 B2.out
  cases hg : great20B ns.length cs.length us.length with
  | true =>
    go_wp2_with fail
    refine (great20_any An Ac Au ns.length cs.length us.length cn cc cu w2 _ hg).mono ?_
    rintro e w3 ⟨rfl, rfl⟩
    have F := Lib.hid ((KC.out _ (B2.out.alloc B2.out.size (.cells #[.slice An ns.length cn, .slice Ac cs.length cc] 40))).2.2.2.1)
    go_wp2_with fail
    go_ret
    exact ⟨rfl, F.out⟩
  | false =>
    have hl : ns.length ≤ 20 ∧ cs.length ≤ 40 ∧ us.length ≤ 60 := by
      unfold great20B at hg; simp at hg; omega
    obtain ⟨hln, hlc, hlu⟩ := hl
    go_wp2_with fail
    refine (great20_any An Ac Au ns.length cs.length us.length cn cc cu w2 _ hg).mono ?_
    rintro e w3 ⟨rfl, hw3⟩
    have B3 : Hid (Below w1.heap.size w1 w3) := by rw [← hw3]; exact B2.out.alloc B2.out.size _
    clear hw3 hg c0 c1 l0
    obtain ⟨c0, c1, l0, bf3, p3, u3⟩ := KC.out w3 B3.out
    have HN := Lib.hid (network_any ns cs us root An Ac Au cn cc cu w3 (by omega) (by omega) (by omega) HWF.out p3 u3)
    clear bf3 p3 u3
    go_wp2_with fail
    refine HN.out.mono ?_
    rintro e w4 ⟨bel4, rfl | ⟨lv, G, aL, cL, aT, cT, net, rfl, rl, rt, hwl, hul⟩⟩
    · have F := Lib.hid ((KC.out _ (B3.out.trans (bel4.mono B3.out.size))).2.2.2.1)
      have F2 : Hid (Below w.heap.size w ((w4.alloc (.cells #[.slice none 0 0] 51)).alloc (.cells #[.slice none 0 0] 54))) := (F.out.alloc F.out.size _).alloc (by have := F.out.size; simp; omega) _
      clear bel4 HN c0 c1
      go_wp2_with fail
      go_ret
      exact ⟨rfl, F2.out⟩
    · have B4 : Hid (Below w1.heap.size w1 w4) := B3.out.trans (bel4.mono B3.out.size)
      obtain ⟨w5, hw5⟩ : ∃ w5 : World, (w4.alloc (.cells #[.slice aL lv.length cL] 51)).alloc (.cells #[.slice aT ns.length cT] 54) = w5 := ⟨_, rfl⟩
      have B45 : Hid (Below w4.heap.size w4 w5) := by rw [← hw5]; exact ((Below.refl _ _).alloc (Nat.le_refl _) _).alloc (by simp) _
      have B5 : Hid (Below w1.heap.size w1 w5) := B4.out.trans (B45.out.mono B4.out.size)
      have RL5 := Lib.hid (rl.below (Nat.le_refl _) B45.out)
      have RT5 := Lib.hid (rt.below (Nat.le_refl _) B45.out)
      have NET := Lib.hid net
      have hll := net.len
      have DLEN := net.dlen
      have WD := Lib.hid net.wfd
      have HD := deps_any ⟨ns, cs⟩ lv (tabOf ns.length G) An Ac aL aT cn cc cL cT w5 (by show ns.length ≤ _; omega) (by show cs.length ≤ _; omega) HWF.out (by omega) hwl (by rw [tabOf_len]; omega) net.wft (KC.out w5 B5.out).2.2.2.2.1 RL5.out (by rw [tabOf_len]; exact RT5.out)
      rw [tabOf_len] at HD
      have HDD := Lib.hid HD
      obtain ⟨k0, k1, l4, _⟩ := KC.out w4 B4.out
      have HW5 := Lib.hid hw5
      have PO5 : Hid (Blk w5 w4.heap.size 51 #[.slice aL lv.length cL]) := by rw [← hw5]; exact (Blk.new _ _ _).alloc _
      have PT5 : Hid (Blk w5 (w4.heap.size + 1) 54 #[.slice aT ns.length cT]) := by
        rw [← hw5]
        have := Blk.new (w4.alloc (.cells #[.slice aL lv.length cL] 51)) 54 #[.slice aT ns.length cT]
        rw [Hid]; simpa using this
      have HWL := Lib.hid hwl
      have TRN := Lib.hid net.turns
      clear net rl rt hwl hul bel4 HN c0 c1 l0 hw5 HD hll
      go_wp2_with fail
      rw [HW5.out]
      refine HDD.out.mono ?_
      rintro e w6 ⟨bel6, ⟨hbad, _⟩ | ⟨_, v, rfl, own⟩⟩
      · exact absurd hbad (by rw [NET.out.ord, NET.out.table]; simp)
      · obtain ⟨D, hDN⟩ : ∃ D, depsD ⟨ns, cs⟩ lv (tabOf ns.length G) = D := ⟨_, rfl⟩
        rw [hDN] at DLEN WD TRN own
        have HDN := Lib.hid hDN
        clear hDN
        have B6 : Hid (Below w1.heap.size w1 w6) := B5.out.trans (bel6.mono B5.out.size)
        obtain ⟨pa, pc, hv7, _, r7, _⟩ := rec_of_own (d := d0) (c := cD) (fun _ => rfl) (by decide) own
        subst hv7
        have R7 := Lib.hid r7
        have RL6 := Lib.hid (RL5.out.below (Nat.le_refl _) bel6)
        have RT6 := Lib.hid (RT5.out.below (Nat.le_refl _) bel6)
        have PO6 := Lib.hid (PO5.out.below bel6 PO5.out.lt)
        have PT6 := Lib.hid (PT5.out.below bel6 PT5.out.lt)
        obtain ⟨bo, hbo⟩ : ∃ bo, w4.heap.size = bo := ⟨_, rfl⟩
        rw [hbo] at PO6 PT6
        have HBO := Lib.hid hbo
        have KD : Hid (∀ W, Below w6.heap.size w6 W → W.cell? ⟨w.heap.size, 0, none⟩ = some (.slice An ns.length cn) ∧ W.cell? ⟨w.heap.size, 1, none⟩ = some (.slice Ac cs.length cc) ∧ W.cell? ⟨bo, 0, none⟩ = some (.slice aL lv.length cL) ∧ W.cell? ⟨bo + 1, 0, none⟩ = some (.slice aT ns.length cT) ∧
            Below w.heap.size w W ∧ IsPlan W An Ac ⟨ns, cs⟩ ∧ IsRec 1 cI 0 W aL lv.length lv ∧ IsTab W aT ns.length (tabOf ns.length G) ∧ IsRec 3 cD d0 W pa D.length D) := fun W hW => by
          have hb : Below w1.heap.size w1 W := B6.out.trans (hW.mono B6.out.size)
          obtain ⟨x0, x1, x2, x3, x4, _⟩ := KC.out W hb
          have po := PO6.out.below hW PO6.out.lt
          have pt := PT6.out.below hW PT6.out.lt
          exact ⟨x0, x1, po.one.1, pt.one.1, x3, x4, RL6.out.below (Nat.le_refl _) hW, RT6.out.below (Nat.le_refl _) hW, R7.out.below (Nat.le_refl _) hW⟩
        have ST : Hid (Below w6.heap.size w6 w6) := Below.refl _ _
        obtain ⟨z0, z1, _⟩ := KD.out w6 (Below.refl _ _)
        clear bel6 HDD k0 k1 l4 own r7 hbo
        go_wp2_with fail
        rw [HBO.out]
        clear z0 z1
        go_loopw [52] (fun i wr => ∃ k : Nat, k ≤ ns.length ∧ i = .int .i64 k ∧ Below w6.heap.size w6 wr) (fun i _ => ns.length - (RowKit.intOf i).toNat)
        case atStart => exact ⟨0, Nat.zero_le _, rfl, ST.out⟩
        case round =>
          clear ST
          obtain ⟨k, hk, rfl, bel⟩ := hrel
          have BEL := Lib.hid bel
          obtain ⟨c0, c1, _⟩ := KD.out wr bel
          by_cases hkr : k < ns.length
          · have ST : Hid (Below w6.heap.size w6 wr) := bel
            clear bel
            go_wp2_with fail
            obtain ⟨wo, rfl⟩ : ∃ wo : World, wo = wr := ⟨_, rfl⟩
            clear c0 c1
            go_loopw [58] (fun i wr' => ∃ m : Nat, m ≤ ns.length ∧ i = .int .i64 m ∧ Below w6.heap.size w6 wr') (fun i _ => ns.length - (RowKit.intOf i).toNat)
            case atStart => exact ⟨0, Nat.zero_le _, rfl, ST.out⟩
            case round =>
              clear ST
              obtain ⟨m, hm, rfl, bel⟩ := hrel
              have BEL2 := Lib.hid bel
              by_cases hmr : m < ns.length
              · obtain ⟨c0, c1, c2, c3, _, p6, r6, t6, _⟩ := KD.out wr bel
                have HF := Lib.hid (Follow_any ns cs us lv G An Ac aL aT cn cc cL cT k m wr NET.out hkr hmr HWF.out HWL.out p6 r6 t6)
                clear p6 r6 t6 bel
                go_wp2_with fail
                refine HF.out.mono ?_
                rintro e w8 ⟨bel8, ⟨ce, hce, rfl⟩ | ⟨l, xs, ps, v, hseg, hxt, hll8, rfl, own8⟩⟩
                · have R : Hid (Below w6.heap.size w6 w8) := BEL2.out.trans (bel8.mono BEL2.out.size)
                  have hce2 : (ce != 0) = true := by simpa using hce
                  clear bel8 hce HF c0 c1 c2 c3
                  go_wp2_with fail
                  exact ⟨⟨m + 1, by omega, by go_num, R.out⟩, by simp [RowKit.intOf]; omega⟩
                · have R8 : Hid (Below w6.heap.size w6 w8) := BEL2.out.trans (bel8.mono BEL2.out.size)
                  obtain ⟨av, capv, hve, _, rl8, _⟩ := rec_of_own (d := (0 : Int)) cI_length (by decide) own8
                  subst hve
                  have RL8 := Lib.hid rl8
                  have SEG := Lib.hid hseg
                  have HXT := Lib.hid hxt
                  have HX0 := Lib.hid hseg.x0
                  have ST : Hid (∃ q : Nat, q ≤ l.length ∧ (Value.int .i64 0 : Value) = .int .i64 (q : Int) ∧ (Value.int .i64 (k : Int) : Value) = .int .i64 ((xs q : Nat) : Int) ∧ (Value.int .i64 (-1) : Value) = .int .i64 (if q = 0 then -1 else leavV cs (l.getD (q - 1) 0) (xs (q - 1) : Nat)) ∧ Below w8.heap.size w8 w8) :=
                    ⟨0, Nat.zero_le _, rfl, by rw [hseg.x0], rfl, Below.refl _ _⟩
                  clear bel8 own8 rl8 hseg hxt HF c0 c1 c2 c3
                  go_wp2_with fail
                  obtain ⟨wp, rfl⟩ : ∃ wp : World, wp = wr := ⟨_, rfl⟩
                  go_loopw [16, 17, 75] (fun at_ last i wr'' => ∃ q : Nat, q ≤ l.length ∧ i = .int .i64 (q : Int) ∧ at_ = .int .i64 ((xs q : Nat) : Int) ∧ last = .int .i64 (if q = 0 then -1 else leavV cs (l.getD (q - 1) 0) (xs (q - 1) : Nat)) ∧ Below w8.heap.size w8 wr'') (fun _ _ i _ => l.length - (RowKit.intOf i).toNat)
                  case atStart => exact ST.out
                  case round =>
                    clear ST
                    obtain ⟨q, hq, rfl, rfl, rfl, bel⟩ := hrel
                    have BEL3 := Lib.hid bel
                    have B68 : Hid (Below w6.heap.size w6 wr) := R8.out.trans (bel.mono R8.out.size)
                    by_cases hqr : q < l.length
                    · obtain ⟨hx, hp, i, hi, el, eG, ht1, ep⟩ := SEG.out.st q hqr
                      have hv := (SEG.out.xn (k := q + 1) (by omega)).1
                      have m1 : cs.getD i cb0 ∈ cs := by simp [List.getD, hi]
                      have hab := valid_abG NET.out.valid _ m1
                      obtain ⟨n16, c32⟩ := valid_sizes NET.out.valid
                      obtain ⟨q1, q2, q3, q4⟩ := leav_ends hi c32 ht1 hab
                      have NXT : Hid (∀ W, Below w8.heap.size w8 W → ∃ q' : Nat, q' ≤ l.length ∧ (Value.int .i64 ((q + 1 : Nat) : Int)) = .int .i64 (q' : Int) ∧ (Value.int .i64 ((xs (q + 1) : Nat) : Int)) = .int .i64 ((xs q' : Nat) : Int) ∧ (Value.int .i64 (leavV cs (i : Int) (xs q : Nat))) = .int .i64 (if q' = 0 then -1 else leavV cs (l.getD (q' - 1) 0) (xs (q' - 1) : Nat)) ∧ Below w8.heap.size w8 W) := fun W hW =>
                        ⟨q + 1, by omega, rfl, rfl, by rw [if_neg (by omega), Nat.add_sub_cancel, el], hW⟩
                      have DEP : Hid (0 < q → (leavV cs (l.getD (q - 1) 0) (xs (q - 1) : Nat), leavV cs (i : Int) (xs q : Nat), ((xs q : Nat) : Int)) ∈ D) := fun h0 => by
                        have h1 := NET.out.follows SEG.out hmr (k := q - 1) (by omega)
                        rw [show q - 1 + 1 = q by omega, el, HDN.out] at h1
                        exact h1
                      have LNN : Hid (0 < q → 0 ≤ leavV cs (l.getD (q - 1) 0) (xs (q - 1) : Nat)) := fun h0 => by
                        obtain ⟨_, _, i', hi', el', _, ht', _⟩ := SEG.out.st (q - 1) (by omega)
                        rw [show q - 1 + 1 = q by omega] at ht'
                        rw [el']
                        exact (leav_ends hi' c32 ht' (valid_abG NET.out.valid _ (by simp [List.getD, hi']))).1
                      have E1 : Hid (endsR ⟨ns, cs⟩ (leavV cs (i : Int) (xs q : Nat)) = (((xs q : Nat) : Int), ((xs (q + 1) : Nat) : Int), 0)) := by
                        rw [Hid]; unfold endsR
                        rw [if_neg (by simp [NET.out.valid]), if_neg (by show ¬ (leavV cs (i : Int) (xs q : Nat) < 0 ∨ 2 * (cs.length : Int) ≤ leavV cs (i : Int) (xs q : Nat)); omega)]
                        show ((chEnds cs (leavV cs (i : Int) (xs q : Nat))).1, (chEnds cs (leavV cs (i : Int) (xs q : Nat))).2, (0 : Int)) = _
                        rw [q3]
                      have LV : Hid (leavV cs (i : Int) (xs q : Nat) = if (cs.getD i cb0).a = ((xs q : Nat) : Int) then chanV (i : Int) 0 else chanV (i : Int) 1) := by rw [Hid]; unfold leavV; rw [Int.toNat_natCast]
                      obtain ⟨bl, ol, hal, hbl, _, ecl⟩ := int_at (RL8.out.below (Nat.le_refl _) bel) q hqr
                      rw [el] at ecl
                      subst hal
                      obtain ⟨c0, c1, c2, c3, _, p6, _, _, _⟩ := KD.out wr B68.out
                      obtain ⟨bc, oc, hAc, hbc, _, ca, cap', cb, cbp, cd, ccp⟩ := cable_at p6.2 i hi
                      obtain ⟨ch, hch⟩ : ∃ c, leavV cs (i : Int) (xs q : Nat) = c := ⟨_, rfl⟩
                      rw [hch] at NXT DEP E1 LV q1 q2
                      have HE : Hid (∀ W, Below w6.heap.size w6 W → Calls Try.prog 22 #[.agg #[.slice An ns.length cn, .slice Ac cs.length cc], .int .i64 ch] W fun e w' => e = .returned (.tuple #[.int .i64 ((xs q : Nat) : Int), .int .i64 ((xs (q + 1) : Nat) : Int), .int .i64 0]) ∧ Below W.heap.size W w') := fun W hW => by
                        have := Ends_any ⟨ns, cs⟩ An Ac cn cc ch W (by show ns.length ≤ _; omega) (by show cs.length ≤ _; omega) HWF.out (KD.out W hW).2.2.2.2.2.1
                        rw [E1.out] at this; exact this
                      have KD2 : Hid (∀ W, Below w6.heap.size w6 W → W.cell? ⟨w.heap.size, 0, none⟩ = some (.slice An ns.length cn) ∧ W.cell? ⟨w.heap.size, 1, none⟩ = some (.slice Ac cs.length cc) ∧ IsRec 3 cD d0 W pa D.length D) := fun W hW => ⟨(KD.out W hW).1, (KD.out W hW).2.1, (KD.out W hW).2.2.2.2.2.2.2.2⟩
                      obtain ⟨y, hy⟩ : ∃ y, xs (q + 1) = y := ⟨_, rfl⟩
                      obtain ⟨x, hxe⟩ : ∃ x, xs q = x := ⟨_, rfl⟩
                      rw [hy] at ht1 HE NXT
                      rw [hxe] at ht1 HE LV DEP ⊢
                      obtain ⟨xcab, hxcab⟩ : ∃ z, cs.getD i cb0 = z := ⟨_, rfl⟩
                      rw [hxcab] at ht1 hab LV ca cap' cb cbp cd ccp
                      subst hAc
                      obtain ⟨lastv, hlv⟩ : ∃ z, leavV cs (l.getD (q - 1) 0) (xs (q - 1) : Nat) = z := ⟨_, rfl⟩
                      rw [hlv] at DEP LNN ⊢
                      have hdl : D.length ≤ 1000000 := by omega
                      have iw0 : (0 : Int) ≤ (i : Int) := by omega
                      have iw : (i : Int) < (cs.length : Int) := by omega
                      have qw : (q : Int) < (l.length : Int) := by omega
                      clear hx hp el eG ep m1 q3 q4 p6 hch hxe hy hxcab hlv cap' cb cbp cd ccp
                      have hq0 : q = 0 ∨ 0 < q := by omega
                      rcases ht1 with ⟨h1, h2⟩ | ⟨h1, h2⟩
                      · have HCH : Hid (chanV (i : Int) 0 = ch) := by rw [Hid, LV.out, if_pos h1]
                        rw [h1] at ca
                        clear h1 h2 hab LV
                        rcases hq0 with h0 | h0
                        · rw [if_pos h0]
                          clear h0
                          go_wp2_with fail
                          refine (channel_any (i : Int) 0 _).mono ?_
                          rintro e wx ⟨rfl, rfl⟩
                          rw [HCH.out]
                          go_wp2_with fail
                          refine (HE.out _ B68.out).mono ?_
                          rintro e w9 ⟨rfl, bel9⟩
                          have R := Lib.hid (NXT.out w9 (BEL3.out.trans (bel9.mono BEL3.out.size)))
                          clear bel9 bel ecl ca c0 c1 c2 c3
                          go_wp2_with fail
                          exact ⟨by simpa using R.out, by simp [RowKit.intOf]; omega⟩
                        · rw [if_neg (by omega)]
                          have ln := LNN.out h0
                          have DM := Lib.hid (DEP.out h0)
                          clear h0
                          go_wp2_with fail
                          refine (channel_any (i : Int) 0 _).mono ?_
                          rintro e wx ⟨rfl, rfl⟩
                          rw [HCH.out]
                          go_wp2_with fail
                          refine (HE.out _ B68.out).mono ?_
                          rintro e w9 ⟨rfl, bel9⟩
                          have B9 : Hid (Below w6.heap.size w6 w9) := B68.out.trans (bel9.mono B68.out.size)
                          have C9 : Hid (Below w8.heap.size w8 w9) := BEL3.out.trans (bel9.mono BEL3.out.size)
                          have HCN := contD_any (lastv, ch, (x : Int)) D pa pc w9 hdl (KD2.out w9 B9.out).2.2
                          rw [decide_eq_true DM.out] at HCN
                          have HCNN := Lib.hid HCN
                          clear bel9 bel ecl ca c0 c1 c2 c3 HCN
                          go_wp2_with fail
                          refine HCNN.out.mono ?_
                          rintro e w10 ⟨rfl, bel10⟩
                          have R := Lib.hid (NXT.out w10 (C9.out.trans (bel10.mono C9.out.size)))
                          clear bel10
                          go_wp2_with fail
                          exact ⟨by simpa using R.out, by simp [RowKit.intOf]; omega⟩
                      · have hyx : ¬ (y = x) := fun e => hab (by rw [h1, h2, e])
                        have HCH : Hid (chanV (i : Int) 1 = ch) := by rw [Hid, LV.out, if_neg (by rw [h2]; omega)]
                        rw [h2] at ca
                        clear h1 h2 hab LV
                        rcases hq0 with h0 | h0
                        · rw [if_pos h0]
                          clear h0
                          go_wp2_with fail
                          refine (channel_any (i : Int) 1 _).mono ?_
                          rintro e wx ⟨rfl, rfl⟩
                          rw [HCH.out]
                          go_wp2_with fail
                          refine (HE.out _ B68.out).mono ?_
                          rintro e w9 ⟨rfl, bel9⟩
                          have R := Lib.hid (NXT.out w9 (BEL3.out.trans (bel9.mono BEL3.out.size)))
                          clear bel9 bel ecl ca c0 c1 c2 c3
                          go_wp2_with fail
                          exact ⟨by simpa using R.out, by simp [RowKit.intOf]; omega⟩
                        · rw [if_neg (by omega)]
                          have ln := LNN.out h0
                          have DM := Lib.hid (DEP.out h0)
                          clear h0
                          go_wp2_with fail
                          refine (channel_any (i : Int) 1 _).mono ?_
                          rintro e wx ⟨rfl, rfl⟩
                          rw [HCH.out]
                          go_wp2_with fail
                          refine (HE.out _ B68.out).mono ?_
                          rintro e w9 ⟨rfl, bel9⟩
                          have B9 : Hid (Below w6.heap.size w6 w9) := B68.out.trans (bel9.mono B68.out.size)
                          have C9 : Hid (Below w8.heap.size w8 w9) := BEL3.out.trans (bel9.mono BEL3.out.size)
                          have HCN := contD_any (lastv, ch, (x : Int)) D pa pc w9 hdl (KD2.out w9 B9.out).2.2
                          rw [decide_eq_true DM.out] at HCN
                          have HCNN := Lib.hid HCN
                          clear bel9 bel ecl ca c0 c1 c2 c3 HCN
                          go_wp2_with fail
                          refine HCNN.out.mono ?_
                          rintro e w10 ⟨rfl, bel10⟩
                          have R := Lib.hid (NXT.out w10 (C9.out.trans (bel10.mono C9.out.size)))
                          clear bel10
                          go_wp2_with fail
                          exact ⟨by simpa using R.out, by simp [RowKit.intOf]; omega⟩
                    · obtain rfl : q = l.length := by omega
                      rw [HXT.out]
                      have R : Hid (Below w6.heap.size w6 wr) := B68.out
                      generalize (if l.length = 0 then -1 else leavV cs (l.getD (l.length - 1) 0) (xs (l.length - 1) : Nat)) = lastv at *
                      clear bel
                      go_wp2_with fail
                      exact ⟨⟨m + 1, by omega, by go_num, R.out⟩, by simp [RowKit.intOf]; omega⟩
              · obtain rfl : m = ns.length := by omega
                have R : Hid (Below w6.heap.size w6 wr) := bel
                clear bel
                go_wp2_with fail
                exact ⟨⟨k + 1, by omega, by go_num, R.out⟩, by simp [RowKit.intOf]; omega⟩
          · obtain rfl : k = ns.length := by omega
            have F := Lib.hid (KD.out wr bel).2.2.2.2.1
            clear bel c0 c1
            go_wp2_with fail
            go_ret
            exact ⟨rfl, F.out⟩
end Go.Proofs.Ytlhblaemoejefaa.channelFollowsW
