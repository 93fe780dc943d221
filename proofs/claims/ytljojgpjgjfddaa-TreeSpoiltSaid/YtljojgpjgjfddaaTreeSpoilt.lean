/- The walk of the law TreeSpoilt. -/
import Derived.Test.YtljojgpjgjfddaaTMkS
import Derived.Test.YtljojgpjgjfddaaTOneP
import Derived.Test.YtljojgpjgjfddaaTSpo
import Derived.Test.YtljojgpjgjfddaaFrame
namespace Go.Proofs.Ytljojgpjgjfddaa.treeSpoiltW
open Go.RowKit Go.Maps Go.Sort Go.Shelf
set_option linter.unusedVariables false
set_option linter.unusedSimpArgs false

theorem rec_drop1 {w : World} {a : Option Addr} {l : List Int} (h : IsRec 1 cI 0 w a l.length l) (h0 : 0 < l.length) : ∃ b off, a = some ⟨b, off, none⟩ ∧ IsRec 1 cI 0 w (some ⟨b, off + 1, none⟩) (l.drop 1).length (l.drop 1) := by
  obtain ⟨b, off, e, hb, hc⟩ := h.2 h0
  refine ⟨b, off, e, rfl, fun h1 => ⟨b, off + 1, rfl, hb, fun i j hi hj => ?_⟩⟩
  have hi2 : i + 1 < l.length := by rw [List.length_drop] at hi; omega
  have h2 := hc (i + 1) j hi2 hj
  have e1 : off + (i + 1) * 1 + j = off + 1 + i * 1 + j := by omega
  rw [e1] at h2
  have e2 : (l.drop 1).getD i 0 = l.getD (i + 1) 0 := by simp [List.getD, Nat.add_comm]
  rw [h2, e2]
set_option maxRecDepth 100000 in
set_option maxHeartbeats 8000000 in
theorem walk (An Ac : Option Addr) (cn cc : Nat) (p : Pl) (Al : Option Addr) (cl : Nat) (lv : List Int) (src : Int) (Am : Option Addr) (cm : Nat) (ms : List Int)  (kk : Int) (w : World)
    (h : IsPlan w An Ac p) (hwf : WfP p) (h2 : IsRec 1 cI 0 w Al lv.length lv) (hwl : WfI lv) (h0 : (Lit.int .u8 src).wf = true) (h3 : IsRec 1 cI 0 w Am ms.length ms) (hwm : WfI ms) (hcm : ms.length ≤ cm) (hk8 : (Lit.int .u8 kk).wf = true) :
    Calls Try.prog 7 #[.agg #[.slice An p.ns.length cn, .slice Ac p.cs.length cc], .agg #[.slice Al lv.length cl], .int .u8 src, .slice Am ms.length cm, .int .u8 kk] w fun e w' => e = .returned (.bool true) ∧ Below w.heap.size w w' := by
  obtain ⟨ns, cs⟩ := p
  simp only
  obtain ⟨w1, hw1⟩ : ∃ w1 : World, (w.alloc (.cells #[.slice An ns.length cn, .slice Ac cs.length cc] 25)).alloc (.cells #[.slice Al lv.length cl] 57) = w1 := ⟨_, rfl⟩
  have s0 : w1.cell? ⟨w.heap.size, 0, none⟩ = some (.slice An ns.length cn) := by rw [← hw1]; simp [go_sem]
  have s1 : w1.cell? ⟨w.heap.size, 1, none⟩ = some (.slice Ac cs.length cc) := by rw [← hw1]; simp [go_sem]
  have s2 : w1.cell? ⟨w.heap.size + 1, 0, none⟩ = some (.slice Al lv.length cl) := by rw [← hw1]; simp [go_sem]
  have sz1 : w.heap.size + 1 < w1.heap.size := by rw [← hw1]; simp
  have BW : Hid (Below w.heap.size w w1) := by rw [Hid, ← hw1]; exact ((Below.refl _ _).alloc (Nat.le_refl _) _).alloc (by simp) _
  have H1 := Lib.hid (h.below (Nat.le_refl _) BW.out)
  have L1 := Lib.hid (h2.below (Nat.le_refl _) BW.out)
  have M1 := Lib.hid (h3.below (Nat.le_refl _) BW.out)
  have HWF := Lib.hid hwf
  have HWL := Lib.hid hwl
  have HWM := Lib.hid hwm
  have KC : Hid (∀ w', Below w1.heap.size w1 w' → (w'.cell? ⟨w.heap.size, 0, none⟩ = some (.slice An ns.length cn) ∧ w'.cell? ⟨w.heap.size, 1, none⟩ = some (.slice Ac cs.length cc) ∧ w'.cell? ⟨w.heap.size + 1, 0, none⟩ = some (.slice Al lv.length cl)) ∧
      Below w.heap.size w w' ∧ IsPlan w' An Ac ⟨ns, cs⟩ ∧ IsRec 1 cI 0 w' Al lv.length lv ∧ IsRec 1 cI 0 w' Am ms.length ms) :=
    fun w' hb => ⟨⟨(hb.cell (by show w.heap.size < _; omega)).trans s0, (hb.cell (by show w.heap.size < _; omega)).trans s1, (hb.cell (by exact sz1)).trans s2⟩, BW.out.trans (hb.mono BW.out.size), H1.out.below (Nat.le_refl _) hb, L1.out.below (Nat.le_refl _) hb, M1.out.below (Nat.le_refl _) hb⟩
  have HW1 := Lib.hid hw1
  obtain ⟨a0, a1⟩ := bounds_u8 h0
  obtain ⟨sn, rfl⟩ : ∃ sn : Nat, src = sn := ⟨src.toNat, by omega⟩
  clear h h2 h3 hw1 hwf hwl hwm s0 s1 s2 h0
  obtain ⟨ka, kb⟩ := bounds_u8 hk8
  obtain ⟨kn, rfl⟩ : ∃ kn : Nat, kk = kn := ⟨kk.toNat, by omega⟩
  clear hk8
  go_enter Try.func7, Try.ntmps7
  go_wp2_with fail
  rw [HW1.out]
  refine (awake23_any _).mono ?_
  rintro e w2 ⟨rfl, bel⟩
  have B2 := Lib.hid bel
  obtain ⟨⟨c0, c1, c2⟩, bw, _⟩ := KC.out w2 bel
  have BW2 := Lib.hid bw
  clear bel bw
  cases hsm : smallB ns.length cs.length lv.length ms.length with
  | false =>
    have hz : smallZ ns.length cs.length lv.length ms.length = 0 := by unfold smallZ; rw [hsm]; rfl
    have SC := small23_any An Ac Al Am ns.length cs.length lv.length ms.length cn cc cl cm w2
    rw [hz] at SC
    go_wp2_with fail
    refine (show Calls _ _ _ _ _ from SC).mono ?_
    rintro e w3 ⟨rfl, rfl⟩
    have BF : Hid (Below w.heap.size w (w2.alloc (.cells #[.slice An ns.length cn, .slice Ac cs.length cc] 25))) := BW2.out.alloc BW2.out.size _
    clear SC
    go_wp2_with fail
    go_ret
    exact ⟨rfl, BF.out⟩
  | true =>
    have hz : smallZ ns.length cs.length lv.length ms.length = 1 := by unfold smallZ; rw [hsm]; rfl
    have hb : ns.length ≤ 8 ∧ cs.length ≤ 12 ∧ lv.length ≤ 20 ∧ ms.length ≤ 20 := by
      unfold smallB at hsm
      simp at hsm
      omega
    obtain ⟨bn, bc, bl, bm⟩ := hb
    have SC := small23_any An Ac Al Am ns.length cs.length lv.length ms.length cn cc cl cm w2
    rw [hz] at SC
    go_wp2_with fail
    refine (show Calls _ _ _ _ _ from SC).mono ?_
    rintro e w3 ⟨rfl, hw3⟩
    have B3 : Hid (Below w1.heap.size w1 w3) := by rw [Hid, ← hw3]; exact B2.out.alloc B2.out.size _
    clear SC hw3 hsm hz c0 c1 c2
    obtain ⟨⟨c0, c1, c2⟩, _, pl3, lr3, _⟩ := KC.out w3 B3.out
    have FC := Lib.hid (fits23_any ⟨ns, cs⟩ lv An Ac Al cn cc cl w3 (by show ns.length ≤ _; omega) (by show cs.length ≤ _; omega) HWF.out (by omega) HWL.out pl3 lr3)
    clear pl3 lr3
    go_wp2_with fail
    refine (show Calls _ _ _ _ _ from FC.out).mono ?_
    rintro e w4 ⟨rfl, bel4⟩
    have B4 : Hid (Below w1.heap.size w1 w4) := B3.out.trans (bel4.mono B3.out.size)
    clear bel4 FC c0 c1 c2
    obtain ⟨⟨c0, c1, c2⟩, bw4, pl4, lr4, mr4⟩ := KC.out w4 B4.out
    have BW4 := Lib.hid bw4
    have PL4 := Lib.hid pl4
    have LR4 := Lib.hid lr4
    have MR4 := Lib.hid mr4
    clear bw4 pl4 lr4 mr4
    cases ho : orderB ⟨ns, cs⟩ lv with
    | false =>
      go_wp2_with fail
      go_ret
      exact ⟨rfl, BW4.out⟩
    | true =>
      by_cases hn0 : ns.length = 0
      · have q1 : ((ns.length : Int) == 0) = true := by simp [hn0]
        clear hn0
        go_wp2_with fail
        go_ret
        exact ⟨rfl, BW4.out⟩
      · have q1 : ((ns.length : Int) == 0) = false := by rw [beq_eq_false_iff_ne]; omega
        obtain ⟨s, hs⟩ : ∃ s : Nat, sn % ns.length = s := ⟨_, rfl⟩
        have hsn : s < ns.length := by rw [← hs]; exact Nat.mod_lt _ (by omega)
        have hrem : (sn : Int).tmod (ns.length : Int) = (s : Int) := by rw [← hs, Int.tmod_eq_emod_of_nonneg (by omega)]; simp
        obtain ⟨te, hte⟩ : ∃ te, tErr ⟨ns, cs⟩ lv ms (s : Int) = te := ⟨_, rfl⟩
        obtain ⟨X, hX⟩ : ∃ X, mkX ns cs lv ms (s : Int) = X := ⟨_, rfl⟩
        have HTE := Lib.hid hte
        have HX := Lib.hid hX
        have HSX : Hid (SmallT X) := by rw [Hid, ← hX]; exact mkX_small _ (by omega)
        have HO := Lib.hid ho
        have MZ : Hid (∀ w', Below w4.heap.size w4 w' → Calls Try.prog 28 #[.agg #[.slice An ns.length cn, .slice Ac cs.length cc], .agg #[.slice Al lv.length cl], .int .i64 (s : Int), .slice Am ms.length cm] w' (fun e w'' => PostX X te w' e w'' ∧ Below w4.heap.size w4 w'' ∧
            ∀ j, (w4.heap.size < w'.heap.size → w''.cell? ⟨w4.heap.size, j, none⟩ = w'.cell? ⟨w4.heap.size, j, none⟩ ∧ w''.frozen? ⟨w4.heap.size, j, none⟩ = w'.frozen? ⟨w4.heap.size, j, none⟩ ∧ w4.heap.size < w''.heap.size ∧ ¬ w4.heap.size = w''.heap.size))) := fun w' hb => by
          obtain ⟨_, _, pl, lr, mr⟩ := KC.out w' (B4.out.trans (hb.mono B4.out.size))
          have h1 := tmake_any ns cs lv ms (s : Int) An Ac Al Am cn cc cl cm w' (by omega) (by omega) HWF.out (by omega) HWL.out (by omega) HWM.out pl lr mr
          refine h1.mono fun e w'' h => ?_
          have h2 := px_of h
          rw [hte, hX] at h2
          have hb2 : Below w'.heap.size w' w'' := h.1
          have hz2 := hb2.size
          exact ⟨h2, hb.trans (hb2.mono hb.size), fun j hl => ⟨hb2.cell hl, hb2.frozen hl, by omega, by omega⟩⟩
        have KP : Hid (∀ w', Below w4.heap.size w4 w' → w'.cell? ⟨w.heap.size, 0, none⟩ = some (.slice An ns.length cn) ∧ w'.cell? ⟨w.heap.size, 1, none⟩ = some (.slice Ac cs.length cc) ∧ w'.cell? ⟨w.heap.size + 1, 0, none⟩ = some (.slice Al lv.length cl)) := fun w' hb => (KC.out w' (B4.out.trans (hb.mono B4.out.size))).1
        clear hs hte hX ho
        go_wp2_with fail
        go_cut [11, 12] from 41 to 53 (fun s9 s10 wx => RGx X te w4 s9 s10 wx)
        case first =>
          clear HTE HX HSX HO H1 L1 M1 HWF HWL HWM KC HW1 B2 BW2 B3 B4 BW4 PL4 LR4 MR4 BW
          have hw0 : IntKind.i64.wrap (s : Int) = (s : Int) := IntWalk.i64_in _ (by omega)
          have hn1 : (0 : Int) < (ns.length : Int) := by omega
          have hw1' : IntKind.i64.wrap (sn : Int) = (sn : Int) := IntWalk.i64_in _ (by omega)
          go_region_held3 (fun w' => w'.cell? ⟨w.heap.size, 0, none⟩ = some (.slice An ns.length cn) ∧ w'.cell? ⟨w.heap.size, 1, none⟩ = some (.slice Ac cs.length cc) ∧ w'.cell? ⟨w.heap.size + 1, 0, none⟩ = some (.slice Al lv.length cl))
            (first | exact ⟨c0, c1, c2⟩ | (refine KP.out _ ?_; repeat (first | exact Below.refl _ _ | exact BS.out | refine below_drewS ?_ | refine below_allocS ?_ _ | refine below_setS ?_ (by first | exact Nat.le_refl _ | (dsimp only; omega) | (dsimp only; have := BS.out.size; omega)))))
            (first
              | (go_at_call 28
                 refine (MZ.out _ (by repeat (first | exact Below.refl _ _ | refine below_drewS ?_ | refine below_allocS ?_ _))).mono ?_
                 rintro e ws ⟨⟨aO, aD, cO, cDl, rfl, ht3, bels⟩, bs1, pos⟩
                 unfold trV
                 have HT3 := Lib.hid ht3
                 have BS := Lib.hid bs1
                 have BLS := Lib.hid bels
                 have xc0 := pos 0
                 have xc1 := pos 1
                 have xc2 := pos 2
                 try simp [go_sem] at xc0
                 try simp [go_sem] at xc1
                 try simp [go_sem] at xc2
                 clear ht3 bels bs1 pos))
          all_goals
            go_wp2_with fail
            go_meet
            case rel =>
              have z0 := BLS.out.size
              simp at z0
              apply rgx_mk
              case hX =>
                first
                  | with_reducible exact blkA0 ws _ _
                  | with_reducible exact fill3 (a0 := .int .i64 0) (a1 := .slice none 0 0) (a2 := .slice none 0 0) (keepD (by with_reducible exact blkA0 _ _ _) BLS.out) _ _ _
              case hB =>
                repeat (first | with_reducible exact BS.out | refine below_allocS ?_ _ | refine below_setS ?_ (by dsimp only; omega))
              case hT =>
                refine HT3.out _ ?_
                first
                  | with_reducible exact AgreeF.alloc _ ws _
                  | exact AgreeF.set3 ws (by simp) _ _ _
        case rest =>
          obtain ⟨bX, aO, aD, cO, cDl, rfl, rfl, belc, hXB, hXT⟩ := hcut
          have B6 : Hid (Below w1.heap.size w1 wc) := B4.out.trans (belc.mono B4.out.size)
          have XB6 := Lib.hid hXB
          have XT6 := Lib.hid hXT
          obtain ⟨⟨pc0, pc1, pc2⟩, bwc, _⟩ := KC.out wc B6.out
          have BW6 := Lib.hid bwc
          clear MZ KP belc hXB hXT c0 c1 c2 bwc
          by_cases ht0 : te = 0
          · obtain ⟨k', hk', mok⟩ := mok_of (HTE.out.trans ht0)
            obtain rfl : s = k' := by omega
            have hXk : X = mkT ns cs lv ms s := by rw [← HX.out]; exact mkX_ok (HTE.out.trans ht0)
            have wys : waysB ns cs X = true := by rw [hXk]; exact mok.mk_ways
            have SRC : Hid (X.src = (s : Int)) := by rw [Hid, hXk]; rfl
            have HLX : Hid (X.out.length = ns.length) := by rw [Hid, hXk]; exact mkT_len
            have HRW : Hid (X.out = rowsM ns cs lv ms s) := by rw [Hid, hXk]; rfl
            have HDM : Hid (∀ m, m ∈ X.del ↔ m ∈ ms) := fun m => by rw [hXk]; unfold mkT; exact mem_delM
            have HDL : Hid (X.del.length = ms.length) := by rw [Hid, hXk]; unfold mkT delM; simp
            have MO := Lib.hid mok
            subst ht0
            obtain ⟨u, hu⟩ : ∃ u : Nat, kn % ns.length = u := ⟨_, rfl⟩
            have hun : u < ns.length := by rw [← hu]; exact Nat.mod_lt _ (by omega)
            have hrem2 : (kn : Int).tmod (ns.length : Int) = (u : Int) := by rw [← hu, Int.tmod_eq_emod_of_nonneg (by omega)]; simp
            have x0c : wc.cell? ⟨bX, 0, none⟩ = some (.int .i64 X.src) := XB6.out.cell 0
            have x1c : wc.cell? ⟨bX, 1, none⟩ = some (.slice aO X.out.length cO) := XB6.out.cell 1
            have x2c : wc.cell? ⟨bX, 2, none⟩ = some (.slice aD X.del.length cDl) := XB6.out.cell 2
            have VC := tvalid_any ns cs X An Ac aO aD cn cc cO cDl wc (by omega) (by omega) HWF.out HSX.out (KC.out wc B6.out).2.2.1 XT6.out
            rw [wys] at VC
            unfold trV at VC
            have VCH := Lib.hid VC
            have q2 : ((X.out.length : Int) != (ns.length : Int)) = false := by rw [HLX.out]; simp
            clear VC wys hXk mok hk' hu
            go_wp2_with fail
            refine VCH.out.mono ?_
            rintro e w7 ⟨rfl, bel7⟩
            have B7 : Hid (Below w1.heap.size w1 w7) := B6.out.trans (bel7.mono B6.out.size)
            have XB7 : Hid (Blk w7 bX 61 #[.int .i64 X.src, .slice aO X.out.length cO, .slice aD X.del.length cDl]) := XB6.out.below bel7 XB6.out.lt
            have XT7 : Hid (IsTree w7 aO aD X) := XT6.out.below (Nat.le_refl _) bel7
            have x1 : w7.cell? ⟨bX, 1, none⟩ = some (.slice aO X.out.length cO) := XB7.out.cell 1
            obtain ⟨⟨c0, c1, c2⟩, _⟩ := KC.out w7 B7.out
            obtain ⟨bo, oo, ar, capr, hao, hbo, hmr, hrr, cr0⟩ := XT7.out.out.at_ u (by have := HLX.out; omega)
            have CPY : Hid (∀ w', Below w7.heap.size w7 w' → Calls Try.prog 34 #[.pointer (some ⟨bX, 0, none⟩)] w' (CopyPost X w')) := fun w' hb =>
              copied_any X bX aO aD cO cDl w' HSX.out (by have := HLX.out; omega) (XB7.out.below hb XB7.out.lt) (XT7.out.below (Nat.le_refl _) hb)
            have VAL : Hid (∀ (Y : Tr) (a1 a2 : Option Addr) (k1 k2 : Nat) (w' : World), Below w1.heap.size w1 w' → SmallT Y → IsTree w' a1 a2 Y → waysB ns cs Y = false → Calls Try.prog 33 #[.agg #[.slice An ns.length cn, .slice Ac cs.length cc], .agg #[.int .i64 Y.src, .slice a1 Y.out.length k1, .slice a2 Y.del.length k2]] w' fun e w'' => e = .returned (.bool false) ∧ Below w'.heap.size w' w'') := fun Y a1 a2 k1 k2 w' hb hs ht hw => by
              have h1 := tvalid_any ns cs Y An Ac a1 a2 cn cc k1 k2 w' (by omega) (by omega) HWF.out hs (KC.out w' hb).2.2.1 ht
              rw [hw] at h1
              exact h1
            have RWS : Hid (∀ i, (X.out.getD i []).length ≤ 32) := fun i => by
              rw [HRW.out]
              by_cases q : i < ns.length
              · rw [rowsM_at q]; have := MO.out.len i; have := (valid_sizes MO.out.T.hv).2; omega
              · rw [rowsM_out q]; simp
            have K7 : Hid (∀ w', Below w7.heap.size w7 w' → Below w1.heap.size w1 w' ∧ w'.cell? ⟨w.heap.size, 0, none⟩ = some (.slice An ns.length cn) ∧ w'.cell? ⟨w.heap.size, 1, none⟩ = some (.slice Ac cs.length cc) ∧ Below w.heap.size w w') := fun w' hb => by
              have h1 := B7.out.trans (hb.mono B7.out.size)
              obtain ⟨⟨a0, a1, _⟩, a2, _⟩ := KC.out w' h1
              exact ⟨h1, a0, a1, a2⟩
            have hui : (u : Int) < (X.out.length : Int) := by have := HLX.out; omega
            clear bel7 VCH x0c x1c x2c pc0 pc1 pc2 q1 q2
            by_cases hl0 : 0 < (X.out.getD u []).length
            · have hlI : (0 : Int) < ((X.out.getD u []).length : Int) := by omega
              have CP1 := Lib.hid (CPY.out w7 (Below.refl _ _))
              have HAO := Lib.hid hao
              have RR := Lib.hid hrr
              subst hao
              clear hmr hrr
              go_wp2_with fail
              refine CP1.out.mono ?_
              rintro e wa ⟨vD, vO, V, rfl, hcp, bela⟩
              obtain ⟨gO, cO1, hvO, hgb, hgl, hgc⟩ := hcp.form (by have := HLX.out; omega)
              obtain ⟨aD1, cD1, hvD, _⟩ := rec_of_own (d := (0 : Int)) cI_length (by decide) hcp.d
              obtain ⟨av, cv, hVu, hrv, hbv⟩ := hcp.rowRec (i := u) (by have := HLX.out; omega)
              subst hvO
              subst hvD
              have CP := Lib.hid hcp
              have BA := Lib.hid bela
              obtain ⟨gv, ov, hav, hrd⟩ := rec_drop1 hrv hl0
              subst hav
              have gu := hgc u (by have := HLX.out; omega)
              rw [hVu] at gu
              have HVU := Lib.hid hVu
              have HRD := Lib.hid hrd
              have HRV := Lib.hid hrv
              have HBV := Lib.hid hbv
              clear hcp bela CP1 hgc hrv hrd hVu hbv x1 cr0 c0 c1 c2
              have ngO : ¬ gO = wa.heap.size := by omega
              obtain ⟨gu0, gu1⟩ := gu
              have vi : (u : Int) < (X.out.length : Int) := hui
              obtain ⟨row, hrow⟩ : ∃ row, X.out.getD u [] = row := ⟨_, rfl⟩
              have HROW := Lib.hid hrow
              rw [hrow] at hl0 hlI gu0 HVU HRD HRV RR
              have rl32 : row.length ≤ 32 := by rw [← hrow]; exact RWS.out u
              have nO : Hid (∀ x : Addr, x.block = gv → x.block ≠ gO) := fun x hx e => by
                have h1 := HBV.out ⟨gv, ov, none⟩ rfl
                exact CP.out.aor u (by have := HLX.out; omega) gO rfl (by rw [h1]; exact congrArg some (by rw [← hx, e]))
              have T1 : Hid (∀ (wx : World) (a' : Option Addr) (c' : Nat), Below wa.heap.size wa wx → (a' = some ⟨gv, ov + 1, none⟩ ∨ (row.drop 1).length = 0 ∧ a' = some ⟨gv, ov, none⟩) → IsTree (wx.setCell ⟨gO, u, none⟩ (.slice a' (row.drop 1).length c')) (some ⟨gO, 0, none⟩) aD1 ⟨X.src, rowsN X.out.length (upd1 (fun i => X.out.getD i []) u (row.drop 1)), X.del⟩) := fun wx a' c' hb ha => by
                refine (CP.out.below hb).tree_set (g := gO) (fun q e => by injection e with e; exact e.symm) rfl (by have := HLX.out; omega) ?_ (fun x e => ?_) ⟨gO, rfl, rfl⟩ rfl _
                · rcases ha with rfl | ⟨h0, rfl⟩
                  · exact HRD.out.below (Nat.le_refl _) hb
                  · exact ⟨rfl, fun h1 => by omega⟩
                · rcases ha with rfl | ⟨_, rfl⟩
                  · injection e with e; exact nO.out x (by rw [← e])
                  · injection e with e; exact nO.out x (by rw [← e])
              have W1 : Hid (waysB ns cs ⟨X.src, rowsN X.out.length (upd1 (fun i => X.out.getD i []) u (row.drop 1)), X.del⟩ = false) := by
                obtain ⟨c, l, hcl⟩ := List.exists_cons_of_ne_nil (show row ≠ [] from fun e => by rw [e] at hl0; simp at hl0)
                refine MO.out.cut_bad (u := u) (c := c) (l := l) SRC.out (fun v hv => (HDM.out v).2 hv) (by rw [← HRW.out, hrow, hcl]) (fun i => ?_)
                rw [← HRW.out]
                by_cases hi : i < X.out.length
                · rw [rowsN_at hi]
                  by_cases q : i = u
                  · subst q; rw [upd1_same, if_pos rfl, hcl]; rfl
                  · rw [upd1_other _ _ q, if_neg q]
                · rw [rowsN_out hi, if_neg (by omega)]; simp [List.getD, List.getElem?_eq_none (Nat.le_of_not_lt hi)]
              have ldrop : (row.drop 1).length = row.length - 1 := by rw [List.length_drop]
              rw [ldrop] at T1
              have hcv : row.length ≤ cv := by
                have h1 := CP.out.r u (by have := HLX.out; omega)
                rw [HVU.out] at h1
                rcases h1.2 with ⟨e, _⟩ | ⟨_, _, _, e, _, _, e2, _⟩
                · cases e
                · injection e with _ _ e3; omega
              go_wp2_with fail
              go_cut [] from 89 to 98 (fun wx => IsTree wx (some ⟨gO, 0, none⟩) aD1 ⟨X.src, rowsN X.out.length (upd1 (fun i => X.out.getD i []) u (row.drop 1)), X.del⟩ ∧ Blk wx wa.heap.size 61 #[.int .i64 X.src, .slice (some ⟨gO, 0, none⟩) X.out.length cO1, .slice aD1 X.del.length cD1] ∧ Below w7.heap.size w7 wx)
              case first =>
                have hl1 : (1 : Int) ≤ (row.length : Int) := by omega
                by_cases q : cv = 1
                · have r1 : row.length = 1 := by omega
                  have T1b := T1.out
                  rw [show row.length - 1 = 0 by omega] at T1b
                  have TT := Lib.hid (fun (wx : World) (hb : Below wa.heap.size wa wx) (c' : Nat) => T1b wx (some ⟨gv, ov, none⟩) c' hb (.inr ⟨rfl, rfl⟩))
                  have HR1 := Lib.hid r1
                  subst q
                  clear r1 T1 T1b W1 HRD HRV HBV HVU ldrop MO HRW HX HSX KC RR
                  go_region
                  all_goals
                    go_wp2_with fail
                    go_meet
                    case rel =>
                      exact sp_rel (TT.out wa (Below.refl _ _) _) BA.out (by omega)
                · have TT := Lib.hid (fun (wx : World) (hb : Below wa.heap.size wa wx) (c' : Nat) => T1.out wx (some ⟨gv, ov + 1, none⟩) c' hb (.inl rfl))
                  clear T1 W1 HRD HRV HBV HVU ldrop MO HRW HX HSX KC RR
                  go_region
                  all_goals
                    go_wp2_with fail
                    go_meet
                    case rel =>
                      exact sp_rel (TT.out wa (Below.refl _ _) _) BA.out (by omega)
              case rest =>
                obtain ⟨hT1, hB1, hbe1⟩ := hcut
                have T1c := Lib.hid hT1
                have BC := Lib.hid hbe1
                obtain ⟨b1, pc0, pc1, _⟩ := K7.out wc hbe1
                have y0 : wc.cell? ⟨wa.heap.size, 0, none⟩ = some (.int .i64 X.src) := hB1.cell 0
                have y1 : wc.cell? ⟨wa.heap.size, 1, none⟩ = some (.slice (some ⟨gO, 0, none⟩) X.out.length cO1) := hB1.cell 1
                have y2 : wc.cell? ⟨wa.heap.size, 2, none⟩ = some (.slice aD1 X.del.length cD1) := hB1.cell 2
                have V1 : Hid (Calls Try.prog 33 #[.agg #[.slice An ns.length cn, .slice Ac cs.length cc], .agg #[.int .i64 X.src, .slice (some ⟨gO, 0, none⟩) X.out.length cO1, .slice aD1 X.del.length cD1]] wc fun e w'' => e = .returned (.bool false) ∧ Below wc.heap.size wc w'') := by
                  have h := VAL.out ⟨X.src, rowsN X.out.length (upd1 (fun i => X.out.getD i []) u (row.drop 1)), X.del⟩ (some ⟨gO, 0, none⟩) aD1 cO1 cD1 wc b1 ⟨by simp [rowsN]; have := HLX.out; omega, fun r hr => ?_, HSX.out.dl⟩ hT1 W1.out
                  · simp only [rowsN_len] at h
                    exact h
                  · obtain ⟨i, _, rfl⟩ := List.mem_map.1 hr
                    by_cases q : i = u
                    · subst q; rw [upd1_same, List.length_drop]; omega
                    · rw [upd1_other _ _ q]; have := RWS.out i; omega
                clear hT1 hB1 hbe1 T1 W1 b1 gu0 gu1 ngO hgb hgl HRD HRV HBV HVU
                go_wp2_with fail
                refine V1.out.mono ?_
                rintro e wd ⟨rfl, beld⟩
                have BD : Hid (Below w7.heap.size w7 wd) := BC.out.trans (beld.mono BC.out.size)
                have x1 : wd.cell? ⟨bX, 1, none⟩ = some (.slice (some ⟨bo, oo, none⟩) X.out.length cO) := (XB7.out.below BD.out XB7.out.lt).cell 1
                obtain ⟨bo2, oo2, ar2, capr2, hao2, hbo2, hmr2, hrr2, cr2⟩ := (XT7.out.below (Nat.le_refl _) BD.out).out.at_ u (by omega)
                injection hao2 with hao2
                injection hao2 with ga gb
                subst ga
                subst gb
                rw [HROW.out] at hrr2 cr2
                obtain ⟨be, oe, hae, hbe2, hme, ee⟩ := int_at hrr2 0 hl0
                obtain ⟨_, p0d, p1d, _⟩ := K7.out wd BD.out
                have hcm : row.getD 0 0 ∈ (rowsM ns cs lv ms s).getD u [] := by rw [← HRW.out, HROW.out]; exact hme
                obtain ⟨k', hck, hkl, htc, hvn⟩ := rows_touch MO.out.T.hv MO.out.rows_ok hcm
                rw [hck] at ee hcm
                obtain ⟨bc, oc, hac, hbc, _, f0, _, f2, _⟩ := cable_at (KC.out wd (K7.out wd BD.out).1).2.2.1.2 k' hkl
                have hoz : (cs.getD k' cb0).a + (cs.getD k' cb0).b - (u : Int) = (othN cs u k' : Nat) := by
                  rcases htc with ⟨g1, g2⟩ | ⟨g1, g2⟩ <;> omega
                have hnd := cab_node MO.out.T.hv (show cs.getD k' cb0 ∈ cs by simp [List.getD, hkl])
                have W2 : Hid (∀ R2 : Nat → List Int, (∀ i, i < X.out.length → ∀ o ∈ X.out.getD i [], o ∈ R2 i) → (k' : Int) ∈ R2 (othN cs u k') → waysB ns cs ⟨X.src, rowsN X.out.length R2, X.del⟩ = false) := fun R2 hs hk => by
                  refine MO.out.back_bad (u := u) (c := (k' : Int)) SRC.out (fun i o ho => ?_) hcm ?_
                  · rw [← HRW.out] at ho
                    by_cases hi : i < X.out.length
                    · rw [rowsN_at hi]; exact hs i hi o ho
                    · simp [List.getD, List.getElem?_eq_none (Nat.le_of_not_lt hi)] at ho
                  · rw [Int.toNat_natCast, rowsN_at (by rw [HLX.out]; exact hvn)]; exact hk
                generalize othN cs u k' = v at *
                generalize cs.getD k' cb0 = cab at *
                obtain ⟨xa, xap, xb, xbp, xd, xc⟩ := cab
                simp only at f0 f2 hoz hnd
                obtain ⟨⟨na0, na1⟩, nb0, nb1⟩ := hnd
                subst hae
                have HAC := Lib.hid hac
                subst hac
                have qi : (k' : Int) < (cs.length : Int) := by omega
                have q1 : IntKind.i64.wrap (xa + xb) = xa + xb := IntWalk.i64_in _ (by omega)
                have q2 : IntKind.i64.wrap (xa + xb - (u : Int)) = (v : Int) := by rw [hoz]; exact IntWalk.i64_in _ (by omega)
                rw [Nat.add_zero] at ee
                have KB : Hid (∀ nq, Below w7.heap.size w7 (wd.drewN nq)) := fun nq => below_drewN BD.out nq
                clear beld V1 y0 y1 y2 pc0 pc1 hmr2 hrr2 hcm hme hck htc hoz
                go_wp2_with fail
                go_quiet (fail)
                clear q1 q2 f0 f2 ee cr2 x1
                have KBq := Lib.hid (KB.out nq)
                generalize wd.drewN nq = we at *
                have CP2 := Lib.hid (CPY.out we KBq.out)
                clear KB p0d p1d
                go_wp2_with fail
                refine CP2.out.mono ?_
                rintro e wf ⟨vD2, vO2, V2, rfl, hcp2, belf⟩
                obtain ⟨gO2, cO2, hvO2, hgb2, hgl2, hgc2⟩ := hcp2.form (by have := HLX.out; omega)
                obtain ⟨aD2, cD2, hvD2, _⟩ := rec_of_own (d := (0 : Int)) cI_length (by decide) hcp2.d
                obtain ⟨a2, k2, hV2, _, _⟩ := hcp2.rowRec (i := v) (by have := HLX.out; omega)
                subst hvO2
                subst hvD2
                have C2 := Lib.hid hcp2
                have BF : Hid (Below w7.heap.size w7 wf) := KBq.out.trans (belf.mono KBq.out.size)
                have hvX : v < X.out.length := by have := HLX.out; omega
                obtain ⟨gv0, gv1⟩ := hgc2 v hvX
                rw [hV2] at gv0
                have HV2 := Lib.hid hV2
                obtain ⟨wg, hwg⟩ : ∃ wg : World, wf.alloc (.cells #[.int .i64 X.src, .slice (some ⟨gO2, 0, none⟩) X.out.length cO2, .slice aD2 X.del.length cD2] 61) = wg := ⟨_, rfl⟩
                have bwg : Below wf.heap.size wf wg := by rw [← hwg]; exact (Below.refl _ _).alloc (Nat.le_refl _) _
                have ZB : Hid (Blk wg wf.heap.size 61 #[.int .i64 X.src, .slice (some ⟨gO2, 0, none⟩) X.out.length cO2, .slice aD2 X.del.length cD2]) := by rw [Hid, ← hwg]; exact Blk.new _ _ _
                have CG : Hid (CPt wg (we.heap.size + 1) (.slice aD2 X.del.length cD2) X.del (.slice (some ⟨gO2, 0, none⟩) X.out.length cO2) X.out.length V2 (fun i => X.out.getD i [])) := C2.out.below bwg
                have BG : Hid (Below w7.heap.size w7 wg) := BF.out.trans (bwg.mono BF.out.size)
                have HWG := Lib.hid hwg
                have z1 : wg.cell? ⟨wf.heap.size, 1, none⟩ = some (.slice (some ⟨gO2, 0, none⟩) X.out.length cO2) := ZB.out.cell 1
                obtain ⟨rowv, hrowv⟩ : ∃ rowv, X.out.getD v [] = rowv := ⟨_, rfl⟩
                rw [hrowv] at gv0
                have gw0 : wg.cell? ⟨gO2, v, none⟩ = some (.slice a2 (rowv).length k2) := (bwg.cell (by exact hgl2)).trans gv0
                have gw1 : wg.frozen? ⟨gO2, v, none⟩ = false := (bwg.frozen (by exact hgl2)).trans gv1
                have zgl : wf.heap.size < wg.heap.size := ZB.out.lt
                have lgO2 : gO2 < wg.heap.size := by omega
                have ngO2 : ¬ gO2 = wg.heap.size := by omega
                have nzg : ¬ wf.heap.size = wg.heap.size := by omega
                have rvl : rowv.length ≤ 32 := by rw [← hrowv]; exact RWS.out v
                have viX : (v : Int) < (X.out.length : Int) := by omega
                have OR : Hid (wg.ownsRow (we.heap.size + 1) 3 1 (.slice a2 (rowv).length k2) (rowv).length ((rowv).flatMap cI)) := by have := CG.out.r v hvX; rw [hV2] at this; rw [← hrowv]; exact this
                have OLT : Hid (∀ q, (Value.slice a2 (rowv).length k2).ownBlock = some q → q < wf.heap.size) := fun q e => by have := (C2.out.r v hvX).lt q (by rw [hV2, hrowv]; exact e); exact this.2
                have ONO : Hid ((Value.slice a2 (rowv).length k2).ownBlock ≠ some gO2) := fun e => C2.out.aor v hvX gO2 rfl (by rw [hV2, hrowv]; exact e)
                obtain ⟨i0, hi0, hy0, hy1, hy2⟩ := info_parts infoIntC
                have zwe : we.heap.size + 1 ≤ wg.heap.size := by have := belf.size; omega
                have gbz : w7.heap.size ≤ gO2 := by have := KBq.out.size; omega
                have HROWV := Lib.hid hrowv
                clear hrowv hcp2 belf CP2 hwg gv0 gv1 hgc2 hV2 bwg hgb2
                go_wp2_with fail
                rw [HWG.out]
                have FIN : Hid (∀ (w6 : World) (v' : Value), w6.ownsRow (we.heap.size + 1) 3 1 v' (rowv.length + 1) (rowv.flatMap cI ++ [.int .i64 (k' : Int)]) → ((wg.alloc (.cells #[.int .i64 (k' : Int)] 3)).drew).grownBy w6 (Value.slice a2 rowv.length k2).ownBlock → (v'.ownBlock = (Value.slice a2 rowv.length k2).ownBlock ∨ v'.ownBlock = some ((wg.alloc (.cells #[.int .i64 (k' : Int)] 3)).drew.heap.size)) →
                    (fun wx => (∃ v', v'.ownBlock ≠ some wf.heap.size ∧ CPt wx (we.heap.size + 1) (.slice aD2 X.del.length cD2) X.del (.slice (some ⟨gO2, 0, none⟩) X.out.length cO2) X.out.length (upd1 V2 v v') (upd1 (fun i => X.out.getD i []) v (rowv ++ [(k' : Int)]))) ∧ Blk wx wf.heap.size 61 #[.int .i64 X.src, .slice (some ⟨gO2, 0, none⟩) X.out.length cO2, .slice aD2 X.del.length cD2] ∧ Below w7.heap.size w7 wx) (w6.setCell ⟨gO2, v, none⟩ v')) := fun w6 v' ho hg hf => by
                  have hsz : (wg.alloc (.cells #[.int .i64 (k' : Int)] 3)).drew.heap.size = wg.heap.size + 1 := by simp
                  have eV : V2 v = .slice a2 rowv.length k2 := by rw [HV2.out, HROWV.out]
                  have n1 : v'.ownBlock ≠ some wf.heap.size := fun e => by
                    rcases hf with q | q
                    · rw [q] at e; have := OLT.out _ e; omega
                    · rw [q] at e; have e9 := Option.some.inj e; omega
                  have c4 := ((CG.out.alloc (.cells #[.int .i64 (k' : Int)] 3)).below ((Below.refl _ _).drew)).grow rfl hvX (v' := v') (row := rowv ++ [(k' : Int)]) (by rw [List.length_append, List.length_singleton, List.flatMap_append]; simpa [cI] using ho) (by rw [eV]; exact hg) (by
                    rw [eV]
                    rcases hf with q | q
                    · exact .inl q
                    · exact .inr q)
                  have b6 : Blk w6 wf.heap.size 61 #[.int .i64 X.src, .slice (some ⟨gO2, 0, none⟩) X.out.length cO2, .slice aD2 X.del.length cD2] := ((ZB.out.alloc _).drew).grown hg (fun e => by have := OLT.out _ e.symm; omega)
                  have l6 : Below w7.heap.size w7 w6 := ((BG.out.alloc BG.out.size _).drew).grown hg (by have := BG.out.size; simp; omega) (fun q e => by have h1 := (OR.out.lt q e).1; have h2 := KBq.out.size; omega)
                  exact ⟨⟨v', n1, c4⟩, b6.far (p := ⟨gO2, v, none⟩) (by dsimp only; omega) _, l6.setCell gbz _⟩
                go_cut [] from 126 to 137 (fun wx => (∃ v', v'.ownBlock ≠ some wf.heap.size ∧ CPt wx (we.heap.size + 1) (.slice aD2 X.del.length cD2) X.del (.slice (some ⟨gO2, 0, none⟩) X.out.length cO2) X.out.length (upd1 V2 v v') (upd1 (fun i => X.out.getD i []) v (rowv ++ [(k' : Int)]))) ∧ Blk wx wf.heap.size 61 #[.int .i64 X.src, .slice (some ⟨gO2, 0, none⟩) X.out.length cO2, .slice aD2 X.del.length cD2] ∧ Below w7.heap.size w7 wx)
                case first =>
                  clear W2 KC MO HRW HX HSX CPY VAL RWS RR
                  go_region_law
                    (refine step_append_any _ (by rfl) (.tmp 133) (.tmp 135) 35 (by rfl) (we.heap.size + 1) 3 i0 _ 1 8 Try.underlying35 hi0 hy0 hy1 hy2 rfl (by decide) _ rowv.length (rowv.flatMap cI) (by rfl) (by first | exact OR.out.alloc _ | exact (OR.out.alloc _).drew) (wg.heap.size + 1) (some ⟨wg.heap.size, 0, none⟩) 1 1 [.int .i64 (k' : Int)] (by rfl) (reads_newC wg _ _) ?_ ?_ ?_ ?_ ?_; (intro u hu; simp at hu; rw [hu]; rfl); (unfold maxLen; omega); omega; (simp; omega); intro v' w6 own6 gr6 loc6; obtain ⟨b6, q6, hv6⟩ := ownsRow_pos (by omega) own6; subst hv6; have k6 : w6.cell? ⟨wf.heap.size, 1, none⟩ = some (.slice (some ⟨gO2, 0, none⟩) X.out.length cO2) := (by first | exact ((ZB.out.alloc _).grown gr6 (fun e => by have := OLT.out _ e.symm; omega)).cell 1 | exact ((ZB.out.alloc _).drew.grown gr6 (fun e => by have := OLT.out _ e.symm; omega)).cell 1); have O6 := (by first | exact own_keptR (CG.out.o.alloc _) gr6 (fun q e e2 => ONO.out (by have e3 : gO2 = q := Option.some.inj e; rw [e3]; exact e2)) | exact own_keptR (CG.out.o.alloc _).drew gr6 (fun q e e2 => ONO.out (by have e3 : gO2 = q := Option.some.inj e; rw [e3]; exact e2)) : w6.ownsRow (we.heap.size + 1) 35 1 (.slice (some ⟨gO2, 0, none⟩) X.out.length cO2) X.out.length ((List.range X.out.length).map V2)); obtain ⟨c6, f6⟩ := own_rowcell O6 hvX; rw [HV2.out, HROWV.out] at c6; have O6h := Lib.hid O6; clear O6)
                  all_goals
                    have RL := FIN.out w6 _ own6 gr6 loc6
                    clear own6 gr6 loc6 c6 f6 k6
                    go_wp2_with fail
                    go_meet
                    case rel => exact RL
                case rest =>
                  obtain ⟨⟨v', hn4, hc4⟩, hzb, hbe4⟩ := hcut
                  have C4 := Lib.hid hc4
                  have B4' := Lib.hid hbe4
                  obtain ⟨gO4, cO4, hO4, _, _, hgc4⟩ := hc4.form (by omega)
                  injection hO4 with e1 _ e3
                  injection e1 with e1
                  injection e1 with e1 _
                  subst e1
                  subst e3
                  have g4c := (hgc4 v hvX).1
                  rw [upd1_same] at g4c
                  have z14 : wc.cell? ⟨wf.heap.size, 1, none⟩ = some (.slice (some ⟨gO2, 0, none⟩) X.out.length cO2) := hzb.cell 1
                  have SO := sortC_any (we.heap.size + 1) v' (rowv ++ [(k' : Int)]) wc (by rw [List.length_append, List.length_singleton]; omega) (by have := hc4.r v hvX; rw [upd1_same, upd1_same] at this; exact this)
                  have SOH := Lib.hid SO
                  have ZB4 := Lib.hid hzb
                  have zb4 : wf.heap.size < wc.heap.size := hzb.lt
                  have OL4 : Hid (v'.ownBlock ≠ some wf.heap.size) := hn4
                  clear hc4 hzb hbe4 hgc4 SO gw0 gw1 z1 FIN hn4
                  go_wp2_with fail
                  refine SOH.out.mono ?_
                  rintro e wh ⟨rfl, ownh, grh⟩
                  have C5 := C4.out.inplace hvX (row := (rowv ++ [(k' : Int)]).mergeSort leI) (by rw [upd1_same, List.length_mergeSort]; exact ownh) (by rw [upd1_same]; exact grh)
                  have ZB5 := ZB4.out.grown grh (fun e => OL4.out e.symm)
                  have OWv : Hid (∀ q, v'.ownBlock = some q → we.heap.size + 1 ≤ q) := fun q e => by have := (C4.out.r v hvX).lt q (by rw [upd1_same]; exact e); exact this.1
                  have B5 : Hid (Below w7.heap.size w7 wh) := B4'.out.grown grh B4'.out.size (fun q e => by have := OWv.out q e; have := KBq.out.size; omega)
                  have V5 : Hid (Calls Try.prog 33 #[.agg #[.slice An ns.length cn, .slice (some ⟨bc, oc, none⟩) cs.length cc], .agg #[.int .i64 X.src, .slice (some ⟨gO2, 0, none⟩) X.out.length cO2, .slice aD2 X.del.length cD2]] wh fun e w'' => e = .returned (.bool false) ∧ Below wh.heap.size wh w'') := by
                    have h := VAL.out ⟨X.src, rowsN X.out.length (upd1 (upd1 (fun i => X.out.getD i []) v (rowv ++ [(k' : Int)])) v ((rowv ++ [(k' : Int)]).mergeSort leI)), X.del⟩ (some ⟨gO2, 0, none⟩) aD2 cO2 cD2 wh (K7.out wh B5.out).1 ⟨by simp [rowsN]; have := HLX.out; omega, fun r hr => ?_, HSX.out.dl⟩ (C5.tree rfl rfl _) (W2.out _ (fun i hi o ho => ?_) ?_)
                    · simp only [rowsN_len] at h
                      exact h
                    · obtain ⟨i, _, rfl⟩ := List.mem_map.1 hr
                      by_cases q : i = v
                      · subst q; rw [upd1_same, List.length_mergeSort, List.length_append, List.length_singleton]; omega
                      · rw [upd1_other _ _ q, upd1_other _ _ q]; have := RWS.out i; omega
                    · by_cases q : i = v
                      · subst q; rw [upd1_same, List.mem_mergeSort]; rw [HROWV.out] at ho; exact List.mem_append_left _ ho
                      · rw [upd1_other _ _ q, upd1_other _ _ q]; exact ho
                    · rw [upd1_same, List.mem_mergeSort]; simp
                  obtain ⟨_, p0h, p1h, _⟩ := K7.out wh B5.out
                  have zz0 : wh.cell? ⟨wf.heap.size, 0, none⟩ = some (.int .i64 X.src) := ZB5.cell 0
                  have zz1 : wh.cell? ⟨wf.heap.size, 1, none⟩ = some (.slice (some ⟨gO2, 0, none⟩) X.out.length cO2) := ZB5.cell 1
                  have zz2 : wh.cell? ⟨wf.heap.size, 2, none⟩ = some (.slice aD2 X.del.length cD2) := ZB5.cell 2
                  clear ownh grh C5 ZB5 SOH z14 g4c
                  go_wp2_with fail
                  refine V5.out.mono ?_
                  rintro e wt ⟨rfl, belt⟩
                  have BT : Hid (Below w7.heap.size w7 wt) := B5.out.trans (belt.mono B5.out.size)
                  clear belt V5 zz0 zz1 zz2 p0h p1h
                  try clear W2
                  try clear OR
                  try clear OLT
                  try clear ONO
                  try clear C4
                  try clear ZB
                  try clear ZB4
                  try clear CG
                  try clear C2
                  try clear HV2
                  try clear OL4
                  try clear OWv
                  try clear B4'
                  try clear B5
                  try clear SOH
                  try clear BG
                  try clear BF
                  try clear hl0
                  try clear hlI
                  try clear hui
                  try clear vi
                  try clear rl32
                  try clear hcv
                  try clear na0
                  try clear na1
                  try clear nb0
                  try clear nb1
                  try clear qi
                  try clear hgl2
                  try clear hvX
                  try clear zgl
                  try clear lgO2
                  try clear ngO2
                  try clear nzg
                  try clear rvl
                  try clear viX
                  try clear zwe
                  try clear gbz
                  try clear zb4
                  try clear hgb
                  try clear hgl
                  try clear ngO
                  try clear g4c
                  try clear MO
                  try clear HRW
                  try clear HX
                  try clear HSX'
                  try clear RR
                  try clear HAC
                  try clear CP
                  try clear T1c
                  try clear BD
                  try clear BC
                  try clear BA
                  try clear BE
                  try clear KBq
                  try clear HROW
                  try clear HROWV
                  try clear hvn
                  try clear hkl
                  as_aux_lemma =>
                    have CP3 := Lib.hid (CPY.out wt BT.out)
                    go_wp2_with fail
                    refine CP3.out.mono ?_
                    rintro e wm ⟨vD3, vO3, V3, rfl, hcp3, belm⟩
                    obtain ⟨gO3, cO3, hvO3, hgb3, hgl3, _⟩ := hcp3.form (by have := HLX.out; omega)
                    obtain ⟨aD3, cD3, hvD3, _⟩ := rec_of_own (d := (0 : Int)) cI_length (by decide) hcp3.d
                    subst hvO3
                    subst hvD3
                    have C3 := Lib.hid hcp3
                    have B3m : Hid (Below w7.heap.size w7 wm) := (BT.out).trans (belm.mono (BT.out).size)
                    have zm := B3m.out.size
                    have zmt := belm.size
                    have zw0 := (BT.out).size
                    obtain ⟨_, p0m, p1m, _⟩ := K7.out wm B3m.out
                    have lw : w.heap.size < wm.heap.size := by have := B7.out.size; omega
                    have nw : ¬ w.heap.size = wm.heap.size := by omega
                    have OA3 : Hid ((((wm.alloc (.cells #[.int .i64 X.src, .slice (some ⟨gO3, 0, none⟩) X.out.length cO3, .slice aD3 X.del.length cD3] 61)).alloc (.cells #[.int .i64 (ns.length : Int)] 3)).ownsRow (wt.heap.size + 1) 3 1 (.slice aD3 X.del.length cD3) X.del.length (X.del.flatMap cI))) := (C3.out.d.alloc _).alloc _
                    have RD3 : Hid (Reads ((wm.alloc (.cells #[.int .i64 X.src, .slice (some ⟨gO3, 0, none⟩) X.out.length cO3, .slice aD3 X.del.length cD3] 61)).alloc (.cells #[.int .i64 (ns.length : Int)] 3)) (wm.heap.size + 1 + 1) 1 (some ⟨wm.heap.size + 1, 0, none⟩) 1 [.int .i64 (ns.length : Int)]) := by
                      have := reads_newC (wm.alloc (.cells #[.int .i64 X.src, .slice (some ⟨gO3, 0, none⟩) X.out.length cO3, .slice aD3 X.del.length cD3] 61)) 3 (.int .i64 (ns.length : Int))
                      rw [World.size_alloc] at this
                      exact this
                    obtain ⟨i3, hi3, hw0, hw1', hw2⟩ := info_parts infoIntC
                    have dl3 : X.del.length ≤ 20 := by have := HDL.out; omega
                    clear hcp3 belm CP3
                    go_wp2_with (at_builtin; refine wpList_append_any _ rfl (.tmp 150) (.tmp 154) 35 rfl (wt.heap.size + 1) 3 i3 _ 1 8 Try.underlying35 hi3 hw0 hw1' hw2 rfl (by decide) _ X.del.length _ rfl OA3.out (wm.heap.size + 1 + 1) (some ⟨wm.heap.size + 1, 0, none⟩) 1 1 [.int .i64 (ns.length : Int)] rfl RD3.out ?m1ta ?m2ta ?m3ta ?m4ta ?_)
                    case m1ta => first | rfl | (intro z hz; simp at hz; rw [hz]; rfl)
                    case m2ta => unfold maxLen; omega
                    case m3ta => omega
                    case m4ta => first | omega | (simp; omega)
                    intro v3 w3' own3 gr3 loc3
                    obtain ⟨g9, q9, hv9⟩ := ownsRow_pos (by omega) own3
                    subst hv9
                    have DLT : Hid (∀ q, (Value.slice aD3 X.del.length cD3).ownBlock = some q → wt.heap.size + 1 ≤ q ∧ q < wm.heap.size) := fun q e => C3.out.d.lt q e
                    have YB : Hid (Blk w3' wm.heap.size 61 #[.int .i64 X.src, .slice (some ⟨gO3, 0, none⟩) X.out.length cO3, .slice aD3 X.del.length cD3]) := (((blkA0 wm _ _).alloc _).grown gr3 (fun e => by have := (DLT.out _ e.symm).2; omega))
                    have l9 : g9 ≠ wm.heap.size := fun e => by
                      rcases loc3 with q | q
                      · have := (DLT.out g9 q.symm).2; omega
                      · have e2 : g9 = wm.heap.size + 1 + 1 := Option.some.inj q; omega
                    have C9 := (((C3.out.alloc (.cells #[.int .i64 X.src, .slice (some ⟨gO3, 0, none⟩) X.out.length cO3, .slice aD3 X.del.length cD3] 61)).alloc (.cells #[.int .i64 (ns.length : Int)] 3)).moreDel (v' := .slice (some ⟨g9, 0, none⟩) (X.del.length + 1) q9) (del' := X.del ++ [(ns.length : Int)]) (by rw [List.length_append, List.length_singleton, List.flatMap_append]; simpa [cI] using own3) gr3 (by rcases loc3 with q | q; exact .inl q; exact .inr (by rw [q]; simp)))
                    obtain ⟨wn, hwn⟩ : ∃ wn : World, w3'.setCell ⟨wm.heap.size, 2, none⟩ (.slice (some ⟨g9, 0, none⟩) (X.del.length + 1) q9) = wn := ⟨_, rfl⟩
                    have C10 : CPt wn (wt.heap.size + 1) (.slice (some ⟨g9, 0, none⟩) (X.del.length + 1) q9) (X.del ++ [(ns.length : Int)]) (.slice (some ⟨gO3, 0, none⟩) X.out.length cO3) X.out.length V3 (fun i => X.out.getD i []) := by
                      rw [← hwn]
                      refine C9.kept (only_setCell (only_refl _ _) (.inl rfl) _) (fun q e e2 => ?_) (fun q e e2 => ?_) (fun i hi q e e2 => ?_)
                      · have h1 : g9 = q := Option.some.inj e; have h2 : wm.heap.size = q := Option.some.inj e2; omega
                      · have h1 : gO3 = q := Option.some.inj e; have h2 : wm.heap.size = q := Option.some.inj e2; omega
                      · have h1 := (C3.out.r i hi).lt q e; have h2 : wm.heap.size = q := Option.some.inj e2; omega
                    have T10 : Hid (IsTree wn (some ⟨gO3, 0, none⟩) (some ⟨g9, 0, none⟩) ⟨X.src, rowsN X.out.length (fun i => X.out.getD i []), X.del ++ [(ns.length : Int)]⟩) := C10.tree rfl (cD := q9) (by rw [List.length_append, List.length_singleton]) _
                    have YB10 : Hid (Blk wn wm.heap.size 61 #[.int .i64 X.src, .slice (some ⟨gO3, 0, none⟩) X.out.length cO3, .slice (some ⟨g9, 0, none⟩) (X.del.length + 1) q9]) := by rw [Hid, ← hwn]; exact YB.out.set_ 2 _
                    have BN : Hid (Below w7.heap.size w7 wn) := by
                      rw [Hid, ← hwn]
                      refine Below.setCell (((B3m.out.alloc B3m.out.size _).alloc (by simp; omega) _).grown gr3 (by simp; omega) (fun q e => by have := (DLT.out q e).1; omega)) (by dsimp only; omega) _
                    have k9 : w3'.cell? ⟨wm.heap.size, 2, none⟩ = some (.slice aD3 X.del.length cD3) := YB.out.cell 2
                    have f9 : w3'.frozen? ⟨wm.heap.size, 2, none⟩ = false := YB.out.frozen 2
                    have HWN := Lib.hid hwn
                    have CP4 := Lib.hid (CPY.out wn BN.out)
                    clear own3 gr3 loc3 C9 C10 hwn OA3 RD3 p0m p1m
                    go_wp2_with fail
                    rw [HWN.out]
                    refine CP4.out.mono ?_
                    rintro e wo ⟨vD4, vO4, V4, rfl, hcp4, belo⟩
                    obtain ⟨gO4, cO4, hvO4, hgb4, hgl4, _⟩ := hcp4.form (by have := HLX.out; omega)
                    obtain ⟨aD4, cD4, hvD4, _⟩ := rec_of_own (d := (0 : Int)) cI_length (by decide) hcp4.d
                    subst hvO4
                    subst hvD4
                    have BO : Hid (Below w7.heap.size w7 wo) := BN.out.trans (belo.mono BN.out.size)
                    obtain ⟨wp, hwp⟩ : ∃ wp : World, wo.alloc (.cells #[.int .i64 (-1), .slice (some ⟨gO4, 0, none⟩) X.out.length cO4, .slice aD4 X.del.length cD4] 61) = wp := ⟨_, rfl⟩
                    have bwp : Below wo.heap.size wo wp := by rw [← hwp]; exact (Below.refl _ _).alloc (Nat.le_refl _) _
                    have ZBp : Hid (Blk wp wo.heap.size 61 #[.int .i64 (-1), .slice (some ⟨gO4, 0, none⟩) X.out.length cO4, .slice aD4 X.del.length cD4]) := by rw [Hid, ← hwp]; exact Blk.new _ _ _
                    have T4 : Hid (IsTree wp (some ⟨gO4, 0, none⟩) aD4 ⟨-1, rowsN X.out.length (fun i => X.out.getD i []), X.del⟩) := (hcp4.below bwp).tree rfl rfl _
                    have BP : Hid (Below w7.heap.size w7 wp) := BO.out.trans (bwp.mono BO.out.size)
                    have T10p : Hid (IsTree wp (some ⟨gO3, 0, none⟩) (some ⟨g9, 0, none⟩) ⟨X.src, rowsN X.out.length (fun i => X.out.getD i []), X.del ++ [(ns.length : Int)]⟩) := (T10.out.below (Nat.le_refl _) belo).below (Nat.le_refl _) bwp
                    have YBo : Hid (Blk wo wm.heap.size 61 #[.int .i64 X.src, .slice (some ⟨gO3, 0, none⟩) X.out.length cO3, .slice (some ⟨g9, 0, none⟩) (X.del.length + 1) q9]) := YB10.out.below belo YB10.out.lt
                    have SMA : Hid (∀ (d : List Int) (s' : Int), d.length ≤ 1000000 → SmallT ⟨s', rowsN X.out.length (fun i => X.out.getD i []), d⟩) := fun d s' hd => ⟨by simp [rowsN]; have := HLX.out; omega, fun r hr => (by
                      obtain ⟨i, _, rfl⟩ := List.mem_map.1 hr
                      have := RWS.out i
                      omega), hd⟩
                    have V6 : Hid (Calls Try.prog 33 #[.agg #[.slice An ns.length cn, .slice (some ⟨bc, oc, none⟩) cs.length cc], .agg #[.int .i64 X.src, .slice (some ⟨gO3, 0, none⟩) X.out.length cO3, .slice (some ⟨g9, 0, none⟩) (X.del.length + 1) q9]] wp fun e w'' => e = .returned (.bool false) ∧ Below wp.heap.size wp w'') := by
                      have h := VAL.out ⟨X.src, rowsN X.out.length (fun i => X.out.getD i []), X.del ++ [(ns.length : Int)]⟩ (some ⟨gO3, 0, none⟩) (some ⟨g9, 0, none⟩) cO3 q9 wp (K7.out wp BP.out).1 (SMA.out _ _ (by rw [List.length_append, List.length_singleton]; omega)) T10p.out (del_bad (v := (ns.length : Int)) (by simp) (by omega))
                      simp only [rowsN_len, List.length_append, List.length_singleton] at h
                      exact h
                    have V7 : Hid (∀ w', Below wp.heap.size wp w' → Calls Try.prog 33 #[.agg #[.slice An ns.length cn, .slice (some ⟨bc, oc, none⟩) cs.length cc], .agg #[.int .i64 (-1), .slice (some ⟨gO4, 0, none⟩) X.out.length cO4, .slice aD4 X.del.length cD4]] w' fun e w'' => e = .returned (.bool false) ∧ Below w'.heap.size w' w'') := fun w' hb => by
                      have h := VAL.out ⟨-1, rowsN X.out.length (fun i => X.out.getD i []), X.del⟩ (some ⟨gO4, 0, none⟩) aD4 cO4 cD4 w' (K7.out w' (BP.out.trans (hb.mono BP.out.size))).1 (SMA.out _ _ (by omega)) (T4.out.below (Nat.le_refl _) hb) (wb2 (by unfold isNodeB; rfl))
                      simp only [rowsN_len] at h
                      exact h
                    obtain ⟨_, p0o, p1o, _⟩ := K7.out wo BO.out
                    have y0 : wo.cell? ⟨wm.heap.size, 0, none⟩ = some (.int .i64 X.src) := YBo.out.cell 0
                    have y1 : wo.cell? ⟨wm.heap.size, 1, none⟩ = some (.slice (some ⟨gO3, 0, none⟩) X.out.length cO3) := YBo.out.cell 1
                    have y2 : wo.cell? ⟨wm.heap.size, 2, none⟩ = some (.slice (some ⟨g9, 0, none⟩) (X.del.length + 1) q9) := YBo.out.cell 2
                    have lo1 : wm.heap.size < wo.heap.size := YBo.out.lt
                    have lo2 : ¬ wm.heap.size = wo.heap.size := by omega
                    have lo3 : w.heap.size < wo.heap.size := by omega
                    have lo4 : ¬ w.heap.size = wo.heap.size := by omega
                    have HWP := Lib.hid hwp
                    clear hcp4 belo hwp bwp CP4 k9 f9
                    go_wp2_with fail
                    rw [HWP.out]
                    refine V6.out.mono ?_
                    rintro e wq ⟨rfl, belq⟩
                    have BQ : Hid (Below w7.heap.size w7 wq) := BP.out.trans (belq.mono BP.out.size)
                    have ZBq : Hid (Blk wq wo.heap.size 61 #[.int .i64 (-1), .slice (some ⟨gO4, 0, none⟩) X.out.length cO4, .slice aD4 X.del.length cD4]) := ZBp.out.below belq ZBp.out.lt
                    have V7q := Lib.hid (V7.out wq belq)
                    obtain ⟨_, p0q, p1q, _⟩ := K7.out wq BQ.out
                    have u0 : wq.cell? ⟨wo.heap.size, 0, none⟩ = some (.int .i64 (-1)) := ZBq.out.cell 0
                    have u1 : wq.cell? ⟨wo.heap.size, 1, none⟩ = some (.slice (some ⟨gO4, 0, none⟩) X.out.length cO4) := ZBq.out.cell 1
                    have u2 : wq.cell? ⟨wo.heap.size, 2, none⟩ = some (.slice aD4 X.del.length cD4) := ZBq.out.cell 2
                    clear belq V6 V7 y0 y1 y2 p0o p1o
                    go_wp2_with fail
                    refine V7q.out.mono ?_
                    rintro e wr ⟨rfl, belr⟩
                    have BR := Lib.hid (K7.out wr (BQ.out.trans (belr.mono BQ.out.size))).2.2.2
                    clear belr V7q u0 u1 u2 p0q p1q
                    go_wp2_with fail
                    go_ret
                    exact ⟨rfl, BR.out⟩
            · have hlN : ¬ (0 : Int) < ((X.out.getD u []).length : Int) := by omega
              generalize hrl0 : (X.out.getD u []).length = rl0 at *
              have HAO := Lib.hid hao
              subst hao
              clear hmr hrr hrl0
              go_wp2_with fail
              clear x1 cr0 c0 c1 c2
              have BT : Hid (Below w7.heap.size w7 w7) := Below.refl _ _
              as_aux_lemma =>
                have CP3 := Lib.hid (CPY.out w7 BT.out)
                go_wp2_with fail
                refine CP3.out.mono ?_
                rintro e wm ⟨vD3, vO3, V3, rfl, hcp3, belm⟩
                obtain ⟨gO3, cO3, hvO3, hgb3, hgl3, _⟩ := hcp3.form (by have := HLX.out; omega)
                obtain ⟨aD3, cD3, hvD3, _⟩ := rec_of_own (d := (0 : Int)) cI_length (by decide) hcp3.d
                subst hvO3
                subst hvD3
                have C3 := Lib.hid hcp3
                have B3m : Hid (Below w7.heap.size w7 wm) := (BT.out).trans (belm.mono (BT.out).size)
                have zm := B3m.out.size
                have zmt := belm.size
                have zw0 := (BT.out).size
                obtain ⟨_, p0m, p1m, _⟩ := K7.out wm B3m.out
                have lw : w.heap.size < wm.heap.size := by have := B7.out.size; omega
                have nw : ¬ w.heap.size = wm.heap.size := by omega
                have OA3 : Hid ((((wm.alloc (.cells #[.int .i64 X.src, .slice (some ⟨gO3, 0, none⟩) X.out.length cO3, .slice aD3 X.del.length cD3] 61)).alloc (.cells #[.int .i64 (ns.length : Int)] 3)).ownsRow (w7.heap.size + 1) 3 1 (.slice aD3 X.del.length cD3) X.del.length (X.del.flatMap cI))) := (C3.out.d.alloc _).alloc _
                have RD3 : Hid (Reads ((wm.alloc (.cells #[.int .i64 X.src, .slice (some ⟨gO3, 0, none⟩) X.out.length cO3, .slice aD3 X.del.length cD3] 61)).alloc (.cells #[.int .i64 (ns.length : Int)] 3)) (wm.heap.size + 1 + 1) 1 (some ⟨wm.heap.size + 1, 0, none⟩) 1 [.int .i64 (ns.length : Int)]) := by
                  have := reads_newC (wm.alloc (.cells #[.int .i64 X.src, .slice (some ⟨gO3, 0, none⟩) X.out.length cO3, .slice aD3 X.del.length cD3] 61)) 3 (.int .i64 (ns.length : Int))
                  rw [World.size_alloc] at this
                  exact this
                obtain ⟨i3, hi3, hw0, hw1', hw2⟩ := info_parts infoIntC
                have dl3 : X.del.length ≤ 20 := by have := HDL.out; omega
                clear hcp3 belm CP3
                go_wp2_with (at_builtin; refine wpList_append_any _ rfl (.tmp 150) (.tmp 154) 35 rfl (w7.heap.size + 1) 3 i3 _ 1 8 Try.underlying35 hi3 hw0 hw1' hw2 rfl (by decide) _ X.del.length _ rfl OA3.out (wm.heap.size + 1 + 1) (some ⟨wm.heap.size + 1, 0, none⟩) 1 1 [.int .i64 (ns.length : Int)] rfl RD3.out ?m1tb ?m2tb ?m3tb ?m4tb ?_)
                case m1tb => first | rfl | (intro z hz; simp at hz; rw [hz]; rfl)
                case m2tb => unfold maxLen; omega
                case m3tb => omega
                case m4tb => first | omega | (simp; omega)
                intro v3 w3' own3 gr3 loc3
                obtain ⟨g9, q9, hv9⟩ := ownsRow_pos (by omega) own3
                subst hv9
                have DLT : Hid (∀ q, (Value.slice aD3 X.del.length cD3).ownBlock = some q → w7.heap.size + 1 ≤ q ∧ q < wm.heap.size) := fun q e => C3.out.d.lt q e
                have YB : Hid (Blk w3' wm.heap.size 61 #[.int .i64 X.src, .slice (some ⟨gO3, 0, none⟩) X.out.length cO3, .slice aD3 X.del.length cD3]) := (((blkA0 wm _ _).alloc _).grown gr3 (fun e => by have := (DLT.out _ e.symm).2; omega))
                have l9 : g9 ≠ wm.heap.size := fun e => by
                  rcases loc3 with q | q
                  · have := (DLT.out g9 q.symm).2; omega
                  · have e2 : g9 = wm.heap.size + 1 + 1 := Option.some.inj q; omega
                have C9 := (((C3.out.alloc (.cells #[.int .i64 X.src, .slice (some ⟨gO3, 0, none⟩) X.out.length cO3, .slice aD3 X.del.length cD3] 61)).alloc (.cells #[.int .i64 (ns.length : Int)] 3)).moreDel (v' := .slice (some ⟨g9, 0, none⟩) (X.del.length + 1) q9) (del' := X.del ++ [(ns.length : Int)]) (by rw [List.length_append, List.length_singleton, List.flatMap_append]; simpa [cI] using own3) gr3 (by rcases loc3 with q | q; exact .inl q; exact .inr (by rw [q]; simp)))
                obtain ⟨wn, hwn⟩ : ∃ wn : World, w3'.setCell ⟨wm.heap.size, 2, none⟩ (.slice (some ⟨g9, 0, none⟩) (X.del.length + 1) q9) = wn := ⟨_, rfl⟩
                have C10 : CPt wn (w7.heap.size + 1) (.slice (some ⟨g9, 0, none⟩) (X.del.length + 1) q9) (X.del ++ [(ns.length : Int)]) (.slice (some ⟨gO3, 0, none⟩) X.out.length cO3) X.out.length V3 (fun i => X.out.getD i []) := by
                  rw [← hwn]
                  refine C9.kept (only_setCell (only_refl _ _) (.inl rfl) _) (fun q e e2 => ?_) (fun q e e2 => ?_) (fun i hi q e e2 => ?_)
                  · have h1 : g9 = q := Option.some.inj e; have h2 : wm.heap.size = q := Option.some.inj e2; omega
                  · have h1 : gO3 = q := Option.some.inj e; have h2 : wm.heap.size = q := Option.some.inj e2; omega
                  · have h1 := (C3.out.r i hi).lt q e; have h2 : wm.heap.size = q := Option.some.inj e2; omega
                have T10 : Hid (IsTree wn (some ⟨gO3, 0, none⟩) (some ⟨g9, 0, none⟩) ⟨X.src, rowsN X.out.length (fun i => X.out.getD i []), X.del ++ [(ns.length : Int)]⟩) := C10.tree rfl (cD := q9) (by rw [List.length_append, List.length_singleton]) _
                have YB10 : Hid (Blk wn wm.heap.size 61 #[.int .i64 X.src, .slice (some ⟨gO3, 0, none⟩) X.out.length cO3, .slice (some ⟨g9, 0, none⟩) (X.del.length + 1) q9]) := by rw [Hid, ← hwn]; exact YB.out.set_ 2 _
                have BN : Hid (Below w7.heap.size w7 wn) := by
                  rw [Hid, ← hwn]
                  refine Below.setCell (((B3m.out.alloc B3m.out.size _).alloc (by simp; omega) _).grown gr3 (by simp; omega) (fun q e => by have := (DLT.out q e).1; omega)) (by dsimp only; omega) _
                have k9 : w3'.cell? ⟨wm.heap.size, 2, none⟩ = some (.slice aD3 X.del.length cD3) := YB.out.cell 2
                have f9 : w3'.frozen? ⟨wm.heap.size, 2, none⟩ = false := YB.out.frozen 2
                have HWN := Lib.hid hwn
                have CP4 := Lib.hid (CPY.out wn BN.out)
                clear own3 gr3 loc3 C9 C10 hwn OA3 RD3 p0m p1m
                go_wp2_with fail
                rw [HWN.out]
                refine CP4.out.mono ?_
                rintro e wo ⟨vD4, vO4, V4, rfl, hcp4, belo⟩
                obtain ⟨gO4, cO4, hvO4, hgb4, hgl4, _⟩ := hcp4.form (by have := HLX.out; omega)
                obtain ⟨aD4, cD4, hvD4, _⟩ := rec_of_own (d := (0 : Int)) cI_length (by decide) hcp4.d
                subst hvO4
                subst hvD4
                have BO : Hid (Below w7.heap.size w7 wo) := BN.out.trans (belo.mono BN.out.size)
                obtain ⟨wp, hwp⟩ : ∃ wp : World, wo.alloc (.cells #[.int .i64 (-1), .slice (some ⟨gO4, 0, none⟩) X.out.length cO4, .slice aD4 X.del.length cD4] 61) = wp := ⟨_, rfl⟩
                have bwp : Below wo.heap.size wo wp := by rw [← hwp]; exact (Below.refl _ _).alloc (Nat.le_refl _) _
                have ZBp : Hid (Blk wp wo.heap.size 61 #[.int .i64 (-1), .slice (some ⟨gO4, 0, none⟩) X.out.length cO4, .slice aD4 X.del.length cD4]) := by rw [Hid, ← hwp]; exact Blk.new _ _ _
                have T4 : Hid (IsTree wp (some ⟨gO4, 0, none⟩) aD4 ⟨-1, rowsN X.out.length (fun i => X.out.getD i []), X.del⟩) := (hcp4.below bwp).tree rfl rfl _
                have BP : Hid (Below w7.heap.size w7 wp) := BO.out.trans (bwp.mono BO.out.size)
                have T10p : Hid (IsTree wp (some ⟨gO3, 0, none⟩) (some ⟨g9, 0, none⟩) ⟨X.src, rowsN X.out.length (fun i => X.out.getD i []), X.del ++ [(ns.length : Int)]⟩) := (T10.out.below (Nat.le_refl _) belo).below (Nat.le_refl _) bwp
                have YBo : Hid (Blk wo wm.heap.size 61 #[.int .i64 X.src, .slice (some ⟨gO3, 0, none⟩) X.out.length cO3, .slice (some ⟨g9, 0, none⟩) (X.del.length + 1) q9]) := YB10.out.below belo YB10.out.lt
                have SMA : Hid (∀ (d : List Int) (s' : Int), d.length ≤ 1000000 → SmallT ⟨s', rowsN X.out.length (fun i => X.out.getD i []), d⟩) := fun d s' hd => ⟨by simp [rowsN]; have := HLX.out; omega, fun r hr => (by
                  obtain ⟨i, _, rfl⟩ := List.mem_map.1 hr
                  have := RWS.out i
                  omega), hd⟩
                have V6 : Hid (Calls Try.prog 33 #[.agg #[.slice An ns.length cn, .slice Ac cs.length cc], .agg #[.int .i64 X.src, .slice (some ⟨gO3, 0, none⟩) X.out.length cO3, .slice (some ⟨g9, 0, none⟩) (X.del.length + 1) q9]] wp fun e w'' => e = .returned (.bool false) ∧ Below wp.heap.size wp w'') := by
                  have h := VAL.out ⟨X.src, rowsN X.out.length (fun i => X.out.getD i []), X.del ++ [(ns.length : Int)]⟩ (some ⟨gO3, 0, none⟩) (some ⟨g9, 0, none⟩) cO3 q9 wp (K7.out wp BP.out).1 (SMA.out _ _ (by rw [List.length_append, List.length_singleton]; omega)) T10p.out (del_bad (v := (ns.length : Int)) (by simp) (by omega))
                  simp only [rowsN_len, List.length_append, List.length_singleton] at h
                  exact h
                have V7 : Hid (∀ w', Below wp.heap.size wp w' → Calls Try.prog 33 #[.agg #[.slice An ns.length cn, .slice Ac cs.length cc], .agg #[.int .i64 (-1), .slice (some ⟨gO4, 0, none⟩) X.out.length cO4, .slice aD4 X.del.length cD4]] w' fun e w'' => e = .returned (.bool false) ∧ Below w'.heap.size w' w'') := fun w' hb => by
                  have h := VAL.out ⟨-1, rowsN X.out.length (fun i => X.out.getD i []), X.del⟩ (some ⟨gO4, 0, none⟩) aD4 cO4 cD4 w' (K7.out w' (BP.out.trans (hb.mono BP.out.size))).1 (SMA.out _ _ (by omega)) (T4.out.below (Nat.le_refl _) hb) (wb2 (by unfold isNodeB; rfl))
                  simp only [rowsN_len] at h
                  exact h
                obtain ⟨_, p0o, p1o, _⟩ := K7.out wo BO.out
                have y0 : wo.cell? ⟨wm.heap.size, 0, none⟩ = some (.int .i64 X.src) := YBo.out.cell 0
                have y1 : wo.cell? ⟨wm.heap.size, 1, none⟩ = some (.slice (some ⟨gO3, 0, none⟩) X.out.length cO3) := YBo.out.cell 1
                have y2 : wo.cell? ⟨wm.heap.size, 2, none⟩ = some (.slice (some ⟨g9, 0, none⟩) (X.del.length + 1) q9) := YBo.out.cell 2
                have lo1 : wm.heap.size < wo.heap.size := YBo.out.lt
                have lo2 : ¬ wm.heap.size = wo.heap.size := by omega
                have lo3 : w.heap.size < wo.heap.size := by omega
                have lo4 : ¬ w.heap.size = wo.heap.size := by omega
                have HWP := Lib.hid hwp
                clear hcp4 belo hwp bwp CP4 k9 f9
                go_wp2_with fail
                rw [HWP.out]
                refine V6.out.mono ?_
                rintro e wq ⟨rfl, belq⟩
                have BQ : Hid (Below w7.heap.size w7 wq) := BP.out.trans (belq.mono BP.out.size)
                have ZBq : Hid (Blk wq wo.heap.size 61 #[.int .i64 (-1), .slice (some ⟨gO4, 0, none⟩) X.out.length cO4, .slice aD4 X.del.length cD4]) := ZBp.out.below belq ZBp.out.lt
                have V7q := Lib.hid (V7.out wq belq)
                obtain ⟨_, p0q, p1q, _⟩ := K7.out wq BQ.out
                have u0 : wq.cell? ⟨wo.heap.size, 0, none⟩ = some (.int .i64 (-1)) := ZBq.out.cell 0
                have u1 : wq.cell? ⟨wo.heap.size, 1, none⟩ = some (.slice (some ⟨gO4, 0, none⟩) X.out.length cO4) := ZBq.out.cell 1
                have u2 : wq.cell? ⟨wo.heap.size, 2, none⟩ = some (.slice aD4 X.del.length cD4) := ZBq.out.cell 2
                clear belq V6 V7 y0 y1 y2 p0o p1o
                go_wp2_with fail
                refine V7q.out.mono ?_
                rintro e wr ⟨rfl, belr⟩
                have BR := Lib.hid (K7.out wr (BQ.out.trans (belr.mono BQ.out.size))).2.2.2
                clear belr V7q u0 u1 u2 p0q p1q
                go_wp2_with fail
                go_ret
                exact ⟨rfl, BR.out⟩
          · have q3 : (te != 0) = true := by simpa using ht0
            clear q1 pc0 pc1 pc2
            go_wp2_with fail
            go_ret
            exact ⟨rfl, BW6.out⟩
end Go.Proofs.Ytljojgpjgjfddaa.treeSpoiltW
