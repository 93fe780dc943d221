/- The walk of the law TreeCycles. -/
import Derived.Test.YtljojgpjgjfddaaGreatTMkS
import Derived.Test.YtljojgpjgjfddaaGreatTCycQ
import Derived.Test.YtljojgpjgjfddaaGreatUFrame
namespace Go.Proofs.YtljojgpjgjfddaaGreat.treeCyclesW
open Go.RowKit Go.Maps Go.Sort Go.Shelf
set_option linter.unusedVariables false
set_option linter.unusedSimpArgs false

def RelUp (m : Nat) (g : Nat) (w5 : World) (i : Value) (wr : World) : Prop :=
  ∃ k : Nat, k ≤ m ∧ i = .int .i64 k ∧ RBlk wr g 4 1 m (fun j => [.bool (decide (j < k))]) ∧ Below w5.heap.size w5 wr
def RelO (n : Nat) (cs : List Cb) (lv : List Int) (nS : Nat) (w8 : World) (v i : Value) (wr : World) : Prop :=
  ∃ (k : Nat) (D : List Dp) (A : Option Addr) (c : Nat), k ≤ nS ∧ i = .int .i64 k ∧ v = .slice A D.length c ∧ IsRec 3 cD d0 wr A D.length D ∧ AllOk n cs lv D ∧ Below w8.heap.size w8 wr
/-- The members that the round i takes out of the first k. -/
def pick (i : Nat) (ms : List Int) (k : Nat) : List Int := (List.range k).flatMap fun j => if 0 < (i + j) % 3 then [ms.getD j 0] else []
theorem pick_succ (i : Nat) (ms : List Int) (k : Nat) : pick i ms (k + 1) = pick i ms k ++ (if 0 < (i + k) % 3 then [ms.getD k 0] else []) := by
  unfold pick; rw [List.range_succ, List.flatMap_append]; simp
theorem pick_len (i : Nat) (ms : List Int) : ∀ k, (pick i ms k).length ≤ k
  | 0 => by simp [pick]
  | k + 1 => by
    have := pick_len i ms k
    rw [pick_succ, List.length_append]
    split <;> simp <;> omega
theorem pick_mem {i : Nat} {ms : List Int} {k : Nat} (hk : k ≤ ms.length) {x : Int} (h : x ∈ pick i ms k) : x ∈ ms := by
  unfold pick at h
  obtain ⟨j, hj, hx⟩ := List.mem_flatMap.1 h
  rw [List.mem_range] at hj
  split at hx
  · simp at hx
    have hl : j < ms.length := by omega
    subst hx
    simp [hl]
  · cases hx
def RelI (i : Nat) (ms : List Int) (w9 : World) (v j : Value) (wr : World) : Prop :=
  ∃ k : Nat, k ≤ ms.length ∧ j = .int .i64 k ∧ wr.ownsRow w9.heap.size 3 1 v (pick i ms k).length ((pick i ms k).flatMap cI) ∧ Below w9.heap.size w9 wr
theorem own_below9 {w w' : World} {base e m n : Nat} {v : Value} {xs : List Value} (h : w.ownsRow base e m v n xs) (hb : Below w.heap.size w w') : w'.ownsRow base e m v n xs := own_belowK h hb
set_option maxRecDepth 100000 in
set_option maxHeartbeats 8000000 in
theorem walk (An Ac : Option Addr) (cn cc : Nat) (p : Pl) (Al : Option Addr) (cl : Nat) (lv : List Int) (As : Option Addr) (csr : Nat) (ss : List Int) (Am : Option Addr) (cm : Nat) (ms : List Int) (w : World)
    (h : IsPlan w An Ac p) (hwf : WfP p) (h2 : IsRec 1 cI 0 w Al lv.length lv) (hwl : WfI lv) (h0 : IsRec 1 cU 0 w As ss.length ss) (hws : WfU ss) (h3 : IsRec 1 cI 0 w Am ms.length ms) (hwm : WfI ms) :
    Calls Tryz.prog 5 #[.agg #[.slice An p.ns.length cn, .slice Ac p.cs.length cc], .agg #[.slice Al lv.length cl], .slice As ss.length csr, .slice Am ms.length cm] w fun e w' => e = .returned (.bool true) ∧ Below w.heap.size w w' := by
  obtain ⟨ns, cs⟩ := p
  simp only
  obtain ⟨w1, hw1⟩ : ∃ w1 : World, (w.alloc (.cells #[.slice An ns.length cn, .slice Ac cs.length cc] 25)).alloc (.cells #[.slice Al lv.length cl] 30) = w1 := ⟨_, rfl⟩
  have s0 : w1.cell? ⟨w.heap.size, 0, none⟩ = some (.slice An ns.length cn) := by rw [← hw1]; simp [go_sem]
  have s1 : w1.cell? ⟨w.heap.size, 1, none⟩ = some (.slice Ac cs.length cc) := by rw [← hw1]; simp [go_sem]
  have s2 : w1.cell? ⟨w.heap.size + 1, 0, none⟩ = some (.slice Al lv.length cl) := by rw [← hw1]; simp [go_sem]
  have sz1 : w.heap.size + 1 < w1.heap.size := by rw [← hw1]; simp
  have BW : Hid (Below w.heap.size w w1) := by rw [Hid, ← hw1]; exact ((Below.refl _ _).alloc (Nat.le_refl _) _).alloc (by simp) _
  have H1 := Lib.hid (h.below (Nat.le_refl _) BW.out)
  have L1 := Lib.hid (h2.below (Nat.le_refl _) BW.out)
  have M1 := Lib.hid (h3.below (Nat.le_refl _) BW.out)
  have S1 := Lib.hid (h0.below (Nat.le_refl _) BW.out)
  have HWS := Lib.hid hws
  have HWF := Lib.hid hwf
  have HWL := Lib.hid hwl
  have HWM := Lib.hid hwm
  have KC : Hid (∀ w', Below w1.heap.size w1 w' → (w'.cell? ⟨w.heap.size, 0, none⟩ = some (.slice An ns.length cn) ∧ w'.cell? ⟨w.heap.size, 1, none⟩ = some (.slice Ac cs.length cc) ∧ w'.cell? ⟨w.heap.size + 1, 0, none⟩ = some (.slice Al lv.length cl)) ∧
      Below w.heap.size w w' ∧ IsPlan w' An Ac ⟨ns, cs⟩ ∧ IsRec 1 cI 0 w' Al lv.length lv ∧ IsRec 1 cI 0 w' Am ms.length ms ∧ IsRec 1 cU 0 w' As ss.length ss) :=
    fun w' hb => ⟨⟨(hb.cell (by show w.heap.size < _; omega)).trans s0, (hb.cell (by show w.heap.size < _; omega)).trans s1, (hb.cell (by exact sz1)).trans s2⟩, BW.out.trans (hb.mono BW.out.size), H1.out.below (Nat.le_refl _) hb, L1.out.below (Nat.le_refl _) hb, M1.out.below (Nat.le_refl _) hb, S1.out.below (Nat.le_refl _) hb⟩
  have HW1 := Lib.hid hw1
  clear h h2 h3 hw1 hwf hwl hwm s0 s1 s2 h0 hws
  go_enter Tryz.func5, Tryz.ntmps5
  go_wp2_with fail
  rw [HW1.out]
  refine (awake23_any _).mono ?_
  rintro e w2 ⟨rfl, bel⟩
  have B2 := Lib.hid bel
  obtain ⟨⟨c0, c1, c2⟩, bw, _⟩ := KC.out w2 bel
  have BW2 := Lib.hid bw
  clear bel bw
  cases hsm : smallB ns.length cs.length lv.length ms.length with
  | false =>
    have hz : smallZ ns.length cs.length lv.length ms.length = 0 := by unfold smallZ; rw [hsm]; rfl
    have SC := small23_any An Ac Al Am ns.length cs.length lv.length ms.length cn cc cl cm w2
    rw [hz] at SC
    go_wp2_with fail
    refine (show Calls _ _ _ _ _ from SC).mono ?_
    rintro e w3 ⟨rfl, rfl⟩
    have BF : Hid (Below w.heap.size w (w2.alloc (.cells #[.slice An ns.length cn, .slice Ac cs.length cc] 25))) := BW2.out.alloc BW2.out.size _
    clear SC
    go_wp2_with fail
    go_ret
    exact ⟨rfl, BF.out⟩
  | true =>
    have hz : smallZ ns.length cs.length lv.length ms.length = 1 := by unfold smallZ; rw [hsm]; rfl
    have hb : ns.length ≤ 8 ∧ cs.length ≤ 12 ∧ lv.length ≤ 20 ∧ ms.length ≤ 20 := by
      unfold smallB at hsm
      simp at hsm
      omega
    obtain ⟨bn, bc, bl, bm⟩ := hb
    have SC := small23_any An Ac Al Am ns.length cs.length lv.length ms.length cn cc cl cm w2
    rw [hz] at SC
    go_wp2_with fail
    refine (show Calls _ _ _ _ _ from SC).mono ?_
    rintro e w3 ⟨rfl, hw3⟩
    have B3 : Hid (Below w1.heap.size w1 w3) := by rw [Hid, ← hw3]; exact B2.out.alloc B2.out.size _
    clear SC hw3 hsm hz c0 c1 c2
    obtain ⟨⟨c0, c1, c2⟩, _, pl3, lr3, _, _⟩ := KC.out w3 B3.out
    have FC := Lib.hid (fits23_any ⟨ns, cs⟩ lv An Ac Al cn cc cl w3 (by show ns.length ≤ _; omega) (by show cs.length ≤ _; omega) HWF.out (by omega) HWL.out pl3 lr3)
    clear pl3 lr3
    go_wp2_with fail
    refine (show Calls _ _ _ _ _ from FC.out).mono ?_
    rintro e w4 ⟨rfl, bel4⟩
    have B4 : Hid (Below w1.heap.size w1 w4) := B3.out.trans (bel4.mono B3.out.size)
    clear bel4 FC c0 c1 c2
    obtain ⟨⟨c0, c1, c2⟩, bw4, pl4, lr4, mr4, _⟩ := KC.out w4 B4.out
    have BW4 := Lib.hid bw4
    have PL4 := Lib.hid pl4
    have LR4 := Lib.hid lr4
    have MR4 := Lib.hid mr4
    clear bw4 pl4 lr4 mr4
    cases ho : orderB ⟨ns, cs⟩ lv with
    | false =>
      go_wp2_with fail
      go_ret
      exact ⟨rfl, BW4.out⟩
    | true =>
      by_cases hn0 : ns.length = 0
      · have q1 : ((ns.length : Int) == 0) = true := by simp [hn0]
        clear hn0
        go_wp2_with fail
        go_ret
        exact ⟨rfl, BW4.out⟩
      · have q1 : ((ns.length : Int) == 0) = false := by rw [beq_eq_false_iff_ne]; omega
        obtain ⟨hvp, hll⟩ := orderB_len ho
        simp only at hll
        by_cases hs8 : 8 < ss.length
        · have q2 : decide ((8 : Int) < (ss.length : Int)) = true := by simp; omega
          clear hvp hll hs8
          go_wp2_with fail
          go_ret
          exact ⟨rfl, BW4.out⟩
        · have q2 : decide ((8 : Int) < (ss.length : Int)) = false := by simp; omega
          have HVP := Lib.hid hvp
          have HLL := Lib.hid hll
          have HO := Lib.hid ho
          obtain ⟨j0, hj0, hy0, hy1, hy2⟩ := info_parts infoBool
          obtain ⟨o4, ho4⟩ : ∃ o4, Obj.cells (madeCells #[.bool false] cs.length) 4 = o4 := ⟨_, rfl⟩
          have HO4 := Lib.hid ho4
          clear ho4 hvp hll ho
          go_wp2_with (at_make; refine wpList_make_rec _ rfl _ _ 26 rfl 4 j0 _ 1 Tryz.underlying26 hj0 hy0 hy1 .i64 .i64 _ _ cs.length rfl rfl ?m1 ?m2 (by rw [hy2]; omega) (by unfold maxLen; omega) ?_)
          case m1 => rfl
          case m2 => rfl
          rw [HO4.out]
          obtain ⟨w5, hw5⟩ : ∃ w5 : World, w4.alloc o4 = w5 := ⟨_, rfl⟩
          have ST : Hid (RelUp cs.length w4.heap.size w4 (.int .i64 0) w5) := by
            refine ⟨0, Nat.zero_le _, rfl, ?_, ?_⟩
            · rw [← hw5, ← HO4.out]
              have := RBlk.made w4 (m := 1) (n := cs.length) (t := 4) (z := #[.bool false]) rfl (by decide)
              rw [Nat.mul_one] at this
              exact this.congr fun i hi => rfl
            · rw [← hw5]; exact (Below.refl _ _).alloc (Nat.le_refl _) _
          rw [hw5]
          clear hw5 HO4 hj0 hy0 hy1 hy2 c0 c1 c2 q1 q2
          go_wp2_with fail
          go_loopw [55] (fun i wr => RelUp cs.length w4.heap.size w4 i wr) (fun i _ => cs.length - (RowKit.intOf i).toNat)
          case atStart => exact ST.out
          case round =>
            clear ST
            obtain ⟨k, hk, rfl, rb, bel⟩ := hrel
            have RB := Lib.hid rb
            have BE := Lib.hid bel
            by_cases hkr : k < cs.length
            · have ki : (k : Int) < (cs.length : Int) := by omega
              have fz : wr.frozen? ⟨w4.heap.size, k, none⟩ = false := rb.frozen _
              have cz : wr.cell? ⟨w4.heap.size, k, none⟩ = some (.bool (decide (k < k))) := by have := rb.cell (i := k) (j := 0) hkr (by omega); simpa using this
              have R : Hid (RelUp cs.length w4.heap.size w4 (.int .i64 ((k + 1 : Nat) : Int)) (wr.setCell ⟨w4.heap.size, k, none⟩ (.bool true))) := by
                refine ⟨k + 1, by omega, rfl, (rb.set1 hkr (.bool true)).congr fun i hi => ?_, bel.setCell (Nat.le_refl _) _⟩
                unfold setR
                by_cases e : i = k
                · subst e; rw [if_pos rfl]; simp
                · rw [if_neg e]
                  have : decide (i < k) = decide (i < k + 1) := by rw [decide_eq_decide]; omega
                  show [Value.bool (decide (i < k))] = _
                  rw [this]
              have glt := rb.lt
              clear rb bel
              go_wp2_with fail
              exact ⟨by simpa using R.out, by simp [RowKit.intOf]; omega⟩
            · obtain rfl : k = cs.length := by omega
              have UR : Hid (IsRec 1 cB false wr (some ⟨w4.heap.size, 0, none⟩) (List.replicate cs.length true).length (List.replicate cs.length true)) := by
                rw [List.length_replicate]
                exact rb.isRec (by simp) fun i hi => by simp [cB, List.getD, hi]
              have B5 : Hid (Below w1.heap.size w1 wr) := B4.out.trans (bel.mono B4.out.size)
              clear rb bel RB BE
              obtain ⟨US, hUS⟩ : ∃ US, List.replicate cs.length true = US := ⟨_, rfl⟩
              have hul : US.length = cs.length := by rw [← hUS]; simp
              rw [hUS] at UR
              have MC := make_any ns cs US lv An Ac (some ⟨w4.heap.size, 0, none⟩) Al cn cc cs.length cl wr HVP.out HO.out hul HLL.out HWF.out HWL.out (KC.out wr B5.out).2.2.1 UR.out (KC.out wr B5.out).2.2.2.1
              rw [hul] at MC
              have MCH := Lib.hid MC
              obtain ⟨⟨c0, c1, c2⟩, _⟩ := KC.out wr B5.out
              clear MC hUS hul UR
              go_wp2_with fail
              refine MCH.out.mono ?_
              rintro e w6 ⟨bT, base, V, G, rfl, hbT, tm, hcol, bel6⟩
              have NT : Hid (Net ns cs US lv G) := ⟨HVP.out, HO.out, hcol⟩
              have B6 : Hid (Below w1.heap.size w1 w6) := B5.out.trans (bel6.mono B5.out.size)
              obtain ⟨w7, hw7⟩ : ∃ w7 : World, w6.alloc (.cells #[.slice (some ⟨bT, 0, none⟩) ns.length ns.length] 36) = w7 := ⟨_, rfl⟩
              have b67 : Below w6.heap.size w6 w7 := by rw [← hw7]; exact (Below.refl _ _).alloc (Nat.le_refl _) _
              have B7 : Hid (Below w1.heap.size w1 w7) := B6.out.trans (b67.mono B6.out.size)
              have DC := deps_any ⟨ns, cs⟩ lv (tabOf ns.length G) An Ac Al (some ⟨bT, 0, none⟩) cn cc cl ns.length w7 (by show ns.length ≤ _; omega) (by show cs.length ≤ _; omega) HWF.out (by omega) HWL.out (by rw [tabOf_len]; omega) NT.out.wft (KC.out w7 B7.out).2.2.1 (KC.out w7 B7.out).2.2.2.1 (by rw [tabOf_len]; exact (tm.below b67).isTab)
              rw [tabOf_len] at DC
              have DCH := Lib.hid DC
              have HW7 := Lib.hid hw7
              obtain ⟨⟨d0', d1', d2'⟩, _⟩ := KC.out w6 B6.out
              have l0 : w.heap.size < w6.heap.size := by have := B6.out.size; omega
              have l1 : w.heap.size + 1 < w6.heap.size := by have := B6.out.size; omega
              have n0 : ¬ w.heap.size = w6.heap.size := by omega
              have n1 : ¬ w.heap.size + 1 = w6.heap.size := by omega
              clear DC hcol tm bel6 MCH hw7 b67 c0 c1 c2
              go_wp2_with fail
              rw [HW7.out]
              refine DCH.out.mono ?_
              rintro e w8 ⟨bel8, ⟨hbad, _⟩ | ⟨_, v, rfl, own⟩⟩
              · exact absurd hbad (by rw [NT.out.ord, NT.out.table]; simp)
              · have AON := Lib.hid (AllOk.net NT.out)
                generalize depsD ⟨ns, cs⟩ lv (tabOf ns.length G) = D0 at *
                obtain ⟨pa, pc, hv, _, r8, _⟩ := rec_of_own (d := d0) (c := cD) (fun _ => rfl) (by decide) own
                subst hv
                have B8 : Hid (Below w1.heap.size w1 w8) := B7.out.trans (bel8.mono B7.out.size)
                have STO : Hid (RelO ns.length cs lv ss.length w8 (.slice pa D0.length pc) (.int .i64 0) w8) := ⟨0, D0, pa, pc, Nat.zero_le _, rfl, rfl, r8, AON.out, Below.refl _ _⟩
                clear own r8 bel8 DCH HW7 d0' d1' d2' l0 l1 n0 n1 hbT AON
                go_wp2_with fail
                go_loopw [13, 84] (fun v i wr => RelO ns.length cs lv ss.length w8 v i wr) (fun _ i _ => ss.length - (RowKit.intOf i).toNat)
                case atStart => exact STO.out
                case round =>
                  clear STO
                  rename World => wo
                  obtain ⟨k, D, A, c, hk, rfl, rfl, rd, aok, bel⟩ := hrel
                  have BR : Hid (Below w1.heap.size w1 wo) := B8.out.trans (bel.mono B8.out.size)
                  have BX := Lib.hid bel
                  have RD := Lib.hid rd
                  have AOK := Lib.hid aok
                  clear rd aok bel
                  by_cases hkr : k < ss.length
                  · obtain ⟨bs, os, sn, hba, hbb, hcs, hsn2⟩ := u8_at (KC.out wo BR.out).2.2.2.2.2 HWS.out k hkr
                    subst hba
                    have ki : (k : Int) < (ss.length : Int) := by omega
                    have STI : Hid (RelI k ms wo (.slice none 0 0) (.int .i64 0) wo) := ⟨0, Nat.zero_le _, rfl, by simpa [pick] using World.ownsRow_nil _ _ _ _, Below.refl _ _⟩
                    go_wp2_with fail
                    go_loopw [17, 91] (fun v j wo' => RelI k ms wo v j wo') (fun _ j _ => ms.length - (RowKit.intOf j).toNat)
                    case atStart => exact STI.out
                    case round =>
                      clear STI
                      obtain ⟨m, hm, rfl, own, belq⟩ := hrel
                      have OW := Lib.hid own
                      have BQ := Lib.hid belq
                      have BQ1 : Hid (Below w1.heap.size w1 wr) := BR.out.trans (belq.mono BR.out.size)
                      have MR := (KC.out wr BQ1.out).2.2.2.2.1
                      clear own belq
                      by_cases hmr : m < ms.length
                      · obtain ⟨b3, o3, ha3, hb3, hm3, e3⟩ := int_at MR m hmr
                        subst ha3
                        have mi : (m : Int) < (ms.length : Int) := by omega
                        obtain ⟨q, hq⟩ : ∃ q : Nat, k + m = q := ⟨_, rfl⟩
                        obtain ⟨r, hr⟩ : ∃ r : Nat, q % 3 = r := ⟨_, rfl⟩
                        have w1r : IntKind.i64.wrap ((k : Int) + (m : Int)) = (q : Int) := by rw [IntWalk.i64_in _ (by omega)]; omega
                        have r2 : (q : Int).tmod 3 = (r : Int) := by rw [← hr, Int.tmod_eq_emod_of_nonneg (by omega)]; simp
                        have w2r : IntKind.i64.wrap (r : Int) = (r : Int) := IntWalk.i64_in _ (by omega)
                        have PS := pick_succ k ms m
                        rw [hq, hr] at PS
                        have PL := pick_len k ms m
                        by_cases hp : 0 < r
                        · rw [if_pos hp] at PS
                          have PSH := Lib.hid PS
                          have FN : Hid (∀ v' (wq : World), wq.ownsRow wo.heap.size 3 1 v' ((pick k ms m).length + 1) ((pick k ms m).flatMap cI ++ [.int .i64 (ms.getD m 0)]) → Below wo.heap.size wo wq → RelI k ms wo v' (.int .i64 ((m + 1 : Nat) : Int)) wq) := fun v' wq ho hb =>
                            ⟨m + 1, by omega, rfl, by
                              rw [PSH.out, List.length_append, List.length_singleton, List.flatMap_append]; exact ho, hb⟩
                          generalize ms.getD m 0 = x at *
                          generalize pick k ms m = L at *
                          obtain ⟨i0, hi0, hz0, hz1, hz2⟩ := info_parts infoInt
                          have RDx : Hid (Reads (wr.alloc (.cells #[.int .i64 x] 3)) (wr.heap.size + 1) 1 (some ⟨wr.heap.size, 0, none⟩) 1 [.int .i64 x]) := reads_newT wr 3 #[.int .i64 x] (n := 1) rfl
                          have OA : Hid ((wr.alloc (.cells #[.int .i64 x] 3)).ownsRow wo.heap.size 3 1 u17 L.length (L.flatMap cI)) := OW.out.alloc _
                          have BA : Hid (Below wo.heap.size wo (wr.alloc (.cells #[.int .i64 x] 3))) := BQ.out.alloc BQ.out.size _
                          have hz3 := BQ.out.size
                          clear PS PSH MR hm3 hq hr
                          go_wp2_with (at_builtin; refine wpList_append_any _ rfl (.tmp 101) (.tmp 103) 28 rfl wo.heap.size 3 i0 _ 1 8 Tryz.underlying28 hi0 hz0 hz1 hz2 rfl (by decide) _ L.length _ rfl OA.out (wr.heap.size + 1) (some ⟨wr.heap.size, 0, none⟩) 1 1 [.int .i64 x] rfl RDx.out ?m1cy ?m2cy ?m3cy ?m4cy ?_)
                          case m1cy => intro u hu; simp at hu; rw [hu]; rfl
                          case m2cy => unfold maxLen; omega
                          case m3cy => omega
                          case m4cy => simp; omega
                          intro v2 wv own2 gr2 _
                          have R : Hid (RelI k ms wo v2 (.int .i64 ((m + 1 : Nat) : Int)) wv) := FN.out v2 wv own2 (BA.out.grown gr2 (by simp; omega) (fun g e => by have := (OA.out.lt g e).1; omega))
                          clear own2 gr2 FN RDx OA BA
                          go_wp2_with fail
                          exact ⟨by simpa using R.out, by simp [RowKit.intOf]; omega⟩
                        · rw [if_neg hp, List.append_nil] at PS
                          have R : Hid (RelI k ms wo u17 (.int .i64 ((m + 1 : Nat) : Int)) wr) := ⟨m + 1, by omega, rfl, by rw [PS]; exact OW.out, BQ.out⟩
                          clear PS MR hm3 hq hr OW
                          go_wp2_with fail
                          exact ⟨by simpa using R.out, by simp [RowKit.intOf]; omega⟩
                      · obtain rfl : m = ms.length := by omega
                        have ML := pick_len k ms ms.length
                        have MM : Hid (∀ x ∈ pick k ms ms.length, x ∈ ms) := fun x hx => pick_mem (Nat.le_refl _) hx
                        generalize pick k ms ms.length = M at *
                        obtain ⟨aM, cM, hvM, _, rectM, _⟩ := rec_of_own (d := (0 : Int)) cI_length (by decide) OW.out
                        subst hvM
                        have MR9 := Lib.hid rectM
                        have HWM9 : Hid (WfI M) := fun x hx => HWM.out x (MM.out x hx)
                        clear rectM OW MR
                        rename World => w9
                        obtain ⟨s, hs⟩ : ∃ s : Nat, sn % ns.length = s := ⟨_, rfl⟩
                        have hsn : s < ns.length := by rw [← hs]; exact Nat.mod_lt _ (by omega)
                        have hrem : (sn : Int).tmod (ns.length : Int) = (s : Int) := by rw [← hs, Int.tmod_eq_emod_of_nonneg (by omega)]; simp
                        obtain ⟨te, hte⟩ : ∃ te, tErr ⟨ns, cs⟩ lv M (s : Int) = te := ⟨_, rfl⟩
                        obtain ⟨X, hX⟩ : ∃ X, mkX ns cs lv M (s : Int) = X := ⟨_, rfl⟩
                        have HTE := Lib.hid hte
                        have HX := Lib.hid hX
                        have HSX : Hid (SmallT X) := by rw [Hid, ← hX]; exact mkX_small _ (by omega)
                        have MZ : Hid (∀ w', Below w9.heap.size w9 w' → Calls Tryz.prog 26 #[.agg #[.slice An ns.length cn, .slice Ac cs.length cc], .agg #[.slice Al lv.length cl], .int .i64 (s : Int), .slice aM M.length cM] w' (fun e w'' => PostX X te w' e w'' ∧ Below w9.heap.size w9 w'' ∧
                            ∀ j, (w9.heap.size < w'.heap.size → w''.cell? ⟨w9.heap.size, j, none⟩ = w'.cell? ⟨w9.heap.size, j, none⟩ ∧ w''.frozen? ⟨w9.heap.size, j, none⟩ = w'.frozen? ⟨w9.heap.size, j, none⟩ ∧ w9.heap.size < w''.heap.size ∧ ¬ w9.heap.size = w''.heap.size))) := fun w' hb => by
                          obtain ⟨_, _, pl, lr, _, _⟩ := KC.out w' (BQ1.out.trans (hb.mono BQ1.out.size))
                          have h1 := tmake_any ns cs lv M (s : Int) An Ac Al aM cn cc cl cM w' (by omega) (by omega) HWF.out (by omega) HWL.out (by omega) HWM9.out pl lr (MR9.out.below (Nat.le_refl _) hb)
                          refine h1.mono fun e w'' h => ?_
                          have h2 := px_of h
                          rw [hte, hX] at h2
                          have hb2 : Below w'.heap.size w' w'' := h.1
                          have hz2 := hb2.size
                          exact ⟨h2, hb.trans (hb2.mono hb.size), fun j hl => ⟨hb2.cell hl, hb2.frozen hl, by omega, by omega⟩⟩
                        have KP : Hid (∀ w', Below w9.heap.size w9 w' → w'.cell? ⟨w.heap.size, 0, none⟩ = some (.slice An ns.length cn) ∧ w'.cell? ⟨w.heap.size, 1, none⟩ = some (.slice Ac cs.length cc) ∧ w'.cell? ⟨w.heap.size + 1, 0, none⟩ = some (.slice Al lv.length cl)) := fun w' hb => (KC.out w' (BQ1.out.trans (hb.mono BQ1.out.size))).1
                        obtain ⟨⟨c0, c1, c2⟩, _⟩ := KC.out w9 BQ1.out
                        clear hs hte hX
                        go_wp2_with fail
                        go_cut [20, 21] from 106 to 118 (fun s20 s21 wx => RGx X te w9 s20 s21 wx)
                        case first =>
                          clear HTE HX HSX HO H1 L1 M1 S1 HWF HWL HWM HWS KC HW1 B2 BW2 B3 B4 BW4 PL4 LR4 MR4 BW B5 B6 B7 B8 NT BR BX RD AOK BQ1 MR9 HWM9 MM ML HVP HLL
                          have hw0 : IntKind.i64.wrap (s : Int) = (s : Int) := IntWalk.i64_in _ (by omega)
                          have hn1 : (0 : Int) < (ns.length : Int) := by omega
                          have hw1' : IntKind.i64.wrap (sn : Int) = (sn : Int) := IntWalk.i64_in _ (by omega)
                          go_region_held3 (fun w' => w'.cell? ⟨w.heap.size, 0, none⟩ = some (.slice An ns.length cn) ∧ w'.cell? ⟨w.heap.size, 1, none⟩ = some (.slice Ac cs.length cc) ∧ w'.cell? ⟨w.heap.size + 1, 0, none⟩ = some (.slice Al lv.length cl))
                            (first | exact ⟨c0, c1, c2⟩ | (refine KP.out _ ?_; repeat (first | exact Below.refl _ _ | exact BS.out | refine below_drewS ?_ | refine below_allocS ?_ _ | refine below_setS ?_ (by first | exact Nat.le_refl _ | (dsimp only; omega) | (dsimp only; have := BS.out.size; omega)))))
                            (first
                              | (go_at_call 26
                                 refine (MZ.out _ (by repeat (first | exact Below.refl _ _ | refine below_drewS ?_ | refine below_allocS ?_ _))).mono ?_
                                 rintro e ws ⟨⟨aO, aD, cO, cDl, rfl, ht3, bels⟩, bs1, pos⟩
                                 unfold trV
                                 have HT3 := Lib.hid ht3
                                 have BS := Lib.hid bs1
                                 have BLS := Lib.hid bels
                                 have xc0 := pos 0
                                 have xc1 := pos 1
                                 have xc2 := pos 2
                                 try simp [go_sem] at xc0
                                 try simp [go_sem] at xc1
                                 try simp [go_sem] at xc2
                                 clear ht3 bels bs1 pos))
                          all_goals
                            go_wp2_with fail
                            go_meet
                            case rel =>
                              have z0 := BLS.out.size
                              simp at z0
                              apply rgx_mk
                              case hX =>
                                first
                                  | with_reducible exact blkA0 ws _ _
                                  | with_reducible exact fill3 (a0 := .int .i64 0) (a1 := .slice none 0 0) (a2 := .slice none 0 0) (keepD (by with_reducible exact blkA0 _ _ _) BLS.out) _ _ _
                              case hB =>
                                repeat (first | with_reducible exact BS.out | refine below_allocS ?_ _ | refine below_setS ?_ (by dsimp only; omega))
                              case hT =>
                                refine HT3.out _ ?_
                                first
                                  | with_reducible exact AgreeF.alloc _ ws _
                                  | exact AgreeF.set3 ws (by simp) _ _ _
                        case rest =>
                          obtain ⟨bX, aO, aD, cO, cDl, rfl, rfl, belc, hXB, hXT⟩ := hcut
                          have BC : Hid (Below w1.heap.size w1 wc) := BQ1.out.trans (belc.mono BQ1.out.size)
                          have BXC : Hid (Below w8.heap.size w8 wc) := (BX.out.trans (BQ.out.mono BX.out.size)).trans (belc.mono (by have := BX.out.size; have := BQ.out.size; omega))
                          have RDC : Hid (IsRec 3 cD d0 wc A D.length D) := RD.out.below (Nat.le_refl _) (BQ.out.trans (belc.mono BQ.out.size))
                          clear MZ KP c0 c1 c2
                          by_cases ht0 : te = 0
                          · obtain ⟨k', hk', mok⟩ := mok_of (HTE.out.trans ht0)
                            obtain rfl : s = k' := by omega
                            have hXk : X = mkT ns cs lv M s := by rw [← HX.out]; exact mkX_ok (HTE.out.trans ht0)
                            have wys : waysB ns cs X = true := by rw [hXk]; exact mok.mk_ways
                            have TOK : Hid (∀ d ∈ depT23 ns.length cs X, TurnOk ns.length cs lv d) := by rw [hXk]; exact fun d hd => mok.turnOk hd
                            obtain ⟨s', r', vt⟩ := valid_tree wys
                            have VTR : Hid (∀ u, (X.out.getD u []).length ≤ 32) := fun u => vt.row_len u
                            have WY := Lib.hid wys
                            have DC := tdeps_any ns cs X An Ac aO aD cn cc cO cDl wc (by omega) (by omega) HWF.out HSX.out (KC.out wc BC.out).2.2.1 hXT
                            unfold trV at DC
                            have DCH := Lib.hid DC
                            have x0c : wc.cell? ⟨bX, 0, none⟩ = some (.int .i64 X.src) := hXB.cell 0
                            have x1c : wc.cell? ⟨bX, 1, none⟩ = some (.slice aO X.out.length cO) := hXB.cell 1
                            have x2c : wc.cell? ⟨bX, 2, none⟩ = some (.slice aD X.del.length cDl) := hXB.cell 2
                            obtain ⟨⟨c0, c1, c2⟩, _⟩ := KC.out wc BC.out
                            subst ht0
                            clear hk' mok hXk wys vt DC hXB hXT belc
                            go_wp2_with fail
                            refine (show Calls _ _ _ _ _ from DCH.out).mono ?_
                            rintro e w10 ⟨bel10, ⟨hw, _⟩ | ⟨_, ts, v, hp, hsd, rfl, own⟩⟩
                            · rw [WY.out] at hw; cases hw
                            · obtain ⟨aT, cT, hv, _, rects, _⟩ := rec_of_own (d := d0) (c := cD) (fun _ => rfl) (by decide) own
                              subst hv
                              have hts : ts.length ≤ 8000 := by
                                have h1 := depL_bd (cs := cs) (ov := (reachR ns.length cs X).1) (out := X.out) (fun u => by have := (VTR.out u); omega) ns.length
                                have h2 : ts.length = (depT23 ns.length cs X).length := hp.length_eq
                                unfold depT23 at h2
                                have : ns.length * 1000 ≤ 8 * 1000 := Nat.mul_le_mul_right _ bn
                                omega
                              have TTS : Hid (∀ d ∈ ts, TurnOk ns.length cs lv d) := fun d hd => TOK.out d (hp.mem_iff.1 hd)
                              have hdl := AOK.out.len (by omega : cs.length ≤ 32)
                              have UC := Lib.hid (union_any D ts A aT c cT w10 (by omega) (by omega) (AOK.out.wfd (by omega) (by omega)) (fun d hd => (TTS.out d hd).wf (by omega) (by omega)) (RDC.out.below (Nat.le_refl _) bel10) rects)
                              have BX10 : Hid (Below w8.heap.size w8 w10) := BXC.out.trans (bel10.mono BXC.out.size)
                              clear hp hsd own rects bel10 DCH x0c x1c x2c c0 c1 c2 hdl hts VTR
                              go_wp2_with fail
                              refine UC.out.mono ?_
                              rintro e w11 ⟨v11, rfl, own11, bel11⟩
                              obtain ⟨qa, qc, hv11, _, r11, _⟩ := rec_of_own (d := d0) (c := cD) (fun _ => rfl) (by decide) own11
                              subst hv11
                              have R : Hid (RelO ns.length cs lv ss.length w8 (.slice qa (unionD D ts).length qc) (.int .i64 ((k + 1 : Nat) : Int)) w11) := ⟨k + 1, unionD D ts, qa, qc, by omega, rfl, rfl, r11, AOK.out.union TTS.out, BX10.out.trans (bel11.mono BX10.out.size)⟩
                              clear own11 r11 bel11 UC
                              go_wp2_with fail
                              exact ⟨by simpa using R.out, by simp [RowKit.intOf]; omega⟩
                          · have q3 : (te != 0) = true := by simpa using ht0
                            have R : Hid (RelO ns.length cs lv ss.length w8 (.slice A D.length c) (.int .i64 ((k + 1 : Nat) : Int)) wc) := ⟨k + 1, D, A, c, by omega, rfl, rfl, RDC.out, AOK.out, BXC.out⟩
                            clear hXB hXT belc
                            go_wp2_with fail
                            exact ⟨by simpa using R.out, by simp [RowKit.intOf]; omega⟩
                  · obtain rfl : k = ss.length := by omega
                    have hlen : D.length ≤ 10000 := by have := AOK.out.len (by omega : cs.length ≤ 32); omega
                    have CY : Hid (cycD D = []) := cyc_none HLL.out (valid_abG HVP.out) AOK.out.2
                    have CC := cycle_any D A c wo hlen (AOK.out.wfd (by omega) (by omega)) RD.out
                    rw [CY.out] at CC
                    have CCH := Lib.hid CC
                    have BF : Hid (Below w.heap.size w wo) := (KC.out wo BR.out).2.1
                    clear CC hlen
                    go_wp2_with fail
                    refine CCH.out.mono ?_
                    rintro e wz ⟨vz, rfl, ownz, belz⟩
                    obtain ⟨ra, rc, hvz, _⟩ := rec_of_own (d := (0 : Int)) cI_length (by decide) ownz
                    subst hvz
                    have BZ : Hid (Below w.heap.size w wz) := BF.out.trans (belz.mono BF.out.size)
                    clear ownz belz CCH
                    go_wp2_with fail
                    go_ret
                    exact ⟨rfl, BZ.out⟩
end Go.Proofs.YtljojgpjgjfddaaGreat.treeCyclesW
