/- The walk of the law TreeGrows. -/
import Derived.Test.YtljojgpjgjfddaaTLaw
import Derived.Test.YtljojgpjgjfddaaTList
import Derived.Test.YtljojgpjgjfddaaTValM
import Derived.Test.YtljojgpjgjfddaaFrame
namespace Go.Proofs.Ytljojgpjgjfddaa.treeGrowsW
open Go.RowKit Go.Maps Go.Sort Go.Shelf
set_option linter.unusedVariables false
set_option linter.unusedSimpArgs false

section
variable {ns : List Nd} {cs : List Cb} {lv ms ms' : List Int} {s : Nat}
theorem mok_sub (h : MOk ns cs lv ms s) (hs : ∀ m ∈ ms', m ∈ ms) (hn : ms'.Nodup) : MOk ns cs lv ms' s := ⟨h.T, h.hs, h.s0, fun m hm => h.node m (hs m hm), hn⟩
theorem mk_perm (h : MOk ns cs lv ms s) (hp : ms.Perm ms') : mkT ns cs lv ms s = mkT ns cs lv ms' s := by
  have h' : MOk ns cs lv ms' s := mok_sub h (fun m hm => hp.mem_iff.2 hm) (hp.nodup_iff.1 h.nodup)
  unfold mkT delM
  rw [mergeSort_of_perm_i hp]
  congr 1
  exact List.map_congr_left fun u _ => h.perm h' (fun m => hp.mem_iff) u
end
theorem mk_out {ns : List Nd} {cs : List Cb} {lv ms : List Int} {s u : Nat} (hu : u < ns.length) : (mkT ns cs lv ms s).out.getD u [] = makeOut ns cs lv ms s u := by unfold mkT; simp [List.getD, hu]
theorem mk_len {ns : List Nd} {cs : List Cb} {lv ms : List Int} {s : Nat} : (mkT ns cs lv ms s).out.length = ns.length := by unfold mkT; simp
theorem mk_small {ns : List Nd} {cs : List Cb} {lv ms : List Int} {s : Nat} (h : MOk ns cs lv ms s) (hm : ms.length ≤ 1000000) : SmallT (mkT ns cs lv ms s) := by
  obtain ⟨n16, c32⟩ := valid_sizes h.T.hv
  refine ⟨by rw [mk_len]; omega, fun r hr => ?_, by unfold mkT delM; simp only [List.length_mergeSort]; exact hm⟩
  unfold mkT at hr
  simp only [List.mem_map] at hr
  obtain ⟨u, _, rfl⟩ := hr
  have := h.len u
  omega
def RelG1 (n : Nat) (w1 : World) (i : Value) (wr : World) : Prop := ∃ k : Nat, k ≤ n ∧ i = .int .i64 k ∧ w1 = wr
theorem rec_drop1 {w : World} {a : Option Addr} {l : List Int} (h : IsRec 1 cI 0 w a l.length l) (h0 : 0 < l.length) : ∃ b off, a = some ⟨b, off, none⟩ ∧ IsRec 1 cI 0 w (some ⟨b, off + 1, none⟩) (l.drop 1).length (l.drop 1) := by
  obtain ⟨b, off, e, hb, hc⟩ := h.2 h0
  refine ⟨b, off, e, rfl, fun h1 => ⟨b, off + 1, rfl, hb, fun i j hi hj => ?_⟩⟩
  have hi2 : i + 1 < l.length := by rw [List.length_drop] at hi; omega
  have h2 := hc (i + 1) j hi2 hj
  have e1 : off + (i + 1) * 1 + j = off + 1 + i * 1 + j := by omega
  rw [e1] at h2
  have e2 : (l.drop 1).getD i 0 = l.getD (i + 1) 0 := by simp [List.getD, Nat.add_comm]
  rw [h2, e2]
set_option maxRecDepth 100000 in
set_option maxHeartbeats 8000000 in
theorem walk (An Ac : Option Addr) (cn cc : Nat) (p : Pl) (Al : Option Addr) (cl : Nat) (lv : List Int) (src : Int) (Am : Option Addr) (cm : Nat) (ms : List Int) (w : World)
    (h : IsPlan w An Ac p) (hwf : WfP p) (h2 : IsRec 1 cI 0 w Al lv.length lv) (hwl : WfI lv) (h0 : (Lit.int .u8 src).wf = true) (h3 : IsRec 1 cI 0 w Am ms.length ms) (hwm : WfI ms) (hcm : ms.length ≤ cm) :
    Calls Try.prog 8 #[.agg #[.slice An p.ns.length cn, .slice Ac p.cs.length cc], .agg #[.slice Al lv.length cl], .int .u8 src, .slice Am ms.length cm] w fun e w' => e = .returned (.bool true) ∧ Below w.heap.size w w' := by
  obtain ⟨ns, cs⟩ := p
  simp only
  obtain ⟨w1, hw1⟩ : ∃ w1 : World, (w.alloc (.cells #[.slice An ns.length cn, .slice Ac cs.length cc] 25)).alloc (.cells #[.slice Al lv.length cl] 57) = w1 := ⟨_, rfl⟩
  have s0 : w1.cell? ⟨w.heap.size, 0, none⟩ = some (.slice An ns.length cn) := by rw [← hw1]; simp [go_sem]
  have s1 : w1.cell? ⟨w.heap.size, 1, none⟩ = some (.slice Ac cs.length cc) := by rw [← hw1]; simp [go_sem]
  have s2 : w1.cell? ⟨w.heap.size + 1, 0, none⟩ = some (.slice Al lv.length cl) := by rw [← hw1]; simp [go_sem]
  have sz1 : w.heap.size + 1 < w1.heap.size := by rw [← hw1]; simp
  have BW : Hid (Below w.heap.size w w1) := by rw [Hid, ← hw1]; exact ((Below.refl _ _).alloc (Nat.le_refl _) _).alloc (by simp) _
  have H1 := Lib.hid (h.below (Nat.le_refl _) BW.out)
  have L1 := Lib.hid (h2.below (Nat.le_refl _) BW.out)
  have M1 := Lib.hid (h3.below (Nat.le_refl _) BW.out)
  have HWF := Lib.hid hwf
  have HWL := Lib.hid hwl
  have HWM := Lib.hid hwm
  have KC : Hid (∀ w', Below w1.heap.size w1 w' → (w'.cell? ⟨w.heap.size, 0, none⟩ = some (.slice An ns.length cn) ∧ w'.cell? ⟨w.heap.size, 1, none⟩ = some (.slice Ac cs.length cc) ∧ w'.cell? ⟨w.heap.size + 1, 0, none⟩ = some (.slice Al lv.length cl)) ∧
      Below w.heap.size w w' ∧ IsPlan w' An Ac ⟨ns, cs⟩ ∧ IsRec 1 cI 0 w' Al lv.length lv ∧ IsRec 1 cI 0 w' Am ms.length ms) :=
    fun w' hb => ⟨⟨(hb.cell (by show w.heap.size < _; omega)).trans s0, (hb.cell (by show w.heap.size < _; omega)).trans s1, (hb.cell (by exact sz1)).trans s2⟩, BW.out.trans (hb.mono BW.out.size), H1.out.below (Nat.le_refl _) hb, L1.out.below (Nat.le_refl _) hb, M1.out.below (Nat.le_refl _) hb⟩
  have HW1 := Lib.hid hw1
  obtain ⟨a0, a1⟩ := bounds_u8 h0
  obtain ⟨sn, rfl⟩ : ∃ sn : Nat, src = sn := ⟨src.toNat, by omega⟩
  clear h h2 h3 hw1 hwf hwl hwm s0 s1 s2 h0
  go_enter Try.func8, Try.ntmps8
  go_wp2_with fail
  rw [HW1.out]
  refine (awake23_any _).mono ?_
  rintro e w2 ⟨rfl, bel⟩
  have B2 := Lib.hid bel
  obtain ⟨⟨c0, c1, c2⟩, bw, _⟩ := KC.out w2 bel
  have BW2 := Lib.hid bw
  clear bel bw
  cases hsm : smallB ns.length cs.length lv.length ms.length with
  | false =>
    have hz : smallZ ns.length cs.length lv.length ms.length = 0 := by unfold smallZ; rw [hsm]; rfl
    have SC := small23_any An Ac Al Am ns.length cs.length lv.length ms.length cn cc cl cm w2
    rw [hz] at SC
    go_wp2_with fail
    refine (show Calls _ _ _ _ _ from SC).mono ?_
    rintro e w3 ⟨rfl, rfl⟩
    have BF : Hid (Below w.heap.size w (w2.alloc (.cells #[.slice An ns.length cn, .slice Ac cs.length cc] 25))) := BW2.out.alloc BW2.out.size _
    clear SC
    go_wp2_with fail
    go_ret
    exact ⟨rfl, BF.out⟩
  | true =>
    have hz : smallZ ns.length cs.length lv.length ms.length = 1 := by unfold smallZ; rw [hsm]; rfl
    have hb : ns.length ≤ 8 ∧ cs.length ≤ 12 ∧ lv.length ≤ 20 ∧ ms.length ≤ 20 := by
      unfold smallB at hsm
      simp at hsm
      omega
    obtain ⟨bn, bc, bl, bm⟩ := hb
    have SC := small23_any An Ac Al Am ns.length cs.length lv.length ms.length cn cc cl cm w2
    rw [hz] at SC
    go_wp2_with fail
    refine (show Calls _ _ _ _ _ from SC).mono ?_
    rintro e w3 ⟨rfl, hw3⟩
    have B3 : Hid (Below w1.heap.size w1 w3) := by rw [Hid, ← hw3]; exact B2.out.alloc B2.out.size _
    clear SC hw3 hsm hz c0 c1 c2
    obtain ⟨⟨c0, c1, c2⟩, _, pl3, lr3, _⟩ := KC.out w3 B3.out
    have FC := Lib.hid (fits23_any ⟨ns, cs⟩ lv An Ac Al cn cc cl w3 (by show ns.length ≤ _; omega) (by show cs.length ≤ _; omega) HWF.out (by omega) HWL.out pl3 lr3)
    clear pl3 lr3
    go_wp2_with fail
    refine (show Calls _ _ _ _ _ from FC.out).mono ?_
    rintro e w4 ⟨rfl, bel4⟩
    have B4 : Hid (Below w1.heap.size w1 w4) := B3.out.trans (bel4.mono B3.out.size)
    clear bel4 FC c0 c1 c2
    obtain ⟨⟨c0, c1, c2⟩, bw4, pl4, lr4, mr4⟩ := KC.out w4 B4.out
    have BW4 := Lib.hid bw4
    have PL4 := Lib.hid pl4
    have LR4 := Lib.hid lr4
    have MR4 := Lib.hid mr4
    clear bw4 pl4 lr4 mr4
    cases ho : orderB ⟨ns, cs⟩ lv with
    | false =>
      go_wp2_with fail
      go_ret
      exact ⟨rfl, BW4.out⟩
    | true =>
      by_cases hn0 : ns.length = 0
      · have q1 : ((ns.length : Int) == 0) = true := by simp [hn0]
        clear hn0
        go_wp2_with fail
        go_ret
        exact ⟨rfl, BW4.out⟩
      · have q1 : ((ns.length : Int) == 0) = false := by rw [beq_eq_false_iff_ne]; omega
        by_cases hm0 : ms.length = 0
        · have q2 : ((ms.length : Int) == 0) = true := by simp [hm0]
          clear hm0
          go_wp2_with fail
          go_ret
          exact ⟨rfl, BW4.out⟩
        · have q2 : ((ms.length : Int) == 0) = false := by rw [beq_eq_false_iff_ne]; omega
          obtain ⟨s, hs⟩ : ∃ s : Nat, sn % ns.length = s := ⟨_, rfl⟩
          have hsn : s < ns.length := by rw [← hs]; exact Nat.mod_lt _ (by omega)
          have hrem : (sn : Int).tmod (ns.length : Int) = (s : Int) := by rw [← hs, Int.tmod_eq_emod_of_nonneg (by omega)]; simp
          have MC := Lib.hid (tmake_any ns cs lv ms s An Ac Al Am cn cc cl cm w4 (by omega) (by omega) HWF.out (by omega) HWL.out (by omega) HWM.out PL4.out LR4.out MR4.out)
          clear hs
          go_wp2_with fail
          refine MC.out.mono ?_
          rintro e w5 ⟨bel5, ⟨hne, rfl⟩ | ⟨he, k, hk, mok, aO, aD, cO, cD, rfl, ht⟩⟩
          · have q3 : (tErr ⟨ns, cs⟩ lv ms s != 0) = true := by simpa using hne
            have BF : Hid (Below w.heap.size w w5) := BW4.out.trans (bel5.mono BW4.out.size)
            clear hne MC bel5 q1 q2 hrem
            generalize tErr ⟨ns, cs⟩ lv ms s = te at *
            go_wp2_with fail
            go_ret
            exact ⟨rfl, BF.out.alloc BF.out.size _⟩
          · obtain rfl : s = k := by omega
            have MO := Lib.hid mok
            have ht := PostT.tree ht
            have hlenX : (mkT ns cs lv ms s).out.length = ns.length := mk_len
            have hsmX := mk_small mok (by omega)
            have PR := mk_perm mok (List.reverse_perm ms).symm
            have EX := fun u hu => mk_out (ns := ns) (cs := cs) (lv := lv) (ms := ms) (s := s) (u := u) hu
            unfold trV
            obtain ⟨X, hX⟩ : ∃ X, mkT ns cs lv ms s = X := ⟨_, rfl⟩
            rw [hX] at ht hlenX hsmX PR EX ⊢
            have HPR := Lib.hid PR
            have HEX := Lib.hid EX
            have HLX := Lib.hid hlenX
            have HSX := Lib.hid hsmX
            have HX := Lib.hid hX
            have HO := Lib.hid ho
            obtain ⟨w6, hw6⟩ : ∃ w6 : World, w5.alloc (.cells #[.int .i64 X.src, .slice aO X.out.length cO, .slice aD X.del.length cD] 61) = w6 := ⟨_, rfl⟩
            have b56 : Below w5.heap.size w5 w6 := by rw [← hw6]; exact (Below.refl _ _).alloc (Nat.le_refl _) _
            have B6 : Hid (Below w1.heap.size w1 w6) := (B4.out.trans (bel5.mono B4.out.size)).trans (b56.mono (B4.out.trans (bel5.mono B4.out.size)).size)
            have XB6 : Hid (Blk w6 w5.heap.size 61 #[.int .i64 X.src, .slice aO X.out.length cO, .slice aD X.del.length cD]) := by rw [Hid, ← hw6]; exact Blk.new _ _ _
            have XT6 : Hid (IsTree w6 aO aD X) := ht.below (Nat.le_refl _) b56
            have CL := Lib.hid (cloneIT_any Am cm ms w6 (by omega) (by omega) ((KC.out w6 B6.out).2.2.2.2))
            have HW6 := Lib.hid hw6
            clear MC bel5 q1 q2 hrem ht hlenX hsmX PR EX hX hw6 b56 he hk mok c0 c1 c2 ho
            go_wp2_with fail
            rw [HW6.out]
            refine CL.out.mono ?_
            rintro e w7 ⟨v7, rfl, own7, bel7⟩
            obtain ⟨g, cap, hv7⟩ := ownsRow_pos (by omega) own7
            subst hv7
            have RV := Lib.hid (reverseI_any ms w6.heap.size g cap w7 (by omega) own7)
            have B67 := Lib.hid bel7
            clear own7 bel7 CL HW6
            go_wp2_with fail
            refine RV.out.mono ?_
            rintro e w8 ⟨rfl, own8, bel8, hsz8⟩
            have B68 : Hid (Below w6.heap.size w6 w8) := B67.out.trans bel8
            have B8 : Hid (Below w1.heap.size w1 w8) := B6.out.trans (B68.out.mono B6.out.size)
            obtain ⟨aR, cR, hR, _, rec8, _⟩ := rec_of_own (d := (0 : Int)) cI_length (by decide) own8
            injection hR with hR _ hR2
            subst hR
            subst hR2
            obtain ⟨⟨c0, c1, c2⟩, _, pl8, lr8, _⟩ := KC.out w8 B8.out
            have mr : MOk ns cs lv ms.reverse s := mok_sub MO.out (fun m hm => by simpa using hm) ((List.reverse_perm ms).nodup_iff.2 MO.out.nodup)
            have MK2 := mk_ok ns cs lv ms.reverse s An Ac Al (some ⟨g, 0, none⟩) cn cc cl cap w8 (by omega) (by omega) HWF.out (by omega) HWL.out (by rw [List.length_reverse]; omega) (fun x hx => HWM.out x (by simpa using hx)) pl8 lr8 (by rw [List.length_reverse]; exact rec8) (mr.err HO.out)
            rw [List.length_reverse, ← HPR.out] at MK2
            have MKH := Lib.hid MK2
            clear MK2 own8 bel8 hsz8 rec8 pl8 lr8 mr RV
            go_wp2_with fail
            refine (show Calls _ _ _ _ _ from MKH.out).mono ?_
            rintro e w9 ⟨aO2, aD2, cO2, cD2, rfl, ht9, bel9⟩
            have ht9 := PostT.tree ht9
            unfold trV
            obtain ⟨w10, hw10⟩ : ∃ w10 : World, w9.alloc (.cells #[.int .i64 X.src, .slice aO2 X.out.length cO2, .slice aD2 X.del.length cD2] 61) = w10 := ⟨_, rfl⟩
            have b910 : Below w9.heap.size w9 w10 := by rw [← hw10]; exact (Below.refl _ _).alloc (Nat.le_refl _) _
            have B810 : Below w8.heap.size w8 w10 := bel9.trans (b910.mono bel9.size)
            have B610 : Hid (Below w6.heap.size w6 w10) := B68.out.trans (B810.mono B68.out.size)
            have B10 : Hid (Below w1.heap.size w1 w10) := B6.out.trans (B610.out.mono B6.out.size)
            have YB : Hid (Blk w10 w9.heap.size 61 #[.int .i64 X.src, .slice aO2 X.out.length cO2, .slice aD2 X.del.length cD2]) := by rw [Hid, ← hw10]; exact Blk.new _ _ _
            have YT : Hid (IsTree w10 aO2 aD2 X) := ht9.below (Nat.le_refl _) b910
            have XB10 : Hid (Blk w10 w5.heap.size 61 #[.int .i64 X.src, .slice aO X.out.length cO, .slice aD X.del.length cD]) := XB6.out.below B610.out XB6.out.lt
            have XT10 : Hid (IsTree w10 aO aD X) := XT6.out.below (Nat.le_refl _) B610.out
            have HW10 := Lib.hid hw10
            clear hw10 ht9 bel9 b910 B810 MKH c0 c1 c2
            go_wp2_with fail
            rw [HW10.out]
            obtain ⟨bm0, om0, hAm, recZ⟩ := rec_drop1 ((KC.out w10 B10.out).2.2.2.2) (by omega)
            have zr : MOk ns cs lv (ms.drop 1) s := mok_sub MO.out (fun m hm => List.mem_of_mem_drop hm) ((List.drop_sublist 1 ms).nodup MO.out.nodup)
            have HZR := Lib.hid zr
            have hlZ : (mkT ns cs lv (ms.drop 1) s).out.length = ns.length := mk_len
            have hsmZ := mk_small zr (by rw [List.length_drop]; omega)
            have SUB : ∀ u, u < ns.length → ∀ c ∈ (mkT ns cs lv (ms.drop 1) s).out.getD u [], c ∈ X.out.getD u [] := fun u hu c hc => by
              rw [mk_out hu] at hc
              rw [HEX.out u hu]
              exact zr.mono MO.out (fun m hm => List.mem_of_mem_drop hm) u c hc
            obtain ⟨Z, hZ⟩ : ∃ Z, mkT ns cs lv (ms.drop 1) s = Z := ⟨_, rfl⟩
            rw [hZ] at hlZ hsmZ SUB
            have HLZ := Lib.hid hlZ
            have HSZ := Lib.hid hsmZ
            have HSUB := Lib.hid SUB
            have HZ := Lib.hid hZ
            clear hlZ hsmZ SUB hZ
            have dl : (ms.drop 1).length = ms.length - 1 := by simp
            have RZ : Hid (IsRec 1 cI 0 w10 (if cm = 1 then some ⟨bm0, om0, none⟩ else some ⟨bm0, om0 + 1, none⟩) (ms.drop 1).length (ms.drop 1)) := by
              rw [Hid]
              by_cases q : cm = 1
              · have e0 : ms.drop 1 = [] := List.drop_eq_nil_of_le (by omega)
                rw [e0]; exact ⟨rfl, fun h => absurd h (by simp)⟩
              · rw [if_neg q]; exact recZ
            have MZ : Hid (∀ w', Below w10.heap.size w10 w' → Calls Try.prog 28 #[.agg #[.slice An ns.length cn, .slice Ac cs.length cc], .agg #[.slice Al lv.length cl], .int .i64 s, .slice (if cm = 1 then some ⟨bm0, om0, none⟩ else some ⟨bm0, om0 + 1, none⟩) (ms.length - 1) (cm - 1)] w' (fun e w'' => PostT Z w' e w'' ∧ Below w10.heap.size w10 w'' ∧
                ∀ j, (w10.heap.size < w'.heap.size → w''.cell? ⟨w10.heap.size, j, none⟩ = w'.cell? ⟨w10.heap.size, j, none⟩ ∧ w''.frozen? ⟨w10.heap.size, j, none⟩ = w'.frozen? ⟨w10.heap.size, j, none⟩ ∧ w10.heap.size < w''.heap.size ∧ ¬ w10.heap.size = w''.heap.size))) := fun w' hb => by
              obtain ⟨_, _, pl, lr, _⟩ := KC.out w' (B10.out.trans (hb.mono B10.out.size))
              have h1 := mk_ok ns cs lv (ms.drop 1) s An Ac Al (if cm = 1 then some ⟨bm0, om0, none⟩ else some ⟨bm0, om0 + 1, none⟩) cn cc cl (cm - 1) w' (by omega) (by omega) HWF.out (by omega) HWL.out (by omega) (fun x hx => HWM.out x (List.mem_of_mem_drop hx)) pl lr (RZ.out.below (Nat.le_refl _) hb) (HZR.out.err HO.out)
              rw [dl, HZ.out] at h1
              refine h1.mono fun e w'' h => ⟨h, ?_⟩
              obtain ⟨_, _, _, _, _, _, hb2⟩ := h
              have hz2 := hb2.size
              exact ⟨hb.trans (hb2.mono hb.size), fun j hl => ⟨hb2.cell hl, hb2.frozen hl, by omega, by omega⟩⟩
            obtain ⟨⟨c0, c1, c2⟩, _⟩ := KC.out w10 B10.out
            have KP : Hid (∀ w', Below w10.heap.size w10 w' → w'.cell? ⟨w.heap.size, 0, none⟩ = some (.slice An ns.length cn) ∧ w'.cell? ⟨w.heap.size, 1, none⟩ = some (.slice Ac cs.length cc) ∧ w'.cell? ⟨w.heap.size + 1, 0, none⟩ = some (.slice Al lv.length cl)) := fun w' hb => (KC.out w' (B10.out.trans (hb.mono B10.out.size))).1
            have hm1 : (1 : Int) ≤ (ms.length : Int) := by omega
            subst hAm
            clear recZ dl zr
            go_cut [15, 16] from 73 to 81 (fun s15 s16 wx => RG Z w10 s15 s16 wx)
            case first =>
              clear HLZ HSZ HSUB HZ H1 L1 M1 HWF HWL HWM KC HW1 B2 BW2 B3 B4 BW4 PL4 LR4 MR4 MO HPR HEX HLX HSX HX HO B6 XB6 XT6 B67 B68 B8 B610 B10 YB YT XB10 XT10 HW10 HZR RZ BW
              by_cases q : cm = 1
              all_goals
                first
                  | (rw [if_pos q] at MZ; subst q; rw [show (1 : Nat) - 1 = 0 from rfl, show ms.length - 1 = 0 by omega] at MZ)
                  | rw [if_neg q] at MZ
                go_region_held3 (fun w' => w'.cell? ⟨w.heap.size, 0, none⟩ = some (.slice An ns.length cn) ∧ w'.cell? ⟨w.heap.size, 1, none⟩ = some (.slice Ac cs.length cc) ∧ w'.cell? ⟨w.heap.size + 1, 0, none⟩ = some (.slice Al lv.length cl))
                  (first | exact ⟨c0, c1, c2⟩ | (refine KP.out _ ?_; repeat (first | exact Below.refl _ _ | exact BS.out | refine below_drewS ?_ | refine below_allocS ?_ _ | refine below_setS ?_ (by first | exact Nat.le_refl _ | (dsimp only; omega) | (dsimp only; have := BS.out.size; omega)))))
                  (first
                    | (go_at_call 28
                       refine (MZ.out _ (by repeat (first | exact Below.refl _ _ | refine below_drewS ?_ | refine below_allocS ?_ _))).mono ?_
                       rintro e ws ⟨⟨aO3, aD3, cO3, cD3, rfl, ht3, bels⟩, bs1, pos⟩
                       unfold trV
                       have HT3 := Lib.hid ht3
                       have BS := Lib.hid bs1
                       have BLS := Lib.hid bels
                       have xc0 := pos 0
                       have xc1 := pos 1
                       have xc2 := pos 2
                       try simp [go_sem] at xc0
                       try simp [go_sem] at xc1
                       try simp [go_sem] at xc2
                       clear ht3 bels bs1 pos))
                all_goals
                  go_wp2_with fail
                  go_meet
                  case rel =>
                    have z0 := BLS.out.size
                    simp at z0
                    apply rg_mk
                    case hX =>
                      first
                        | with_reducible exact blkA0 ws _ _
                        | with_reducible exact fill3 (a0 := .int .i64 0) (a1 := .slice none 0 0) (a2 := .slice none 0 0) (keepD (by with_reducible exact blkA0 _ _ _) BLS.out) _ _ _
                    case hB =>
                      repeat (first | with_reducible exact BS.out | refine below_allocS ?_ _ | refine below_setS ?_ (by dsimp only; omega))
                    case hT =>
                      refine HT3.out _ ?_
                      first
                        | with_reducible exact AgreeF.alloc _ ws _
                        | exact AgreeF.set3 ws (by simp) _ _ _
            case rest =>
              obtain ⟨bZ, aO3, aD3, cO3, cD3, rfl, rfl, belc, hZB, hZT⟩ := hcut
              have ZB := Lib.hid hZB
              have ZT := Lib.hid hZT
              have XBc : Hid (Blk wc w5.heap.size 61 #[.int .i64 X.src, .slice aO X.out.length cO, .slice aD X.del.length cD]) := XB10.out.below belc XB10.out.lt
              have YBc : Hid (Blk wc w9.heap.size 61 #[.int .i64 X.src, .slice aO2 X.out.length cO2, .slice aD2 X.del.length cD2]) := YB.out.below belc YB.out.lt
              have XTc : Hid (IsTree wc aO aD X) := XT10.out.below (Nat.le_refl _) belc
              have YTc : Hid (IsTree wc aO2 aD2 X) := YT.out.below (Nat.le_refl _) belc
              have BWc : Hid (Below w.heap.size w wc) := (KC.out wc (B10.out.trans (belc.mono B10.out.size))).2.1
              have x0 : wc.cell? ⟨w5.heap.size, 0, none⟩ = some (.int .i64 X.src) := XBc.out.cell 0
              have x1 : wc.cell? ⟨w5.heap.size, 1, none⟩ = some (.slice aO X.out.length cO) := XBc.out.cell 1
              have x2 : wc.cell? ⟨w5.heap.size, 2, none⟩ = some (.slice aD X.del.length cD) := XBc.out.cell 2
              have y0 : wc.cell? ⟨w9.heap.size, 0, none⟩ = some (.int .i64 X.src) := YBc.out.cell 0
              have y1 : wc.cell? ⟨w9.heap.size, 1, none⟩ = some (.slice aO2 X.out.length cO2) := YBc.out.cell 1
              have y2 : wc.cell? ⟨w9.heap.size, 2, none⟩ = some (.slice aD2 X.del.length cD2) := YBc.out.cell 2
              have SM := same_any X X aO aD aO2 aD2 cO cD cO2 cD2 wc HSX.out HSX.out XTc.out YTc.out
              have es : sameT X X = true := decide_eq_true ⟨rfl, rfl, rfl⟩
              rw [es] at SM
              unfold trV at SM
              have SMH := Lib.hid SM
              clear SM es H1 L1 M1 HWF HWL HWM HW1 B2 BW2 B3 B4 BW4 PL4 LR4 MR4 MO HPR HEX HX HO B6 XB6 XT6 B67 B68 B8 B610 B10 YB YT XB10 XT10 HW10 HZR RZ BW KP MZ hZB hZT belc c0 c1 c2 KC
              go_wp2_with fail
              refine (show Calls _ _ _ _ _ from SMH.out).mono ?_
              rintro e wd ⟨rfl, beld⟩
              have ZBd : Hid (Blk wd bZ 61 #[.int .i64 Z.src, .slice aO3 Z.out.length cO3, .slice aD3 Z.del.length cD3]) := ZB.out.below beld ZB.out.lt
              have XBd : Hid (Blk wd w5.heap.size 61 #[.int .i64 X.src, .slice aO X.out.length cO, .slice aD X.del.length cD]) := XBc.out.below beld XBc.out.lt
              have x1 : wd.cell? ⟨w5.heap.size, 1, none⟩ = some (.slice aO X.out.length cO) := XBd.out.cell 1
              have z1 : wd.cell? ⟨bZ, 1, none⟩ = some (.slice aO3 Z.out.length cO3) := ZBd.out.cell 1
              have XTd : Hid (IsTree wd aO aD X) := XTc.out.below (Nat.le_refl _) beld
              have ZTd : Hid (IsTree wd aO3 aD3 Z) := ZT.out.below (Nat.le_refl _) beld
              have BWd : Hid (Below w.heap.size w wd) := BWc.out.trans (beld.mono BWc.out.size)
              have q5 : ((Z.out.length : Int) != (X.out.length : Int)) = false := by rw [HLZ.out, HLX.out]; simp
              clear x0 x2 y0 y1 y2 beld XBc YBc XTc YTc ZB ZT BWc SMH
              go_wp2_with fail
              clear q5
              have hz20 : Z.out.length ≤ 20 := by have := HLZ.out; omega
              go_loopw [106] (fun i wr => RelG1 Z.out.length wd i wr) (fun i _ => Z.out.length - (RowKit.intOf i).toNat)
              case atStart => exact ⟨0, Nat.zero_le _, rfl, rfl⟩
              case round =>
                obtain ⟨u, hu, rfl, rfl⟩ := hrel
                by_cases hur : u < Z.out.length
                · obtain ⟨bo, oo, ar, capr, hao, hbo, hmr, hrr, cr0⟩ := ZTd.out.out.at_ u hur
                  have hux : u < X.out.length := by have := HLZ.out; have := HLX.out; omega
                  obtain ⟨bo2, oo2, ar2, capr2, hao2, hbo2, hmr2, hrr2, cr2⟩ := XTd.out.out.at_ u hux
                  have SU := Lib.hid (HSUB.out u (by have := HLZ.out; omega))
                  have rl1 := HSZ.out.rl _ hmr
                  have rl2 := HSX.out.rl _ hmr2
                  have RR1 := Lib.hid hrr
                  have RR2 := Lib.hid hrr2
                  generalize Z.out.getD u [] = r1 at *
                  generalize X.out.getD u [] = r2 at *
                  subst hao
                  subst hao2
                  have ui : (u : Int) < (Z.out.length : Int) := by omega
                  have ui2 : (u : Int) < (X.out.length : Int) := by omega
                  clear hmr hmr2 hrr hrr2
                  go_wp2_with fail
                  go_loopw [115] (fun i wr => RelG1 r1.length wd i wr) (fun i _ => r1.length - (RowKit.intOf i).toNat)
                  case atStart => exact ⟨0, Nat.zero_le _, rfl, rfl⟩
                  case round =>
                    obtain ⟨j, hj, rfl, rfl⟩ := hrel
                    by_cases hjr : j < r1.length
                    · obtain ⟨b1, o1, ha1, hb1, hm1, e1⟩ := int_at RR1.out j hjr
                      have CT := Lib.hid (contIT_any r2 (r1.getD j 0) ar2 capr2 wd (by omega) RR2.out)
                      rw [decide_eq_true (SU.out _ hm1)] at CT
                      generalize r1.getD j 0 = x at *
                      subst ha1
                      have ji : (j : Int) < (r1.length : Int) := by omega
                      clear hm1
                      go_wp2_with fail
                      refine CT.out.mono ?_
                      rintro e we ⟨rfl, rfl⟩
                      have R : Hid (RelG1 r1.length wd (.int .i64 ((j + 1 : Nat) : Int)) wd) := ⟨j + 1, by omega, rfl, rfl⟩
                      clear CT
                      go_wp2_with fail
                      exact ⟨by simpa using R.out, by simp [RowKit.intOf]; omega⟩
                    · obtain rfl : j = r1.length := by omega
                      have R : Hid (RelG1 Z.out.length wd (.int .i64 ((u + 1 : Nat) : Int)) wd) := ⟨u + 1, by omega, rfl, rfl⟩
                      go_wp2_with fail
                      exact ⟨by simpa using R.out, by simp [RowKit.intOf]; omega⟩
                · obtain rfl : u = Z.out.length := by omega
                  go_wp2_with fail
                  go_ret
                  exact ⟨rfl, BWd.out⟩
end Go.Proofs.Ytljojgpjgjfddaa.treeGrowsW
