/- The walk of the law TreeOne. -/
import Derived.Test.YtljojgpjgjfddaaTLaw
import Derived.Test.YtljojgpjgjfddaaTOneP
import Derived.Test.YtljojgpjgjfddaaTSpoilP
import Derived.Test.YtljojgpjgjfddaaFrame
namespace Go.Proofs.Ytljojgpjgjfddaa.treeOneW
open Go.RowKit Go.Maps Go.Sort Go.Shelf
set_option linter.unusedVariables false
set_option linter.unusedSimpArgs false

theorem mk_lenO {ns : List Nd} {cs : List Cb} {lv ms : List Int} {s : Nat} : (mkT ns cs lv ms s).out.length = ns.length := by unfold mkT; simp
theorem mk_smallO {ns : List Nd} {cs : List Cb} {lv ms : List Int} {s : Nat} (h : MOk ns cs lv ms s) (hm : ms.length ≤ 1000000) : SmallT (mkT ns cs lv ms s) := by
  obtain ⟨n16, c32⟩ := valid_sizes h.T.hv
  refine ⟨by rw [mk_lenO]; omega, fun r hr => ?_, by unfold mkT delM; simp only [List.length_mergeSort]; exact hm⟩
  unfold mkT at hr
  simp only [List.mem_map] at hr
  obtain ⟨u, _, rfl⟩ := hr
  have := h.len u
  omega
def RelOne (cs : List Cb) (L : List (Nat × Int)) (s b : Nat) (w1 : World) (uv i : Value) (wr : World) : Prop :=
  ∃ k u : Nat, k ≤ L.length ∧ i = .int .i64 k ∧ uv = .int .i64 u ∧ chn cs u (L.drop k) b ∧ Below w1.heap.size w1 wr
set_option maxRecDepth 100000 in
set_option maxHeartbeats 8000000 in
theorem walk (An Ac : Option Addr) (cn cc : Nat) (p : Pl) (Al : Option Addr) (cl : Nat) (lv : List Int) (src mem : Int) (w : World)
    (h : IsPlan w An Ac p) (hwf : WfP p) (h2 : IsRec 1 cI 0 w Al lv.length lv) (hwl : WfI lv) (h0 : (Lit.int .u8 src).wf = true) (h00 : (Lit.int .u8 mem).wf = true) :
    Calls Try.prog 6 #[.agg #[.slice An p.ns.length cn, .slice Ac p.cs.length cc], .agg #[.slice Al lv.length cl], .int .u8 src, .int .u8 mem] w fun e w' => e = .returned (.bool true) ∧ Below w.heap.size w w' := by
  obtain ⟨ns, cs⟩ := p
  simp only
  obtain ⟨w1, hw1⟩ : ∃ w1 : World, (w.alloc (.cells #[.slice An ns.length cn, .slice Ac cs.length cc] 25)).alloc (.cells #[.slice Al lv.length cl] 57) = w1 := ⟨_, rfl⟩
  have s0 : w1.cell? ⟨w.heap.size, 0, none⟩ = some (.slice An ns.length cn) := by rw [← hw1]; simp [go_sem]
  have s1 : w1.cell? ⟨w.heap.size, 1, none⟩ = some (.slice Ac cs.length cc) := by rw [← hw1]; simp [go_sem]
  have s2 : w1.cell? ⟨w.heap.size + 1, 0, none⟩ = some (.slice Al lv.length cl) := by rw [← hw1]; simp [go_sem]
  have sz1 : w.heap.size + 1 < w1.heap.size := by rw [← hw1]; simp
  have BW : Hid (Below w.heap.size w w1) := by rw [Hid, ← hw1]; exact ((Below.refl _ _).alloc (Nat.le_refl _) _).alloc (by simp) _
  have H1 := Lib.hid (h.below (Nat.le_refl _) BW.out)
  have L1 := Lib.hid (h2.below (Nat.le_refl _) BW.out)
  have HWF := Lib.hid hwf
  have HWL := Lib.hid hwl
  have KC : Hid (∀ w', Below w1.heap.size w1 w' → (w'.cell? ⟨w.heap.size, 0, none⟩ = some (.slice An ns.length cn) ∧ w'.cell? ⟨w.heap.size, 1, none⟩ = some (.slice Ac cs.length cc) ∧ w'.cell? ⟨w.heap.size + 1, 0, none⟩ = some (.slice Al lv.length cl)) ∧
      Below w.heap.size w w' ∧ IsPlan w' An Ac ⟨ns, cs⟩ ∧ IsRec 1 cI 0 w' Al lv.length lv) :=
    fun w' hb => ⟨⟨(hb.cell (by show w.heap.size < _; omega)).trans s0, (hb.cell (by show w.heap.size < _; omega)).trans s1, (hb.cell (by exact sz1)).trans s2⟩, BW.out.trans (hb.mono BW.out.size), H1.out.below (Nat.le_refl _) hb, L1.out.below (Nat.le_refl _) hb⟩
  have HW1 := Lib.hid hw1
  obtain ⟨a0, a1⟩ := bounds_u8 h0
  obtain ⟨a2, a3⟩ := bounds_u8 h00
  obtain ⟨sn, rfl⟩ : ∃ sn : Nat, src = sn := ⟨src.toNat, by omega⟩
  obtain ⟨mn, rfl⟩ : ∃ mn : Nat, mem = mn := ⟨mem.toNat, by omega⟩
  clear h h2 hw1 hwf hwl s0 s1 s2 h0 h00
  go_enter Try.func6, Try.ntmps6
  go_wp2_with fail
  rw [HW1.out]
  refine (awake23_any _).mono ?_
  rintro e w2 ⟨rfl, bel⟩
  have B2 := Lib.hid bel
  obtain ⟨⟨c0, c1, c2⟩, bw, _⟩ := KC.out w2 bel
  have BW2 := Lib.hid bw
  clear bel bw
  have SC0 := small23_any An Ac Al none ns.length cs.length lv.length 0 cn cc cl 0 w2
  cases hsm : smallB ns.length cs.length lv.length 0 with
  | false =>
    have hz : smallZ ns.length cs.length lv.length 0 = 0 := by unfold smallZ; rw [hsm]; rfl
    rw [hz] at SC0
    go_wp2_with fail
    refine (show Calls _ _ _ _ _ from SC0).mono ?_
    rintro e w3 ⟨rfl, rfl⟩
    have BF : Hid (Below w.heap.size w (w2.alloc (.cells #[.slice An ns.length cn, .slice Ac cs.length cc] 25))) := BW2.out.alloc BW2.out.size _
    clear SC0
    go_wp2_with fail
    go_ret
    exact ⟨rfl, BF.out⟩
  | true =>
    have hz : smallZ ns.length cs.length lv.length 0 = 1 := by unfold smallZ; rw [hsm]; rfl
    have hb : ns.length ≤ 8 ∧ cs.length ≤ 12 ∧ lv.length ≤ 20 := by
      unfold smallB at hsm
      simp at hsm
      omega
    obtain ⟨bn, bc, bl⟩ := hb
    rw [hz] at SC0
    go_wp2_with fail
    refine (show Calls _ _ _ _ _ from SC0).mono ?_
    rintro e w3 ⟨rfl, hw3⟩
    have B3 : Hid (Below w1.heap.size w1 w3) := by rw [Hid, ← hw3]; exact B2.out.alloc B2.out.size _
    clear SC0 hw3 hsm hz c0 c1 c2
    obtain ⟨⟨c0, c1, c2⟩, _, pl3, lr3⟩ := KC.out w3 B3.out
    have FC := Lib.hid (fits23_any ⟨ns, cs⟩ lv An Ac Al cn cc cl w3 (by show ns.length ≤ _; omega) (by show cs.length ≤ _; omega) HWF.out (by omega) HWL.out pl3 lr3)
    clear pl3 lr3
    go_wp2_with fail
    refine (show Calls _ _ _ _ _ from FC.out).mono ?_
    rintro e w4 ⟨rfl, bel4⟩
    have B4 : Hid (Below w1.heap.size w1 w4) := B3.out.trans (bel4.mono B3.out.size)
    clear bel4 FC c0 c1 c2
    obtain ⟨⟨c0, c1, c2⟩, bw4, pl4, lr4⟩ := KC.out w4 B4.out
    have BW4 := Lib.hid bw4
    clear bw4 pl4 lr4
    cases ho : orderB ⟨ns, cs⟩ lv with
    | false =>
      go_wp2_with fail
      go_ret
      exact ⟨rfl, BW4.out⟩
    | true =>
      by_cases hn0 : ns.length = 0
      · have q1 : ((ns.length : Int) == 0) = true := by simp [hn0]
        clear hn0
        go_wp2_with fail
        go_ret
        exact ⟨rfl, BW4.out⟩
      · have q1 : ((ns.length : Int) == 0) = false := by rw [beq_eq_false_iff_ne]; omega
        have HO := Lib.hid ho
        have hll : Hid (lv.length = ns.length) := (orderB_spec ho).2.1
        obtain ⟨s, hs⟩ : ∃ s : Nat, sn % ns.length = s := ⟨_, rfl⟩
        have hsn : s < ns.length := by rw [← hs]; exact Nat.mod_lt _ (by omega)
        have hrem : (sn : Int).tmod (ns.length : Int) = (s : Int) := by rw [← hs, Int.tmod_eq_emod_of_nonneg (by omega)]; simp
        obtain ⟨b, hb⟩ : ∃ b : Nat, mn % ns.length = b := ⟨_, rfl⟩
        have hbn : b < ns.length := by rw [← hb]; exact Nat.mod_lt _ (by omega)
        have hremb : (mn : Int).tmod (ns.length : Int) = (b : Int) := by rw [← hb, Int.tmod_eq_emod_of_nonneg (by omega)]; simp
        have nz : ¬ (ns.length : Int) = 0 := by omega
        clear hs hb ho
        go_wp2_with fail
        clear q1
        go_quiet (fail)
        clear hrem hremb nz
        have B5 : Hid (Below w1.heap.size w1 (w4.drewN nq)) := below_drewN B4.out nq
        generalize w4.drewN nq = w5 at *
        clear c0 c1 c2
        obtain ⟨⟨c0, c1, c2⟩, bw5, pl5, lr5⟩ := KC.out w5 B5.out
        have BW5 := Lib.hid bw5
        have PL5 := Lib.hid pl5
        have LR5 := Lib.hid lr5
        obtain ⟨bl1, ol1, hal, hbl, hms, es⟩ := int_at LR5.out s (by have := hll.out; omega)
        obtain ⟨bl2, ol2, hal2, hbl2, hmb, eb⟩ := int_at LR5.out b (by have := hll.out; omega)
        rw [hal] at hal2
        injection hal2 with hal2
        injection hal2 with hal3 hal4
        subst hal3
        subst hal4
        have LE : Hid (∀ w', Below w5.heap.size w5 w' → w'.cell? ⟨bl1, ol1 + s, none⟩ = some (.int .i64 (lv.getD s 0)) ∧ w'.cell? ⟨bl1, ol1 + b, none⟩ = some (.int .i64 (lv.getD b 0))) := fun w' hb => ⟨(hb.cell (by exact hbl)).trans es, (hb.cell (by exact hbl)).trans eb⟩
        have sl : (s : Int) < (lv.length : Int) := by have := hll.out; omega
        have bL : (b : Int) < (lv.length : Int) := by have := hll.out; omega
        have LVT : Hid (∀ j, j < ns.length → -1 ≤ lv.getD j 0 ∧ lv.getD j 0 < ns.length) := (tok_of HO.out).lt
        have HNN : Hid (0 ≤ lv.getD s 0 → 0 ≤ lv.getD b 0 → MOk ns cs lv [(b : Int)] s ∧ MOk ns cs lv [] s) := fun h1 h2 =>
          ⟨⟨tok_of HO.out, hsn, h1, fun m hm => by rw [List.mem_singleton.1 hm]; exact ⟨by omega, by omega, by simpa using h2⟩, List.nodup_cons.2 ⟨by simp, List.nodup_nil⟩⟩, ⟨tok_of HO.out, hsn, h1, fun m hm => (by cases hm), List.nodup_nil⟩⟩
        have lvs := LVT.out s hsn
        have lvb := LVT.out b hbn
        obtain ⟨ls1, ls2⟩ := lvs
        obtain ⟨lb1, lb2⟩ := lvb
        have SINGLE := Lib.hid (fun (hM : MOk ns cs lv [(b : Int)] s) => hM.single)
        obtain ⟨xs, hxs⟩ : ∃ xs, lv.getD s 0 = xs := ⟨_, rfl⟩
        obtain ⟨xb, hxb⟩ : ∃ xb, lv.getD b 0 = xb := ⟨_, rfl⟩
        rw [hxs] at HNN LE es ls1 ls2 SINGLE
        rw [hxb] at HNN LE eb lb1 lb2 SINGLE
        subst hal
        clear bw5 pl5 lr5 hms hmb LVT hxs hxb
        by_cases hxs0 : xs < 0
        · go_wp2_with fail
          go_ret
          exact ⟨rfl, BW5.out⟩
        · by_cases hxb0 : xb < 0
          · go_wp2_with fail
            go_ret
            exact ⟨rfl, BW5.out⟩
          · obtain ⟨mB, mN⟩ := HNN.out (by omega) (by omega)
            obtain ⟨L, ch, hlen, hsum, hrows, hbrow⟩ := SINGLE.out mB
            have lX : (mkT ns cs lv [(b : Int)] s).out.length = ns.length := mk_lenO
            have smX := mk_smallO mB (by simp)
            have lN : (mkT ns cs lv [] s).out.length = ns.length := mk_lenO
            have smN := mk_smallO mN (by simp)
            obtain ⟨n0, nd⟩ := mN.none
            have wX := mB.mk_ways
            have wN := mN.mk_ways
            have eX := mB.err HO.out
            have eN := mN.err HO.out
            have IT := mB.intree
            have RO := mB.rows_ok
            rw [← mkT_out] at hsum hbrow IT RO
            have hrows : ∀ p ∈ L, (mkT ns cs lv [(b : Int)] s).out.getD p.1 [] = [p.2] ∧ p.1 < ns.length := hrows
            obtain ⟨w6, hw6⟩ : ∃ w6 : World, w5.alloc (.cells #[.int .i64 (b : Int)] 3) = w6 := ⟨_, rfl⟩
            have b56 : Below w5.heap.size w5 w6 := by rw [← hw6]; exact (Below.refl _ _).alloc (Nat.le_refl _) _
            have B6 : Hid (Below w1.heap.size w1 w6) := B5.out.trans (b56.mono B5.out.size)
            have MR6 : IsRec 1 cI 0 w6 (some ⟨w5.heap.size, 0, none⟩) 1 [(b : Int)] := by rw [← hw6]; exact isRec_litT (m := 1) (c := cI) (d := (0 : Int)) w5 3 [(b : Int)] (by decide) (fun _ => rfl) (by simp)
            have MK1 := mk_ok ns cs lv [(b : Int)] s An Ac _ (some ⟨w5.heap.size, 0, none⟩) cn cc cl 1 w6 (by omega) (by omega) HWF.out (by omega) HWL.out (by simp) (fun x hx => by rw [List.mem_singleton.1 hx]; exact wf_small _ (by omega) (by omega)) (PL5.out.below (Nat.le_refl _) b56) (LR5.out.below (Nat.le_refl _) b56) MR6 eX
            obtain ⟨X, hX⟩ : ∃ X, mkT ns cs lv [(b : Int)] s = X := ⟨_, rfl⟩
            obtain ⟨N, hN⟩ : ∃ N, mkT ns cs lv [] s = N := ⟨_, rfl⟩
            rw [hX] at MK1 lX smX wX hsum hrows hbrow IT RO
            rw [hN] at lN smN n0 nd wN
            have M1 : Hid (Calls Try.prog 28 #[.agg #[.slice An ns.length cn, .slice Ac cs.length cc], .agg #[.slice (some ⟨bl1, ol1, none⟩) lv.length cl], .int .i64 (s : Int), .slice (some ⟨w5.heap.size, 0, none⟩) 1 1] w6 (PostT X w6)) := MK1
            have M2 : Hid (∀ w', Below w6.heap.size w6 w' → Calls Try.prog 28 #[.agg #[.slice An ns.length cn, .slice Ac cs.length cc], .agg #[.slice (some ⟨bl1, ol1, none⟩) lv.length cl], .int .i64 (s : Int), .slice none 0 0] w' (PostT N w')) := fun w' hb => by
              have := mk_ok ns cs lv [] s An Ac (some ⟨bl1, ol1, none⟩) none cn cc cl 0 w' (by omega) (by omega) HWF.out (by omega) HWL.out (by simp) (fun x hx => by cases hx) ((PL5.out.below (Nat.le_refl _) b56).below (Nat.le_refl _) hb) ((LR5.out.below (Nat.le_refl _) b56).below (Nat.le_refl _) hb) (IsRec.nil _) eN
              rw [hN] at this
              exact this
            have COPX : Hid (copiesB ns cs X = (L.length : Int)) := by rw [Hid]; unfold copiesB; rw [if_pos wX, hsum]
            have COPN : Hid (copiesB ns cs N = 0) := by rw [Hid]; unfold copiesB; rw [if_pos wN, n0]; rfl
            have HLX := Lib.hid lX
            have HSX := Lib.hid smX
            have HSN := Lib.hid smN
            have HWX := Lib.hid wX
            have HWN := Lib.hid wN
            have HND := Lib.hid nd
            have HCH := Lib.hid ch
            have HROWS := Lib.hid hrows
            have HBR := Lib.hid hbrow
            have HIT := Lib.hid IT
            have HRO := Lib.hid RO
            have HVD := Lib.hid mB.T.hv
            have HW6 := Lib.hid hw6
            have B56 := Lib.hid b56
            clear MK1 MR6 hw6 b56 lX smX wX lN smN n0 nd wN eX eN mB mN hsum hrows hbrow ch HNN SINGLE hX hN IT RO
            go_wp2_with fail
            rw [HW6.out]
            refine M1.out.mono ?_
            rintro e w7 ⟨aO, aD, cO, cD, rfl, ht7, bel7⟩
            have ht7 := PostT.tree ht7
            clear es eb
            unfold trV
            obtain ⟨w8, hw8⟩ : ∃ w8 : World, w7.alloc (.cells #[.int .i64 X.src, .slice aO X.out.length cO, .slice aD X.del.length cD] 61) = w8 := ⟨_, rfl⟩
            have b78 : Below w7.heap.size w7 w8 := by rw [← hw8]; exact (Below.refl _ _).alloc (Nat.le_refl _) _
            have b68 : Below w6.heap.size w6 w8 := bel7.trans (b78.mono bel7.size)
            have B68 := Lib.hid b68
            have XB8 : Hid (Blk w8 w7.heap.size 61 #[.int .i64 X.src, .slice aO X.out.length cO, .slice aD X.del.length cD]) := by rw [Hid, ← hw8]; exact Blk.new _ _ _
            have XT8 : Hid (IsTree w8 aO aD X) := ht7.below (Nat.le_refl _) b78
            have B8 : Hid (Below w1.heap.size w1 w8) := B6.out.trans (b68.mono B6.out.size)
            clear c0 c1 c2
            obtain ⟨⟨c0, c1, c2⟩, _⟩ := KC.out w7 (B6.out.trans (bel7.mono B6.out.size))
            have M2' := Lib.hid (M2.out w8 b68)
            have hs7 := (B6.out.trans (bel7.mono B6.out.size)).size
            have n1 : w.heap.size < w7.heap.size := by omega
            have n2 : ¬ w.heap.size = w7.heap.size := by omega
            have n3 : w.heap.size + 1 < w7.heap.size := by omega
            have n4 : ¬ w.heap.size + 1 = w7.heap.size := by omega
            clear hs7
            have HW8 := Lib.hid hw8
            clear hw8 b78 b68 ht7 bel7 M1
            go_wp2_with fail
            rw [HW8.out]
            refine M2'.out.mono ?_
            rintro e w9 ⟨aO2, aD2, cO2, cD2, rfl, ht9, bel9⟩
            have ht9 := PostT.tree ht9
            unfold trV
            obtain ⟨w10, hw10⟩ : ∃ w10 : World, w9.alloc (.cells #[.int .i64 N.src, .slice aO2 N.out.length cO2, .slice aD2 N.del.length cD2] 61) = w10 := ⟨_, rfl⟩
            have b910 : Below w9.heap.size w9 w10 := by rw [← hw10]; exact (Below.refl _ _).alloc (Nat.le_refl _) _
            have b810 : Below w8.heap.size w8 w10 := bel9.trans (b910.mono bel9.size)
            have NB10 : Hid (Blk w10 w9.heap.size 61 #[.int .i64 N.src, .slice aO2 N.out.length cO2, .slice aD2 N.del.length cD2]) := by rw [Hid, ← hw10]; exact Blk.new _ _ _
            have NT10 : Hid (IsTree w10 aO2 aD2 N) := ht9.below (Nat.le_refl _) b910
            have XB10 : Hid (Blk w10 w7.heap.size 61 #[.int .i64 X.src, .slice aO X.out.length cO, .slice aD X.del.length cD]) := XB8.out.below b810 XB8.out.lt
            have XT10 : Hid (IsTree w10 aO aD X) := XT8.out.below (Nat.le_refl _) b810
            have B10 : Hid (Below w1.heap.size w1 w10) := B8.out.trans (b810.mono B8.out.size)
            have B510 : Hid (Below w5.heap.size w5 w10) := B56.out.trans ((B68.out.trans (b810.mono B68.out.size)).mono B56.out.size)
            have KX : Hid (∀ w', Below w10.heap.size w10 w' → (w'.cell? ⟨w.heap.size, 0, none⟩ = some (.slice An ns.length cn) ∧ w'.cell? ⟨w.heap.size, 1, none⟩ = some (.slice Ac cs.length cc) ∧ w'.cell? ⟨w.heap.size + 1, 0, none⟩ = some (.slice (some ⟨bl1, ol1, none⟩) lv.length cl) ∧ w'.cell? ⟨bl1, ol1 + s, none⟩ = some (.int .i64 xs) ∧ w'.cell? ⟨bl1, ol1 + b, none⟩ = some (.int .i64 xb) ∧
                (w'.cell? ⟨w7.heap.size, 0, none⟩ = some (.int .i64 X.src) ∧ w'.cell? ⟨w7.heap.size, 1, none⟩ = some (.slice aO X.out.length cO) ∧ w'.cell? ⟨w7.heap.size, 2, none⟩ = some (.slice aD X.del.length cD)) ∧
                (w'.cell? ⟨w9.heap.size, 0, none⟩ = some (.int .i64 N.src) ∧ w'.cell? ⟨w9.heap.size, 1, none⟩ = some (.slice aO2 N.out.length cO2) ∧ w'.cell? ⟨w9.heap.size, 2, none⟩ = some (.slice aD2 N.del.length cD2)))) := fun w' hb => by
              obtain ⟨⟨k0, k1, k2⟩, _⟩ := KC.out w' (B10.out.trans (hb.mono B10.out.size))
              obtain ⟨e1, e2⟩ := LE.out w' (B510.out.trans (hb.mono B510.out.size))
              have x := XB10.out.below hb XB10.out.lt
              have n := NB10.out.below hb NB10.out.lt
              exact ⟨k0, k1, k2, e1, e2, ⟨x.cell 0, x.cell 1, x.cell 2⟩, n.cell 0, n.cell 1, n.cell 2⟩
            have PLN : Hid (∀ w', Below w10.heap.size w10 w' → IsPlan w' An Ac ⟨ns, cs⟩) := fun w' hb => (KC.out w' (B10.out.trans (hb.mono B10.out.size))).2.2.1
            have CX : Hid (∀ w', Below w10.heap.size w10 w' → Calls Try.prog 32 #[.agg #[.slice An ns.length cn, .slice Ac cs.length cc], .agg #[.int .i64 X.src, .slice aO X.out.length cO, .slice aD X.del.length cD]] w' fun e w'' => e = .returned (.int .i64 (L.length : Int)) ∧ Below w10.heap.size w10 w'') := fun w' hb => by
              have := tcopies_any ns cs X An Ac aO aD cn cc cO cD w' (by omega) (by omega) HWF.out HSX.out (PLN.out w' hb) (XT10.out.below (Nat.le_refl _) hb)
              rw [COPX.out] at this
              exact this.mono fun e w'' h => ⟨h.1, hb.trans (h.2.mono hb.size)⟩
            have CN : Hid (∀ w', Below w10.heap.size w10 w' → Calls Try.prog 32 #[.agg #[.slice An ns.length cn, .slice Ac cs.length cc], .agg #[.int .i64 N.src, .slice aO2 N.out.length cO2, .slice aD2 N.del.length cD2]] w' fun e w'' => e = .returned (.int .i64 0) ∧ Below w10.heap.size w10 w'') := fun w' hb => by
              have := tcopies_any ns cs N An Ac aO2 aD2 cn cc cO2 cD2 w' (by omega) (by omega) HWF.out HSN.out (PLN.out w' hb) (NT10.out.below (Nat.le_refl _) hb)
              rw [COPN.out] at this
              exact this.mono fun e w'' h => ⟨h.1, hb.trans (h.2.mono hb.size)⟩
            have VX : Hid (∀ w', Below w10.heap.size w10 w' → Calls Try.prog 33 #[.agg #[.slice An ns.length cn, .slice Ac cs.length cc], .agg #[.int .i64 X.src, .slice aO X.out.length cO, .slice aD X.del.length cD]] w' fun e w'' => e = .returned (.bool true) ∧ Below w10.heap.size w10 w'') := fun w' hb => by
              have := tvalid_any ns cs X An Ac aO aD cn cc cO cD w' (by omega) (by omega) HWF.out HSX.out (PLN.out w' hb) (XT10.out.below (Nat.le_refl _) hb)
              rw [HWX.out] at this
              exact this.mono fun e w'' h => ⟨h.1, hb.trans (h.2.mono hb.size)⟩
            have VN : Hid (∀ w', Below w10.heap.size w10 w' → Calls Try.prog 33 #[.agg #[.slice An ns.length cn, .slice Ac cs.length cc], .agg #[.int .i64 N.src, .slice aO2 N.out.length cO2, .slice aD2 N.del.length cD2]] w' fun e w'' => e = .returned (.bool true) ∧ Below w10.heap.size w10 w'') := fun w' hb => by
              have := tvalid_any ns cs N An Ac aO2 aD2 cn cc cO2 cD2 w' (by omega) (by omega) HWF.out HSN.out (PLN.out w' hb) (NT10.out.below (Nat.le_refl _) hb)
              rw [HWN.out] at this
              exact this.mono fun e w'' h => ⟨h.1, hb.trans (h.2.mono hb.size)⟩
            have nd0 : N.del.length = 0 := by rw [HND.out]; rfl
            rw [nd0] at KX CN VN NB10 hw10
            have g1 : ¬ ((L.length : Int) > xs + xb) := by omega
            have xw : IntKind.i64.wrap (xs + xb) = xs + xb := IntWalk.i64_in _ (by omega)
            have HW10 := Lib.hid hw10
            clear c0 c1 c2
            obtain ⟨c0, c1, c2, c3, c4, ⟨x0, x1, x2⟩, y0, y1, y2⟩ := KX.out w10 (Below.refl _ _)
            have BK := Lib.hid (fun w' (hb : Below w10.heap.size w10 w') => (KC.out w' (B10.out.trans (hb.mono B10.out.size))).2.1)
            clear hw10 b910 b810 ht9 bel9 M2 M2'
            have n5 : ((0 : Int) != 0) = false := rfl
            clear n1 n2 n3 n4
            go_wp2_with fail
            rw [HW10.out]
            clear c0 c1 c2 c3 c4 x0 x1 x2 y0 y1 y2
            go_cut [124] from 78 to 123 (fun s124 wx => s124 = .bool false ∧ Below w10.heap.size w10 wx)
            case first =>
              clear H1 HWF HWL B2 BW2 B3 B4 BW4 HO B5 BW5 PL5 LR5 LE hll HLX HSX HSN HWX HWN HND HCH HROWS HBR HIT HRO HVD HW6 B56 B6 B68 XB8 XT8 B8 HW8 NB10 NT10 XB10 XT10 B10 B510 PLN HW10 BK KC HW1 BW COPX COPN
              go_region_held3 (fun w' => w'.cell? ⟨w.heap.size, 0, none⟩ = some (.slice An ns.length cn) ∧ w'.cell? ⟨w.heap.size, 1, none⟩ = some (.slice Ac cs.length cc) ∧ w'.cell? ⟨w.heap.size + 1, 0, none⟩ = some (.slice (some ⟨bl1, ol1, none⟩) lv.length cl) ∧ w'.cell? ⟨bl1, ol1 + s, none⟩ = some (.int .i64 xs) ∧ w'.cell? ⟨bl1, ol1 + b, none⟩ = some (.int .i64 xb) ∧
                (w'.cell? ⟨w7.heap.size, 0, none⟩ = some (.int .i64 X.src) ∧ w'.cell? ⟨w7.heap.size, 1, none⟩ = some (.slice aO X.out.length cO) ∧ w'.cell? ⟨w7.heap.size, 2, none⟩ = some (.slice aD X.del.length cD)) ∧
                (w'.cell? ⟨w9.heap.size, 0, none⟩ = some (.int .i64 N.src) ∧ w'.cell? ⟨w9.heap.size, 1, none⟩ = some (.slice aO2 N.out.length cO2) ∧ w'.cell? ⟨w9.heap.size, 2, none⟩ = some (.slice aD2 0 cD2)))
                (first | (refine KX.out _ ?_; repeat (first | exact BS.out | exact Below.refl _ _ | refine below_drewS ?_)))
                (first
                  | (go_at_call 32
                     first
                       | with_reducible refine (CX.out _ (by repeat (first | exact BS.out | exact Below.refl _ _ | refine below_drewS ?_))).mono ?_
                       | with_reducible refine (CN.out _ (by repeat (first | exact BS.out | exact Below.refl _ _ | refine below_drewS ?_))).mono ?_
                     rintro e ws ⟨rfl, bs1⟩
                     have BS := Lib.hid bs1
                     clear bs1)
                  | (go_at_call 33
                     first
                       | with_reducible refine (VX.out _ (by repeat (first | exact BS.out | exact Below.refl _ _ | refine below_drewS ?_))).mono ?_
                       | with_reducible refine (VN.out _ (by repeat (first | exact BS.out | exact Below.refl _ _ | refine below_drewS ?_))).mono ?_
                     rintro e ws ⟨rfl, bs1⟩
                     have BS := Lib.hid bs1
                     clear bs1))
              all_goals
                go_wp2_with fail
                go_meet
                case rel =>
                  refine ⟨?_, ?_⟩
                  · first | rfl | (congr 1; simp; omega) | simp
                  · repeat (first | exact BS.out | refine below_drewS ?_)
            case rest =>
              obtain ⟨rfl, hcut⟩ := hcut
              have BC := Lib.hid hcut
              have CXC := Lib.hid (CX.out wc hcut)
              obtain ⟨c0, c1, _, _, _, ⟨x0, x1, x2⟩, _⟩ := KX.out wc hcut
              have XR := Lib.hid XT10.out.out
              have CR : Hid (IsRec 6 cC cb0 w10 Ac cs.length cs) := (PLN.out w10 (Below.refl _ _)).2
              have l40 : L.length ≤ 40 := by omega
              have KY : Hid (∀ w', Below w10.heap.size w10 w' → w'.cell? ⟨w.heap.size, 1, none⟩ = some (.slice Ac cs.length cc) ∧ w'.cell? ⟨w7.heap.size, 1, none⟩ = some (.slice aO X.out.length cO)) := fun w' hb => by
                obtain ⟨_, k1, _, _, _, ⟨_, k2, _⟩, _⟩ := KX.out w' hb
                exact ⟨k1, k2⟩
              clear hcut H1 HWF HWL B2 BW2 B3 B4 BW4 HO B5 BW5 PL5 LR5 LE hll HSX HSN HWX HWN HND HW6 B56 B6 B68 XB8 XT8 B8 HW8 NB10 NT10 XB10 XT10 B10 B510 PLN HW10 KC HW1 BW COPX COPN CX CN VX VN KX
              go_wp2_with fail
              refine CXC.out.mono ?_
              rintro e w11 ⟨rfl, bel11⟩
              have B11 := Lib.hid bel11
              clear c0 c1 x0 x1 x2 bel11 CXC
              go_wp2_with fail
              go_loopw [15, 129] (fun uv i wr => RelOne cs L s b w10 uv i wr) (fun _ i _ => L.length - (RowKit.intOf i).toNat)
              case atStart => exact ⟨0, s, Nat.zero_le _, rfl, rfl, by rw [List.drop_zero]; exact HCH.out, B11.out⟩
              case round =>
                obtain ⟨k, u, hk, rfl, rfl, hch, bel⟩ := hrel
                have BE := Lib.hid bel
                obtain ⟨k1, k2⟩ := KY.out wr bel
                by_cases hkr : k < L.length
                · rw [List.drop_eq_getElem_cons hkr] at hch
                  obtain ⟨hu, hch2⟩ := hch
                  have hpm : L[k] ∈ L := List.getElem_mem hkr
                  generalize L[k] = p at *
                  obtain ⟨p1, p2⟩ := p
                  simp only at hu hch2
                  subst hu
                  obtain ⟨hrow, hun⟩ := HROWS.out (u, p2) hpm
                  simp only at hrow hun
                  have hmem : p2 ∈ X.out.getD u [] := by rw [hrow]; exact List.mem_singleton.2 rfl
                  obtain ⟨j, rfl, hj, htc, hvn⟩ := rows_touch HVD.out HRO.out hmem
                  rw [Int.toNat_natCast] at hch2
                  obtain ⟨bo, oo, ar, capr, hao, hbo, hmr, hrr, cr0⟩ := XR.out.at_ u (by rw [HLX.out]; exact hun)
                  rw [hrow] at hrr cr0
                  obtain ⟨b1, o1, ha1, hb1, hm1, e1⟩ := int_at hrr 0 (by simp)
                  have e1' : w10.cell? ⟨b1, o1, none⟩ = some (.int .i64 (j : Int)) := by simpa using e1
                  obtain ⟨bc1, oc1, hac, hbc1, hmc, d0, d1, d2, d3, d4, d5⟩ := cable_at CR.out j hj
                  have R : Hid (∀ w', Below w10.heap.size w10 w' → RelOne cs L s b w10 (.int .i64 (othN cs u j : Int)) (.int .i64 ((k + 1 : Nat) : Int)) w') := fun w' hb => ⟨k + 1, othN cs u j, by omega, rfl, rfl, hch2, hb⟩
                  obtain ⟨v, hv⟩ : ∃ v, othN cs u j = v := ⟨_, rfl⟩
                  rw [hv] at R htc hvn
                  generalize cs.getD j cb0 = y at *
                  obtain ⟨ya, yap, yb, ybp, yd, yc⟩ := y
                  have hsum : ya + yb = (u : Int) + (v : Int) := by
                    rcases htc with ⟨h1, h2⟩ | ⟨h1, h2⟩ <;> simp only at h1 h2 <;> omega
                  have y0 : 0 ≤ ya ∧ ya ≤ 20 ∧ 0 ≤ yb ∧ yb ≤ 20 := by
                    rcases htc with ⟨h1, h2⟩ | ⟨h1, h2⟩ <;> simp only at h1 h2 <;> omega
                  obtain ⟨y1, y2, y3, y4⟩ := y0
                  have e5 : IntKind.i64.wrap (ya + yb) = ya + yb := IntWalk.i64_in _ (by omega)
                  have e6 : IntKind.i64.wrap (ya + yb - (u : Int)) = (v : Int) := by rw [hsum, show (u : Int) + (v : Int) - (u : Int) = (v : Int) by omega]; exact IntWalk.i64_in _ (by omega)
                  have cr := (bel.cell (p := ⟨bo, oo + u, none⟩) hbo).trans cr0
                  have ce := (bel.cell (p := ⟨b1, o1, none⟩) hb1).trans e1'
                  have ca := (bel.cell (p := ⟨bc1, oc1 + j * 6, none⟩) hbc1).trans d0
                  have cb := (bel.cell (p := ⟨bc1, oc1 + j * 6 + 2, none⟩) hbc1).trans d2
                  simp only at ca cb
                  subst hao
                  subst ha1
                  subst hac
                  have ui : (u : Int) < (X.out.length : Int) := by rw [HLX.out]; omega
                  have ji : (j : Int) < (cs.length : Int) := by omega
                  have l1 : (([(j : Int)] : List Int).length : Int) = 1 := rfl
                  clear hmr hrr cr0 hm1 e1 e1' hmc d0 d1 d2 d3 d4 d5 htc hsum hmem hrow hpm hch2 hv bel y1 y2 y3 y4 KY
                  go_wp2_with fail
                  go_quiet (fail)
                  clear e5 e6
                  go_wp2_with fail
                  exact ⟨by simpa using R.out _ (below_drewN BE.out _), by simp [RowKit.intOf]; omega⟩
                · obtain rfl : k = L.length := by omega
                  rw [List.drop_length] at hch
                  have hu : u = b := hch
                  subst hu
                  obtain ⟨bo, oo, ar, capr, hao, hbo, hmr, hrr, cr0⟩ := XR.out.at_ u (by rw [HLX.out]; exact hbn)
                  rw [HBR.out] at cr0
                  have cr := (bel.cell (p := ⟨bo, oo + u, none⟩) hbo).trans cr0
                  have ui : (u : Int) < (X.out.length : Int) := by rw [HLX.out]; omega
                  subst hao
                  clear hmr hrr cr0 bel
                  go_wp2_with fail
                  go_ret
                  exact ⟨rfl, BK.out _ BE.out⟩
end Go.Proofs.Ytljojgpjgjfddaa.treeOneW
