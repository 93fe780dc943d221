/- The contract of the reference's Deps. -/
import Derived.Test.YtlhblaemoejefaaCRefD
import Derived.Test.YtlhblaemoejefaaCRef4
import Derived.Test.YtlhblaemoejefaaCDeps
namespace Go.Proofs.Ytlhblaemoejefaa
open Go.RowKit Go.Maps Go.Sort Go.Shelf
set_option linter.unusedVariables false
set_option linter.unusedSimpArgs false

def insA (l : List Dp) : List Dp := l.foldl insL []
theorem insA_append (a b : List Dp) : insA (a ++ b) = b.foldl insL (insA a) := by unfold insA; rw [List.foldl_append]
theorem insA_len (l : List Dp) : (insA l).length ≤ l.length := by
  have h := insT_len [] l l.length
  unfold insT at h; rw [List.take_length] at h
  unfold insA; simpa using h
/-- In a valid plan the other end and the channel are as the reference has them. -/
theorem other_ends {ns : List Nd} {cs : List Cb} (hv : validP ⟨ns, cs⟩ = 0) {c : Nat} (hc : c < 2 * cs.length) : otherV (cs.getD (c / 2) cb0) (chEnds cs c).1 = (chEnds cs c).2 := by
  have hk : c / 2 < cs.length := by omega
  have hm : cs.getD (c / 2) cb0 ∈ cs := by simp [List.getD, hk]
  have hne : (cs.getD (c / 2) cb0).a ≠ (cs.getD (c / 2) cb0).b := by
    unfold validP at hv
    repeat' split at hv
    all_goals first | (simp at hv; done) | skip
    rename_i h1 h2 h3 h4 h5 h6
    simp only [Bool.not_eq_false] at h5
    have := List.all_eq_true.1 h5 _ hm
    simpa using this
  have e : ((c : Int) / 2).toNat = c / 2 := by omega
  unfold chEnds otherV
  rw [e]
  split
  · simp
  · simp
theorem from_leav {cs : List Cb} {z : Int} (h0 : 0 ≤ z) (hz : z < cs.length) (h32 : cs.length ≤ 32) (n : Int) : fromV cs z.toNat n = leavV cs z n := by
  unfold fromV leavV chanV
  have : ((z.toNat : Nat) : Int) = z := by omega
  rw [this]
  split
  · rw [if_neg (by omega)]; omega
  · rw [if_neg (by omega)]
def RelF1 (cs : List Cb) (lv : List Int) (T : List Row2) (n : Nat) (w1 : World) (v i : Value) (wr : World) : Prop :=
  ∃ k : Nat, k ≤ 2 * cs.length ∧ i = .int .i64 k ∧ Lst wr v (insA (depA cs lv T n k)) ∧ Below w1.heap.size w1 wr
def RelF2 (cs : List Cb) (lv : List Int) (T : List Row2) (n c : Nat) (pre : List Dp) (w1 : World) (v i : Value) (wr : World) : Prop :=
  ∃ j : Nat, j ≤ 2 ∧ i = .int .i64 j ∧ Lst wr v (insA (pre ++ (if j = 0 then [] else depTo cs lv T c 0 n) ++ (if j = 2 then depTo cs lv T c 1 n else []))) ∧ Below w1.heap.size w1 wr
def RelF3 (cs : List Cb) (lv : List Int) (T : List Row2) (n c ph : Nat) (pre : List Dp) (w1 : World) (v i : Value) (wr : World) : Prop :=
  ∃ t : Nat, t ≤ n ∧ i = .int .i64 t ∧ Lst wr v (insA (pre ++ depTo cs lv T c ph t)) ∧ Below w1.heap.size w1 wr

set_option maxRecDepth 100000 in
set_option maxHeartbeats 8000000 in
theorem refdeps_any (p : Pl) (lv : List Int) (T : List Row2) (An Ac Al At : Option Addr) (cn cc cl ct : Nat) (w : World) (ho : orderB p lv = true) (htb : tableB p T = true)
    (h : IsPlan w An Ac p) (h2 : IsRec 1 cI 0 w Al lv.length lv) (h3 : IsTab w At T.length T) :
    Calls Try.prog 34 #[.agg #[.slice An p.ns.length cn, .slice Ac p.cs.length cc], .slice Al lv.length cl, .slice At T.length ct] w fun e w' => ∃ v, e = .returned v ∧ Lst w' v (depsD p lv T) ∧ Below w.heap.size w w' := by
  obtain ⟨ns, cs⟩ := p
  obtain ⟨hv, hlv⟩ := orderB_len ho
  obtain ⟨hTl, TRR⟩ := tableB_row htb
  obtain ⟨n16, c32⟩ := valid_sizes hv
  simp only at hlv hTl TRR n16 c32 ⊢
  have HV := Lib.hid hv
  have HLV := Lib.hid hlv
  have HTL := Lib.hid hTl
  have TR := Lib.hid TRR
  obtain ⟨w1, hw1⟩ : ∃ w1 : World, w.alloc (.cells #[.slice An ns.length cn, .slice Ac cs.length cc] 40) = w1 := ⟨_, rfl⟩
  have s0 : w1.cell? ⟨w.heap.size, 0, none⟩ = some (.slice An ns.length cn) := by rw [← hw1]; simp [go_sem]
  have s1 : w1.cell? ⟨w.heap.size, 1, none⟩ = some (.slice Ac cs.length cc) := by rw [← hw1]; simp [go_sem]
  have sz1 : w.heap.size < w1.heap.size := by rw [← hw1]; simp
  have BW : Hid (Below w.heap.size w w1) := by rw [← hw1]; exact (Below.refl _ _).alloc (Nat.le_refl _) _
  have H1 := Lib.hid (h.below (Nat.le_refl _) BW.out)
  have L1 := Lib.hid (h2.below (Nat.le_refl _) BW.out)
  have T1 := Lib.hid (h3.below (Nat.le_refl _) BW.out)
  have KC : Hid (∀ w', Below w1.heap.size w1 w' → w'.cell? ⟨w.heap.size, 0, none⟩ = some (.slice An ns.length cn) ∧ w'.cell? ⟨w.heap.size, 1, none⟩ = some (.slice Ac cs.length cc) ∧ Below w.heap.size w w') :=
    fun w' hb => ⟨(hb.cell (by exact sz1)).trans s0, (hb.cell (by exact sz1)).trans s1, BW.out.trans (hb.mono BW.out.size)⟩
  have HW1 := Lib.hid hw1
  have hmul : IntKind.i64.wrap (2 * (cs.length : Int)) = 2 * (cs.length : Int) := IntWalk.i64_in _ (by omega)
  clear h h2 h3 hw1 s0 s1 ho htb hv hlv hTl TRR
  go_enter Try.func34, Try.ntmps34
  go_wp2_with fail
  rw [HW1.out]
  clear HW1
  go_loopw [7, 8] (fun v i wr => RelF1 cs lv T ns.length w1 v i wr) (fun _ i _ => 2 * cs.length - (RowKit.intOf i).toNat)
  case atStart => exact ⟨0, Nat.zero_le _, rfl, Lst.nil w1, Below.refl _ _⟩
  case round =>
    obtain ⟨k, hk, rfl, hS, bel⟩ := hrel
    have BE := Lib.hid bel
    have HS := Lib.hid hS
    obtain ⟨u0, u1, bw⟩ := KC.out wr bel
    have BF := Lib.hid bw
    clear bw hS
    have hal : (insA (depA cs lv T ns.length k)).length ≤ 2 * ns.length * k := Nat.le_trans (insA_len _) (depA_len cs lv T ns.length k)
    by_cases hkr : k < 2 * cs.length
    · have hkri : (k : Int) < 2 * (cs.length : Int) := by omega
      obtain ⟨⟨nu0, nu1⟩, nv0, nv1⟩ := chEnds_node HV.out hkr
      obtain ⟨k2, hk2⟩ : ∃ k2 : Nat, k / 2 = k2 := ⟨_, rfl⟩
      have hk2l : k2 < cs.length := by omega
      have hOE := other_ends HV.out hkr
      rw [hk2] at hOE
      have hcon := Lib.hid (begin_any cs An Ac ns.length cn cc (k : Int) wr (by omega) ((H1.out.2).below (Nat.le_refl _) BE.out) (by omega) (by omega))
      have DA := Lib.hid (depA_succ cs lv T ns.length k)
      have DC : Hid (depC cs lv T ns.length k = if lvAt lv (chEnds cs k).1 < 0 ∨ lvAt lv (chEnds cs k).2 < 0 then [] else depTo cs lv T k 0 ns.length ++ depTo cs lv T k 1 ns.length) := rfl
      obtain ⟨iu, hiu⟩ : ∃ iu : Nat, (chEnds cs k).1 = iu := ⟨(chEnds cs k).1.toNat, by omega⟩
      obtain ⟨iv, hiv⟩ : ∃ iv : Nat, (chEnds cs k).2 = iv := ⟨(chEnds cs k).2.toNat, by omega⟩
      have EE1 := Lib.hid hiu
      have EE2 := Lib.hid hiv
      rw [hiu, hiv] at DC hOE
      rw [hiu] at hcon nu0 nu1
      rw [hiv] at nv0 nv1
      have hiun : iu < ns.length := by omega
      have hivn : iv < ns.length := by omega
      have jiu : iu < lv.length := by have := HLV.out; omega
      have jiv : iv < lv.length := by have := HLV.out; omega
      have kiu : (iu : Int) < (lv.length : Int) := by omega
      have kiv : (iv : Int) < (lv.length : Int) := by omega
      have LVU : Hid (lvAt lv (iu : Int) = lv.getD iu 0) := by rw [Hid]; unfold lvAt; rw [Int.toNat_natCast]
      have LVV : Hid (lvAt lv (iv : Int) = lv.getD iv 0) := by rw [Hid]; unfold lvAt; rw [Int.toNat_natCast]
      rw [LVU.out, LVV.out] at DC
      have HOE := Lib.hid hOE
      have HK2 := Lib.hid hk2
      have hc2 : (k : Int) / 2 = (k2 : Int) := by omega
      have HC2 := Lib.hid hc2
      clear hiu hiv hOE hk2 bel LVU LVV
      go_wp2_with fail
      refine hcon.out.mono ?_
      rintro e w5 ⟨rfl, bel5⟩
      have BE5 : Hid (Below w1.heap.size w1 w5) := BE.out.trans (bel5.mono BE.out.size)
      have HS5 := Lib.hid (HS.out.below (Nat.le_refl _) bel5)
      obtain ⟨u0, u1, _⟩ := KC.out w5 BE5.out
      have hcon := Lib.hid (Other17_any cs An Ac ns.length cn cc k2 (iu : Int) w5 (by omega) ((H1.out.2).below (Nat.le_refl _) BE5.out) hk2l)
      rw [HOE.out] at hcon
      clear bel5 HS
      go_wp2_with fail
      refine hcon.out.mono ?_
      rintro e w6 ⟨rfl, bel6⟩
      have BE6 : Hid (Below w1.heap.size w1 w6) := BE5.out.trans (bel6.mono BE5.out.size)
      have HS6 := Lib.hid (HS5.out.below (Nat.le_refl _) bel6)
      obtain ⟨bl, ol, hal1, hbl, hma, ea⟩ := int_at (L1.out.below (Nat.le_refl _) BE6.out) iu jiu
      obtain ⟨bl', ol', hal', _, hmb, eb⟩ := int_at (L1.out.below (Nat.le_refl _) BE6.out) iv jiv
      rw [hal1] at hal'
      injection hal' with hal'
      injection hal' with hal2 hal3
      subst hal2
      subst hal3
      have GVA : Hid (lv.getD iu 0 = lv.getD iu 0) := rfl
      obtain ⟨va, hva⟩ : ∃ va, lv.getD iu 0 = va := ⟨_, rfl⟩
      obtain ⟨vb, hvb⟩ : ∃ vb, lv.getD iv 0 = vb := ⟨_, rfl⟩
      have HVA := Lib.hid hva
      have HVB := Lib.hid hvb
      rw [hva] at ea DC
      rw [hvb] at eb DC
      clear hva hvb hma hmb bel6 HS5 hcon GVA
      have NEG : Hid (va < 0 ∨ vb < 0 → ∀ v, Lst w6 v (insA (depA cs lv T ns.length k)) → RelF1 cs lv T ns.length w1 v (.int .i64 ((k + 1 : Nat) : Int)) w6) := fun h v hL => by
        rw [if_pos h] at DC
        exact ⟨k + 1, by omega, rfl, by rw [DA.out, DC.out, List.append_nil]; exact hL, BE6.out⟩
      subst hal1
      by_cases hn1 : va < 0
      · have R := Lib.hid (NEG.out (.inl hn1) _ HS6.out)
        clear NEG
        go_wp2_with fail
        exact ⟨by simpa using R.out, by simp [RowKit.intOf]; omega⟩
      · by_cases hn2 : vb < 0
        · have R := Lib.hid (NEG.out (.inr hn2) _ HS6.out)
          clear NEG
          go_wp2_with fail
          exact ⟨by simpa using R.out, by simp [RowKit.intOf]; omega⟩
        · rw [if_neg (by omega)] at DC
          clear NEG
          obtain ⟨pre, hpre⟩ : ∃ pre, depA cs lv T ns.length k = pre := ⟨_, rfl⟩
          have hpl := depA_len cs lv T ns.length k
          rw [hpre] at HS6 DA hpl
          have hm1 : 2 * ns.length * k ≤ 2048 := by
            have h1 : 2 * ns.length ≤ 32 := by omega
            have h2 : k ≤ 64 := by omega
            exact Nat.mul_le_mul h1 h2
          have HPR0 : pre.length ≤ 2048 := by omega
          clear hpre hal hm1 hpl
          have FIN : Hid (∀ v w', Lst w' v (insA (pre ++ depTo cs lv T k 0 ns.length ++ depTo cs lv T k 1 ns.length)) → Below w1.heap.size w1 w' → RelF1 cs lv T ns.length w1 v (.int .i64 ((k + 1 : Nat) : Int)) w') := fun v w' h1 h2 =>
            ⟨k + 1, by omega, rfl, by rw [DA.out, DC.out, ← List.append_assoc]; exact h1, h2⟩
          have ST2 : Hid (RelF2 cs lv T ns.length k pre w1 u7 (.int .i64 0) w6) := ⟨0, by omega, rfl, by simpa using HS6.out, BE6.out⟩
          go_wp2_with fail
          clear ea eb u0 u1 HS6
          go_loopw [7, 11] (fun v i wr => RelF2 cs lv T ns.length k pre w1 v i wr) (fun _ i _ => 2 - (RowKit.intOf i).toNat)
          case atStart => exact ST2.out
          case round =>
            clear ST2
            obtain ⟨j, hj, rfl, hSJ, belJ⟩ := hrel
            rcases (show j = 0 ∨ j = 1 ∨ j = 2 by omega) with rfl | rfl | rfl
            · simp only [if_true, List.append_nil, show (0 : Nat) ≠ 2 from by decide, if_false] at hSJ
              have HSJ := Lib.hid hSJ
              have BJ := Lib.hid belJ
              have RNX : Hid (∀ v w', Lst w' v (insA (pre ++ depTo cs lv T k 0 ns.length)) → Below w1.heap.size w1 w' → RelF2 cs lv T ns.length k pre w1 v (.int .i64 ((0 + 1 : Nat) : Int)) w') := fun v w' h1 h2 => ⟨1, by omega, rfl, by simpa using h1, h2⟩
              have HPL : Hid (pre.length ≤ 2064) := by rw [Hid]; omega
              clear hSJ belJ
              have hcon := Lib.hid (above17_any lv (some ⟨bl, ol, none⟩) cl iv iu wr (by have := HLV.out; omega) (L1.out.below (Nat.le_refl _) BJ.out) jiv jiu (by rw [HVB.out]; omega) (by rw [HVA.out]; omega))
              cases hab : aboveB lv (iv : Int) (iu : Int) with
              | true =>
                have AFV : Hid (aftV lv (iu : Int) (iv : Int) 0 = 0) := by rw [Hid]; unfold aftV; rw [hab]; rfl
                rw [hab] at hcon
                clear hab
                go_wp2_with fail
                refine hcon.out.mono ?_
                rintro e w5 ⟨rfl, bel5⟩
                have HSJ' := Lib.hid (HSJ.out.below (Nat.le_refl _) bel5)
                have BJ' := Lib.hid (BJ.out.trans (bel5.mono BJ.out.size))
                clear bel5 HSJ BJ hcon
                have HSJ := HSJ'
                have BJ := BJ'
                clear HSJ' BJ' 
                go_wp2_with fail
                go_loopw [7, 13] (fun v i wr => RelF3 cs lv T ns.length k 0 pre w1 v i wr) (fun _ i _ => ns.length - (RowKit.intOf i).toNat)
                case atStart => exact ⟨0, Nat.zero_le _, rfl, by simpa [depTo] using HSJ.out, BJ.out⟩
                case round =>
                  obtain ⟨t, ht, rfl, hS3, bel⟩ := hrel
                  have BE := Lib.hid bel
                  have HS3 := Lib.hid hS3
                  obtain ⟨v0, v1, _⟩ := KC.out wr bel
                  have hdl := depTo_len cs lv T k 0 t
                  have htn := HTL.out
                  clear hS3
                  by_cases htr : t < ns.length
                  · have htT : (t : Int) < (T.length : Int) := by omega
                    obtain ⟨b1, o1, a0, c0, a1, c1, hat, hb1, _, e0, e1, r0, r1⟩ := (T1.out.below (Nat.le_refl _) bel).at_ iu (by omega)
                    obtain ⟨b2, o2, av0, cv0, av1, cv1, hav, hb2, _, f0, f1, q0, q1⟩ := (T1.out.below (Nat.le_refl _) bel).at_ iv (by omega)
                    have LU := (TR.out iu 0 hiun (by omega)).1
                    have LVV := (TR.out iv 0 hivn (by omega)).1
                    have PB := Lib.hid ((TR.out iv 0 hivn (by omega)).2 t htr)
                    have DT : Hid (depT cs lv T k 0 t = if ((phOf (T.getD iu row0) 0).getD t 0 == (k2 : Int)) && decide (0 ≤ (phOf (T.getD iv row0) 0).getD t 0) then [((k : Int), leavV cs ((phOf (T.getD iv row0) 0).getD t 0) (iv : Int), (iv : Int))] else []) := by
                      rw [Hid]; unfold depT rowAt; rw [EE1.out, EE2.out, Int.toNat_natCast, Int.toNat_natCast, HK2.out, AFV.out]
                    have DS := Lib.hid (depTo_succ cs lv T k 0 t)
                    have hsl : iu = iv → T.getD iu row0 = T.getD iv row0 := fun e => by rw [e]
                    generalize T.getD iu row0 = xu at *
                    generalize T.getD iv row0 = xv at *
                    clear hsl
                    obtain ⟨l0, l1⟩ := xu
                    obtain ⟨m0, m1⟩ := xv
                    simp only [phOf, if_true, Nat.one_ne_zero, if_false] at LU LVV PB DT
                    simp only at e0 e1 r0 r1 f0 f1 q0 q1
                    obtain ⟨b3, o3, ha3, hb3, _, g3⟩ := int_at r0 t (by omega)
                    obtain ⟨b4, o4, ha4, hb4, _, g4⟩ := int_at q0 t (by omega)
                    rw [hat] at hav
                    injection hav with hav
                    injection hav with hav1 hav2
                    subst hav1
                    subst hav2
                    subst hat
                    subst ha3
                    subst ha4
                    generalize l0.getD t 0 = y at *
                    generalize m0.getD t 0 = z at *
                    have z1 : (t : Int) < ((l0.length : Nat) : Int) := by omega
                    have z2 : (t : Int) < ((m0.length : Nat) : Int) := by omega
                    have nu1' : (iu : Int) < (T.length : Int) := by omega
                    have nv1' : (iv : Int) < (T.length : Int) := by omega
                    have hc2 := HC2.out
                    have LUT : l0.length = ns.length := LU
                    clear bel r0 r1 q0 q1 LU LVV LUT htn
                    cases hb : ((y == (k2 : Int)) && decide (0 ≤ z)) with
                    | false =>
                      have R : Hid (RelF3 cs lv T ns.length k 0 pre w1 u7 (.int .i64 ((t + 1 : Nat) : Int)) wr) := by
                        rw [hb] at DT
                        simp only [Bool.false_eq_true, if_false] at DT
                        exact ⟨t + 1, by omega, rfl, by rw [DS.out, DT.out, List.append_nil]; exact HS3.out, BE.out⟩
                      clear DS DT HS3
                      cases hy : y == (k2 : Int) with
                      | false =>
                        clear hb
                        go_wp2_with fail
                        exact ⟨by simpa using R.out, by simp [RowKit.intOf]; omega⟩
                      | true =>
                        have hz : decide (0 ≤ z) = false := by rw [hy] at hb; simpa using hb
                        have hz' : z < 0 := by simpa using hz
                        clear hb
                        go_wp2_with fail
                        exact ⟨by simpa using R.out, by simp [RowKit.intOf]; omega⟩
                    | true =>
                      have hy : (y == (k2 : Int)) = true := by rw [Bool.and_eq_true] at hb; exact hb.1
                      have hz : decide (0 ≤ z) = true := by rw [Bool.and_eq_true] at hb; exact hb.2
                      have hz0 : 0 ≤ z := of_decide_eq_true hz
                      have hzc := perm_lt PB.out hz0
                      rw [hb] at DT
                      simp only [if_true] at DT
                      obtain ⟨zk, hzk⟩ : ∃ zk : Nat, z = zk := ⟨z.toNat, by omega⟩
                      subst hzk
                      have FL := from_leav (cs := cs) hz0 hzc c32 (iv : Int)
                      rw [Int.toNat_natCast] at FL
                      have hc1 := Lib.hid (from20_any cs An Ac ns.length cn cc zk (iv : Int) wr.drew (by omega) ((H1.out.2).below (Nat.le_refl _) (BE.out.drew)) (by omega))
                      rw [FL] at hc1
                      have LI := Lib.hid (insA_append (pre ++ depTo cs lv T k 0 t) [((k : Int), leavV cs (zk : Int) (iv : Int), (iv : Int))])
                      have hil := insA_len (pre ++ depTo cs lv T k 0 t)
                      rw [List.length_append] at hil
                      generalize leavV cs (zk : Int) (iv : Int) = q at *
                      obtain ⟨vA, vC, hvA, hvc, hvn, hvr⟩ := HS3.out
                      have VR := Lib.hid hvr
                      have VC := Lib.hid hvc
                      have VN := Lib.hid hvn
                      have NXT : Hid (∀ v W, Lst W v (insL (insA (pre ++ depTo cs lv T k 0 t)) ((k : Int), q, (iv : Int))) → Below w1.heap.size w1 W → RelF3 cs lv T ns.length k 0 pre w1 v (.int .i64 ((t + 1 : Nat) : Int)) W) := fun v W h1 h2 =>
                        ⟨t + 1, by omega, rfl, by rw [DS.out, DT.out, ← List.append_assoc, LI.out]; exact h1, h2⟩
                      have hin : ∀ W, Below wr.heap.size wr W → Hid (Calls Try.prog 44 #[.slice vA (insA (pre ++ depTo cs lv T k 0 t)).length vC, .agg #[.int .i64 (k : Int), .int .i64 q, .int .i64 (iv : Int)]] W (DPost (insL (insA (pre ++ depTo cs lv T k 0 t)) ((k : Int), q, (iv : Int))) W)) := fun W hW =>
                        insert20_any (insA (pre ++ depTo cs lv T k 0 t)) ((k : Int), q, (iv : Int)) vA vC W (by omega) VC.out VN.out (VR.out.below (Nat.le_refl _) hW)
                      have HIN := Lib.hid hin
                      generalize insA (pre ++ depTo cs lv T k 0 t) = L at *
                      subst hvA
                      have KS : Hid (∀ W, Below wr.heap.size wr W → W.cell? ⟨w.heap.size, 0, none⟩ = some (.slice An ns.length cn) ∧ W.cell? ⟨w.heap.size, 1, none⟩ = some (.slice Ac cs.length cc) ∧ W.cell? ⟨b1, o1 + iv * 2, none⟩ = some (.slice (some ⟨b4, o4, none⟩) m0.length cv0) ∧ W.cell? ⟨b4, o4 + t, none⟩ = some (.int .i64 (zk : Int))) := fun W hW =>
                        ⟨(hW.cell (by have := BE.out.size; show w.heap.size < _; omega)).trans v0, (hW.cell (by have := BE.out.size; show w.heap.size < _; omega)).trans v1, (hW.cell (by exact hb1)).trans f0, (hW.cell (by exact hb4)).trans g4⟩
                      clear hb hin DS DT LI HS3 hvr hvc hvn PB FL
                      go_wp2_with fail
                      go_region_held3 (fun W => W.cell? ⟨w.heap.size, 0, none⟩ = some (.slice An ns.length cn) ∧ W.cell? ⟨w.heap.size, 1, none⟩ = some (.slice Ac cs.length cc) ∧ W.cell? ⟨b1, o1 + iv * 2, none⟩ = some (.slice (some ⟨b4, o4, none⟩) m0.length cv0) ∧ W.cell? ⟨b4, o4 + t, none⟩ = some (.int .i64 (zk : Int)))
                        (first | exact KS.out _ ((Below.refl _ _).drew) | exact KX.out | exact KY.out)
                        (first
                          | (go_at_call 63; refine hc1.out.mono ?_; rintro e w8 ⟨rfl, bel8⟩; have B8 : Hid (Below wr.heap.size wr w8) := ((Below.refl _ _).drew).trans bel8; clear bel8; have KX := Lib.hid (KS.out w8 B8.out))
                          | (go_at_call 44; refine (HIN.out w8 B8.out).out.mono ?_; rintro e w9 ⟨a9, c9, rfl, p1, p2, p3, bel9⟩; have B9 : Hid (Below wr.heap.size wr w9) := B8.out.trans (bel9.mono B8.out.size); have KY := Lib.hid (KS.out w9 B9.out); have R : Hid (RelF3 cs lv T ns.length k 0 pre w1 (.slice a9 (insL L ((k : Int), q, (iv : Int))).length c9) (.int .i64 ((t + 1 : Nat) : Int)) w9) := NXT.out _ w9 ⟨a9, c9, rfl, p1, p2, p3⟩ (BE.out.trans (B9.out.mono BE.out.size)); clear bel9 p1 p2 p3))
                      all_goals
                        clear e0 e1 f0 f1 g3 g4 v0 v1 KX KY
                        go_wp2_with fail
                        exact ⟨by simpa using R.out, by simp [RowKit.intOf]; omega⟩
                  · have htn2 : t = ns.length := by omega
                    have R := Lib.hid (RNX.out u7 wr (htn2 ▸ HS3.out) bel)
                    have hnl : ¬ ((t : Int) < ((T.length : Nat) : Int)) := by omega
                    clear bel htn2 HS3 htn
                    go_wp2_with fail
                    exact ⟨by simpa using R.out, by simp [RowKit.intOf]⟩
              | false =>
                have AFV : Hid (aftV lv (iu : Int) (iv : Int) 0 = 1) := by rw [Hid]; unfold aftV; rw [hab]; rfl
                rw [hab] at hcon
                clear hab
                go_wp2_with fail
                refine hcon.out.mono ?_
                rintro e w5 ⟨rfl, bel5⟩
                have HSJ' := Lib.hid (HSJ.out.below (Nat.le_refl _) bel5)
                have BJ' := Lib.hid (BJ.out.trans (bel5.mono BJ.out.size))
                clear bel5 HSJ BJ hcon
                have HSJ := HSJ'
                have BJ := BJ'
                clear HSJ' BJ' 
                go_wp2_with fail
                go_loopw [7, 13] (fun v i wr => RelF3 cs lv T ns.length k 0 pre w1 v i wr) (fun _ i _ => ns.length - (RowKit.intOf i).toNat)
                case atStart => exact ⟨0, Nat.zero_le _, rfl, by simpa [depTo] using HSJ.out, BJ.out⟩
                case round =>
                  obtain ⟨t, ht, rfl, hS3, bel⟩ := hrel
                  have BE := Lib.hid bel
                  have HS3 := Lib.hid hS3
                  obtain ⟨v0, v1, _⟩ := KC.out wr bel
                  have hdl := depTo_len cs lv T k 0 t
                  have htn := HTL.out
                  clear hS3
                  by_cases htr : t < ns.length
                  · have htT : (t : Int) < (T.length : Int) := by omega
                    obtain ⟨b1, o1, a0, c0, a1, c1, hat, hb1, _, e0, e1, r0, r1⟩ := (T1.out.below (Nat.le_refl _) bel).at_ iu (by omega)
                    obtain ⟨b2, o2, av0, cv0, av1, cv1, hav, hb2, _, f0, f1, q0, q1⟩ := (T1.out.below (Nat.le_refl _) bel).at_ iv (by omega)
                    have LU := (TR.out iu 0 hiun (by omega)).1
                    have LVV := (TR.out iv 1 hivn (by omega)).1
                    have PB := Lib.hid ((TR.out iv 1 hivn (by omega)).2 t htr)
                    have DT : Hid (depT cs lv T k 0 t = if ((phOf (T.getD iu row0) 0).getD t 0 == (k2 : Int)) && decide (0 ≤ (phOf (T.getD iv row0) 1).getD t 0) then [((k : Int), leavV cs ((phOf (T.getD iv row0) 1).getD t 0) (iv : Int), (iv : Int))] else []) := by
                      rw [Hid]; unfold depT rowAt; rw [EE1.out, EE2.out, Int.toNat_natCast, Int.toNat_natCast, HK2.out, AFV.out]
                    have DS := Lib.hid (depTo_succ cs lv T k 0 t)
                    have hsl : iu = iv → T.getD iu row0 = T.getD iv row0 := fun e => by rw [e]
                    generalize T.getD iu row0 = xu at *
                    generalize T.getD iv row0 = xv at *
                    clear hsl
                    obtain ⟨l0, l1⟩ := xu
                    obtain ⟨m0, m1⟩ := xv
                    simp only [phOf, if_true, Nat.one_ne_zero, if_false] at LU LVV PB DT
                    simp only at e0 e1 r0 r1 f0 f1 q0 q1
                    obtain ⟨b3, o3, ha3, hb3, _, g3⟩ := int_at r0 t (by omega)
                    obtain ⟨b4, o4, ha4, hb4, _, g4⟩ := int_at q1 t (by omega)
                    rw [hat] at hav
                    injection hav with hav
                    injection hav with hav1 hav2
                    subst hav1
                    subst hav2
                    subst hat
                    subst ha3
                    subst ha4
                    generalize l0.getD t 0 = y at *
                    generalize m1.getD t 0 = z at *
                    have z1 : (t : Int) < ((l0.length : Nat) : Int) := by omega
                    have z2 : (t : Int) < ((m1.length : Nat) : Int) := by omega
                    have nu1' : (iu : Int) < (T.length : Int) := by omega
                    have nv1' : (iv : Int) < (T.length : Int) := by omega
                    have hc2 := HC2.out
                    have LUT : l0.length = ns.length := LU
                    clear bel r0 r1 q0 q1 LU LVV LUT htn
                    cases hb : ((y == (k2 : Int)) && decide (0 ≤ z)) with
                    | false =>
                      have R : Hid (RelF3 cs lv T ns.length k 0 pre w1 u7 (.int .i64 ((t + 1 : Nat) : Int)) wr) := by
                        rw [hb] at DT
                        simp only [Bool.false_eq_true, if_false] at DT
                        exact ⟨t + 1, by omega, rfl, by rw [DS.out, DT.out, List.append_nil]; exact HS3.out, BE.out⟩
                      clear DS DT HS3
                      cases hy : y == (k2 : Int) with
                      | false =>
                        clear hb
                        go_wp2_with fail
                        exact ⟨by simpa using R.out, by simp [RowKit.intOf]; omega⟩
                      | true =>
                        have hz : decide (0 ≤ z) = false := by rw [hy] at hb; simpa using hb
                        have hz' : z < 0 := by simpa using hz
                        clear hb
                        go_wp2_with fail
                        exact ⟨by simpa using R.out, by simp [RowKit.intOf]; omega⟩
                    | true =>
                      have hy : (y == (k2 : Int)) = true := by rw [Bool.and_eq_true] at hb; exact hb.1
                      have hz : decide (0 ≤ z) = true := by rw [Bool.and_eq_true] at hb; exact hb.2
                      have hz0 : 0 ≤ z := of_decide_eq_true hz
                      have hzc := perm_lt PB.out hz0
                      rw [hb] at DT
                      simp only [if_true] at DT
                      obtain ⟨zk, hzk⟩ : ∃ zk : Nat, z = zk := ⟨z.toNat, by omega⟩
                      subst hzk
                      have FL := from_leav (cs := cs) hz0 hzc c32 (iv : Int)
                      rw [Int.toNat_natCast] at FL
                      have hc1 := Lib.hid (from20_any cs An Ac ns.length cn cc zk (iv : Int) wr.drew (by omega) ((H1.out.2).below (Nat.le_refl _) (BE.out.drew)) (by omega))
                      rw [FL] at hc1
                      have LI := Lib.hid (insA_append (pre ++ depTo cs lv T k 0 t) [((k : Int), leavV cs (zk : Int) (iv : Int), (iv : Int))])
                      have hil := insA_len (pre ++ depTo cs lv T k 0 t)
                      rw [List.length_append] at hil
                      generalize leavV cs (zk : Int) (iv : Int) = q at *
                      obtain ⟨vA, vC, hvA, hvc, hvn, hvr⟩ := HS3.out
                      have VR := Lib.hid hvr
                      have VC := Lib.hid hvc
                      have VN := Lib.hid hvn
                      have NXT : Hid (∀ v W, Lst W v (insL (insA (pre ++ depTo cs lv T k 0 t)) ((k : Int), q, (iv : Int))) → Below w1.heap.size w1 W → RelF3 cs lv T ns.length k 0 pre w1 v (.int .i64 ((t + 1 : Nat) : Int)) W) := fun v W h1 h2 =>
                        ⟨t + 1, by omega, rfl, by rw [DS.out, DT.out, ← List.append_assoc, LI.out]; exact h1, h2⟩
                      have hin : ∀ W, Below wr.heap.size wr W → Hid (Calls Try.prog 44 #[.slice vA (insA (pre ++ depTo cs lv T k 0 t)).length vC, .agg #[.int .i64 (k : Int), .int .i64 q, .int .i64 (iv : Int)]] W (DPost (insL (insA (pre ++ depTo cs lv T k 0 t)) ((k : Int), q, (iv : Int))) W)) := fun W hW =>
                        insert20_any (insA (pre ++ depTo cs lv T k 0 t)) ((k : Int), q, (iv : Int)) vA vC W (by omega) VC.out VN.out (VR.out.below (Nat.le_refl _) hW)
                      have HIN := Lib.hid hin
                      generalize insA (pre ++ depTo cs lv T k 0 t) = L at *
                      subst hvA
                      have KS : Hid (∀ W, Below wr.heap.size wr W → W.cell? ⟨w.heap.size, 0, none⟩ = some (.slice An ns.length cn) ∧ W.cell? ⟨w.heap.size, 1, none⟩ = some (.slice Ac cs.length cc) ∧ W.cell? ⟨b1, o1 + iv * 2 + 1, none⟩ = some (.slice (some ⟨b4, o4, none⟩) m1.length cv1) ∧ W.cell? ⟨b4, o4 + t, none⟩ = some (.int .i64 (zk : Int))) := fun W hW =>
                        ⟨(hW.cell (by have := BE.out.size; show w.heap.size < _; omega)).trans v0, (hW.cell (by have := BE.out.size; show w.heap.size < _; omega)).trans v1, (hW.cell (by exact hb1)).trans f1, (hW.cell (by exact hb4)).trans g4⟩
                      clear hb hin DS DT LI HS3 hvr hvc hvn PB FL
                      go_wp2_with fail
                      go_region_held3 (fun W => W.cell? ⟨w.heap.size, 0, none⟩ = some (.slice An ns.length cn) ∧ W.cell? ⟨w.heap.size, 1, none⟩ = some (.slice Ac cs.length cc) ∧ W.cell? ⟨b1, o1 + iv * 2 + 1, none⟩ = some (.slice (some ⟨b4, o4, none⟩) m1.length cv1) ∧ W.cell? ⟨b4, o4 + t, none⟩ = some (.int .i64 (zk : Int)))
                        (first | exact KS.out _ ((Below.refl _ _).drew) | exact KX.out | exact KY.out)
                        (first
                          | (go_at_call 63; refine hc1.out.mono ?_; rintro e w8 ⟨rfl, bel8⟩; have B8 : Hid (Below wr.heap.size wr w8) := ((Below.refl _ _).drew).trans bel8; clear bel8; have KX := Lib.hid (KS.out w8 B8.out))
                          | (go_at_call 44; refine (HIN.out w8 B8.out).out.mono ?_; rintro e w9 ⟨a9, c9, rfl, p1, p2, p3, bel9⟩; have B9 : Hid (Below wr.heap.size wr w9) := B8.out.trans (bel9.mono B8.out.size); have KY := Lib.hid (KS.out w9 B9.out); have R : Hid (RelF3 cs lv T ns.length k 0 pre w1 (.slice a9 (insL L ((k : Int), q, (iv : Int))).length c9) (.int .i64 ((t + 1 : Nat) : Int)) w9) := NXT.out _ w9 ⟨a9, c9, rfl, p1, p2, p3⟩ (BE.out.trans (B9.out.mono BE.out.size)); clear bel9 p1 p2 p3))
                      all_goals
                        clear e0 e1 f0 f1 g3 g4 v0 v1 KX KY
                        go_wp2_with fail
                        exact ⟨by simpa using R.out, by simp [RowKit.intOf]; omega⟩
                  · have htn2 : t = ns.length := by omega
                    have R := Lib.hid (RNX.out u7 wr (htn2 ▸ HS3.out) bel)
                    have hnl : ¬ ((t : Int) < ((T.length : Nat) : Int)) := by omega
                    clear bel htn2 HS3 htn
                    go_wp2_with fail
                    exact ⟨by simpa using R.out, by simp [RowKit.intOf]⟩
            · simp only [Nat.one_ne_zero, if_false, List.append_nil, show (1 : Nat) ≠ 2 from by decide] at hSJ
              have hd0 := depTo_len cs lv T k 0 ns.length
              obtain ⟨pre1, hpre1⟩ : ∃ pre1, pre ++ depTo cs lv T k 0 ns.length = pre1 := ⟨_, rfl⟩
              have HPR1 : pre1.length ≤ 2064 := by rw [← hpre1, List.length_append]; omega
              rw [hpre1] at hSJ
              have HSJ := Lib.hid hSJ
              have BJ := Lib.hid belJ
              have RNX : Hid (∀ v w', Lst w' v (insA (pre1 ++ depTo cs lv T k 1 ns.length)) → Below w1.heap.size w1 w' → RelF2 cs lv T ns.length k pre w1 v (.int .i64 ((1 + 1 : Nat) : Int)) w') := fun v w' h1 h2 => ⟨2, by omega, rfl, by simp only [show (2 : Nat) ≠ 0 from by decide, if_false, if_true]; rw [hpre1]; exact h1, h2⟩
              clear hSJ belJ hpre1 hd0
              have AFV : Hid (aftV lv (iu : Int) (iv : Int) 1 = 1) := rfl
              go_wp2_with fail
              go_loopw [7, 13] (fun v i wr => RelF3 cs lv T ns.length k 1 pre1 w1 v i wr) (fun _ i _ => ns.length - (RowKit.intOf i).toNat)
              case atStart => exact ⟨0, Nat.zero_le _, rfl, by simpa [depTo] using HSJ.out, BJ.out⟩
              case round =>
                obtain ⟨t, ht, rfl, hS3, bel⟩ := hrel
                have BE := Lib.hid bel
                have HS3 := Lib.hid hS3
                obtain ⟨v0, v1, _⟩ := KC.out wr bel
                have hdl := depTo_len cs lv T k 1 t
                have htn := HTL.out
                clear hS3
                by_cases htr : t < ns.length
                · have htT : (t : Int) < (T.length : Int) := by omega
                  obtain ⟨b1, o1, a0, c0, a1, c1, hat, hb1, _, e0, e1, r0, r1⟩ := (T1.out.below (Nat.le_refl _) bel).at_ iu (by omega)
                  obtain ⟨b2, o2, av0, cv0, av1, cv1, hav, hb2, _, f0, f1, q0, q1⟩ := (T1.out.below (Nat.le_refl _) bel).at_ iv (by omega)
                  have LU := (TR.out iu 1 hiun (by omega)).1
                  have LVV := (TR.out iv 1 hivn (by omega)).1
                  have PB := Lib.hid ((TR.out iv 1 hivn (by omega)).2 t htr)
                  have DT : Hid (depT cs lv T k 1 t = if ((phOf (T.getD iu row0) 1).getD t 0 == (k2 : Int)) && decide (0 ≤ (phOf (T.getD iv row0) 1).getD t 0) then [((k : Int), leavV cs ((phOf (T.getD iv row0) 1).getD t 0) (iv : Int), (iv : Int))] else []) := by
                    rw [Hid]; unfold depT rowAt; rw [EE1.out, EE2.out, Int.toNat_natCast, Int.toNat_natCast, HK2.out, AFV.out]
                  have DS := Lib.hid (depTo_succ cs lv T k 1 t)
                  have hsl : iu = iv → T.getD iu row0 = T.getD iv row0 := fun e => by rw [e]
                  generalize T.getD iu row0 = xu at *
                  generalize T.getD iv row0 = xv at *
                  clear hsl
                  obtain ⟨l0, l1⟩ := xu
                  obtain ⟨m0, m1⟩ := xv
                  simp only [phOf, if_true, Nat.one_ne_zero, if_false] at LU LVV PB DT
                  simp only at e0 e1 r0 r1 f0 f1 q0 q1
                  obtain ⟨b3, o3, ha3, hb3, _, g3⟩ := int_at r1 t (by omega)
                  obtain ⟨b4, o4, ha4, hb4, _, g4⟩ := int_at q1 t (by omega)
                  rw [hat] at hav
                  injection hav with hav
                  injection hav with hav1 hav2
                  subst hav1
                  subst hav2
                  subst hat
                  subst ha3
                  subst ha4
                  generalize l1.getD t 0 = y at *
                  generalize m1.getD t 0 = z at *
                  have z1 : (t : Int) < ((l1.length : Nat) : Int) := by omega
                  have z2 : (t : Int) < ((m1.length : Nat) : Int) := by omega
                  have nu1' : (iu : Int) < (T.length : Int) := by omega
                  have nv1' : (iv : Int) < (T.length : Int) := by omega
                  have hc2 := HC2.out
                  have LUT : l1.length = ns.length := LU
                  clear bel r0 r1 q0 q1 LU LVV LUT htn
                  cases hb : ((y == (k2 : Int)) && decide (0 ≤ z)) with
                  | false =>
                    have R : Hid (RelF3 cs lv T ns.length k 1 pre1 w1 u7 (.int .i64 ((t + 1 : Nat) : Int)) wr) := by
                      rw [hb] at DT
                      simp only [Bool.false_eq_true, if_false] at DT
                      exact ⟨t + 1, by omega, rfl, by rw [DS.out, DT.out, List.append_nil]; exact HS3.out, BE.out⟩
                    clear DS DT HS3
                    cases hy : y == (k2 : Int) with
                    | false =>
                      clear hb
                      go_wp2_with fail
                      exact ⟨by simpa using R.out, by simp [RowKit.intOf]; omega⟩
                    | true =>
                      have hz : decide (0 ≤ z) = false := by rw [hy] at hb; simpa using hb
                      have hz' : z < 0 := by simpa using hz
                      clear hb
                      go_wp2_with fail
                      exact ⟨by simpa using R.out, by simp [RowKit.intOf]; omega⟩
                  | true =>
                    have hy : (y == (k2 : Int)) = true := by rw [Bool.and_eq_true] at hb; exact hb.1
                    have hz : decide (0 ≤ z) = true := by rw [Bool.and_eq_true] at hb; exact hb.2
                    have hz0 : 0 ≤ z := of_decide_eq_true hz
                    have hzc := perm_lt PB.out hz0
                    rw [hb] at DT
                    simp only [if_true] at DT
                    obtain ⟨zk, hzk⟩ : ∃ zk : Nat, z = zk := ⟨z.toNat, by omega⟩
                    subst hzk
                    have FL := from_leav (cs := cs) hz0 hzc c32 (iv : Int)
                    rw [Int.toNat_natCast] at FL
                    have hc1 := Lib.hid (from20_any cs An Ac ns.length cn cc zk (iv : Int) wr.drew (by omega) ((H1.out.2).below (Nat.le_refl _) (BE.out.drew)) (by omega))
                    rw [FL] at hc1
                    have LI := Lib.hid (insA_append (pre1 ++ depTo cs lv T k 1 t) [((k : Int), leavV cs (zk : Int) (iv : Int), (iv : Int))])
                    have hil := insA_len (pre1 ++ depTo cs lv T k 1 t)
                    rw [List.length_append] at hil
                    generalize leavV cs (zk : Int) (iv : Int) = q at *
                    obtain ⟨vA, vC, hvA, hvc, hvn, hvr⟩ := HS3.out
                    have VR := Lib.hid hvr
                    have VC := Lib.hid hvc
                    have VN := Lib.hid hvn
                    have NXT : Hid (∀ v W, Lst W v (insL (insA (pre1 ++ depTo cs lv T k 1 t)) ((k : Int), q, (iv : Int))) → Below w1.heap.size w1 W → RelF3 cs lv T ns.length k 1 pre1 w1 v (.int .i64 ((t + 1 : Nat) : Int)) W) := fun v W h1 h2 =>
                      ⟨t + 1, by omega, rfl, by rw [DS.out, DT.out, ← List.append_assoc, LI.out]; exact h1, h2⟩
                    have hin : ∀ W, Below wr.heap.size wr W → Hid (Calls Try.prog 44 #[.slice vA (insA (pre1 ++ depTo cs lv T k 1 t)).length vC, .agg #[.int .i64 (k : Int), .int .i64 q, .int .i64 (iv : Int)]] W (DPost (insL (insA (pre1 ++ depTo cs lv T k 1 t)) ((k : Int), q, (iv : Int))) W)) := fun W hW =>
                      insert20_any (insA (pre1 ++ depTo cs lv T k 1 t)) ((k : Int), q, (iv : Int)) vA vC W (by omega) VC.out VN.out (VR.out.below (Nat.le_refl _) hW)
                    have HIN := Lib.hid hin
                    generalize insA (pre1 ++ depTo cs lv T k 1 t) = L at *
                    subst hvA
                    have KS : Hid (∀ W, Below wr.heap.size wr W → W.cell? ⟨w.heap.size, 0, none⟩ = some (.slice An ns.length cn) ∧ W.cell? ⟨w.heap.size, 1, none⟩ = some (.slice Ac cs.length cc) ∧ W.cell? ⟨b1, o1 + iv * 2 + 1, none⟩ = some (.slice (some ⟨b4, o4, none⟩) m1.length cv1) ∧ W.cell? ⟨b4, o4 + t, none⟩ = some (.int .i64 (zk : Int))) := fun W hW =>
                      ⟨(hW.cell (by have := BE.out.size; show w.heap.size < _; omega)).trans v0, (hW.cell (by have := BE.out.size; show w.heap.size < _; omega)).trans v1, (hW.cell (by exact hb1)).trans f1, (hW.cell (by exact hb4)).trans g4⟩
                    clear hb hin DS DT LI HS3 hvr hvc hvn PB FL
                    go_wp2_with fail
                    go_region_held3 (fun W => W.cell? ⟨w.heap.size, 0, none⟩ = some (.slice An ns.length cn) ∧ W.cell? ⟨w.heap.size, 1, none⟩ = some (.slice Ac cs.length cc) ∧ W.cell? ⟨b1, o1 + iv * 2 + 1, none⟩ = some (.slice (some ⟨b4, o4, none⟩) m1.length cv1) ∧ W.cell? ⟨b4, o4 + t, none⟩ = some (.int .i64 (zk : Int)))
                      (first | exact KS.out _ ((Below.refl _ _).drew) | exact KX.out | exact KY.out)
                      (first
                        | (go_at_call 63; refine hc1.out.mono ?_; rintro e w8 ⟨rfl, bel8⟩; have B8 : Hid (Below wr.heap.size wr w8) := ((Below.refl _ _).drew).trans bel8; clear bel8; have KX := Lib.hid (KS.out w8 B8.out))
                        | (go_at_call 44; refine (HIN.out w8 B8.out).out.mono ?_; rintro e w9 ⟨a9, c9, rfl, p1, p2, p3, bel9⟩; have B9 : Hid (Below wr.heap.size wr w9) := B8.out.trans (bel9.mono B8.out.size); have KY := Lib.hid (KS.out w9 B9.out); have R : Hid (RelF3 cs lv T ns.length k 1 pre1 w1 (.slice a9 (insL L ((k : Int), q, (iv : Int))).length c9) (.int .i64 ((t + 1 : Nat) : Int)) w9) := NXT.out _ w9 ⟨a9, c9, rfl, p1, p2, p3⟩ (BE.out.trans (B9.out.mono BE.out.size)); clear bel9 p1 p2 p3))
                    all_goals
                      clear e0 e1 f0 f1 g3 g4 v0 v1 KX KY
                      go_wp2_with fail
                      exact ⟨by simpa using R.out, by simp [RowKit.intOf]; omega⟩
                · have htn2 : t = ns.length := by omega
                  have R := Lib.hid (RNX.out u7 wr (htn2 ▸ HS3.out) bel)
                  have hnl : ¬ ((t : Int) < ((T.length : Nat) : Int)) := by omega
                  clear bel htn2 HS3 htn
                  go_wp2_with fail
                  exact ⟨by simpa using R.out, by simp [RowKit.intOf]⟩
            · simp only [show (2 : Nat) ≠ 0 from by decide, if_false, if_true] at hSJ
              have R := Lib.hid (FIN.out _ wr hSJ belJ)
              clear hSJ belJ
              go_wp2_with fail
              exact ⟨by simpa using R.out, by simp [RowKit.intOf]; omega⟩
    · obtain rfl : k = 2 * cs.length := by omega
      have F : Hid (Lst wr u7 (depsD ⟨ns, cs⟩ lv T)) := by
        have := HS.out
        unfold insA at this
        rw [ins_sorted] at this
        exact this
      clear bel HS
      go_wp2_with fail
      go_ret
      exact ⟨_, rfl, F.out, BF.out⟩
end Go.Proofs.Ytlhblaemoejefaa
