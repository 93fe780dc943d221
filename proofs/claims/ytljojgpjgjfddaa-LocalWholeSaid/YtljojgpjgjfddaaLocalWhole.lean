/- The walk of the law LocalWhole: it returns true. -/
import Derived.Test.YtljojgpjgjfddaaLWholeP
import Derived.Test.YtljojgpjgjfddaaLCert
import Derived.Test.YtljojgpjgjfddaaLCheck
namespace Go.Proofs.Ytljojgpjgjfddaa.localWholeW
open Go.RowKit Go.Maps Go.Sort Go.Shelf
set_option linter.unusedVariables false
set_option linter.unusedSimpArgs false

def Done (w : World) (e : Ending) (w' : World) : Prop := e = .returned (.bool true) ∧ Below w.heap.size w w'
def RelSzW (p : Pl) (xs : List Pt) (w3 : World) (i : Value) (wr : World) : Prop :=
  ∃ k : Nat, k ≤ xs.length ∧ i = .int .i64 k ∧ (∀ x ∈ xs.take k, (x.deps.length ≤ 100 ∧ x.ranks.length ≤ 100) ∧ checkErr p x = 0) ∧ Below w3.heap.size w3 wr

set_option maxRecDepth 100000 in
set_option maxHeartbeats 8000000 in
theorem walk (An Ac : Option Addr) (cn cc : Nat) (p : Pl) (Al : Option Addr) (cl : Nat) (xs : List Pt) (w : World)
    (hp : IsPlan w An Ac p) (hwf : WfP p) (hx : IsParts w Al xs.length xs) (hmx : xs.length ≤ maxLen) (hwd : ∀ x ∈ xs, WfD x.deps) :
    Calls Try.prog 3 #[.agg #[.slice An p.ns.length cn, .slice Ac p.cs.length cc], .slice Al xs.length cl] w (Done w) := by
  obtain ⟨ns, cs⟩ := p
  simp only
  have HW := Lib.hid hwf
  have HND := Lib.hid hx.nodup
  have HWD := Lib.hid hwd
  unfold maxLen at hmx
  obtain ⟨w1, hw1⟩ : ∃ w1 : World, w.alloc (.cells #[.slice An ns.length cn, .slice Ac cs.length cc] 25) = w1 := ⟨_, rfl⟩
  have s0 : w1.cell? ⟨w.heap.size, 0, none⟩ = some (.slice An ns.length cn) := by rw [← hw1]; simp [go_sem]
  have s1 : w1.cell? ⟨w.heap.size, 1, none⟩ = some (.slice Ac cs.length cc) := by rw [← hw1]; simp [go_sem]
  have sz1 : w.heap.size < w1.heap.size := by rw [← hw1]; simp
  have BW0 : Below w.heap.size w w1 := by rw [← hw1]; exact (Below.refl _ _).alloc (Nat.le_refl _) _
  have BW := Lib.hid BW0
  have H1 := Lib.hid (hp.below (Nat.le_refl _) BW0)
  have X1 := Lib.hid (hx.below (Nat.le_refl _) BW0)
  have HW1 := Lib.hid hw1
  have KC : Hid (∀ w', Below w1.heap.size w1 w' → w'.cell? ⟨w.heap.size, 0, none⟩ = some (.slice An ns.length cn) ∧ w'.cell? ⟨w.heap.size, 1, none⟩ = some (.slice Ac cs.length cc) ∧ w.heap.size < w'.heap.size ∧ Below w.heap.size w w') :=
    fun w' hb => ⟨(hb.cell (by exact sz1)).trans s0, (hb.cell (by exact sz1)).trans s1, by have := hb.size; omega, BW0.trans (hb.mono (by omega))⟩
  clear hp hx hw1 hwf hwd BW0
  obtain ⟨i0, hi0, hz0, hz1, hz2⟩ := info_parts infoDep
  go_enter Try.func3, Try.ntmps3
  go_wp2_with fail
  rw [HW1.out]
  refine (awake_any _).mono ?_
  rintro e w2 ⟨rfl, bel2⟩
  have B2 := Lib.hid bel2
  clear bel2 s0 s1
  obtain ⟨u0, u1, sz2, bw2⟩ := KC.out w2 B2.out
  clear bw2
  obtain ⟨w3, hw3⟩ : ∃ w3 : World, w2.alloc (.cells #[.slice An ns.length cn, .slice Ac cs.length cc] 25) = w3 := ⟨_, rfl⟩
  have B3 : Hid (Below w1.heap.size w1 w3) := by rw [Hid, ← hw3]; exact B2.out.alloc B2.out.size _
  have HW3 := Lib.hid hw3
  clear hw3
  cases hg : greatB ns.length cs.length 0 with
  | true =>
    have HG := Lib.hid hg
    clear hg
    go_wp2_with fail
    refine (great_any An Ac none ns.length cs.length 0 cn cc 0 _ _ HG.out).mono ?_
    rintro e w4 ⟨rfl, rfl⟩
    rw [HW3.out]
    obtain ⟨_, _, _, bw3⟩ := KC.out w3 B3.out
    have BF := Lib.hid bw3
    clear bw3
    go_wp2_with fail
    go_ret
    exact ⟨rfl, BF.out⟩
  | false =>
    have HG := Lib.hid hg
    have hgb : ns.length ≤ 20 ∧ cs.length ≤ 40 := by simp [greatB] at hg; omega
    obtain ⟨g1, g2⟩ := hgb
    clear hg
    go_wp2_with fail
    refine (great_any An Ac none ns.length cs.length 0 cn cc 0 _ _ HG.out).mono ?_
    rintro e w4 ⟨rfl, rfl⟩
    rw [HW3.out]
    clear HW3 u0 u1
    obtain ⟨u0, u1, sz3, bw3⟩ := KC.out w3 B3.out
    have BF3 := Lib.hid bw3
    clear bw3
    by_cases hx20 : 20 < xs.length
    · have q1 : decide (20 < (xs.length : Int)) = true := decide_eq_true (by omega)
      go_wp2_with fail
      go_ret
      exact ⟨rfl, BF3.out⟩
    have q1 : decide (20 < (xs.length : Int)) = false := decide_eq_false (by omega)
    have X3 := Lib.hid (X1.out.below (Nat.le_refl _) B3.out)
    have H3 := Lib.hid (H1.out.below (Nat.le_refl _) B3.out)
    have hx20' : xs.length ≤ 20 := by omega
    clear hx20
    go_wp2_with fail
    clear q1
    go_loopw [21] (fun i wr => RelSzW ⟨ns, cs⟩ xs w3 i wr) (fun i _ => xs.length - (RowKit.intOf i).toNat)
    case atStart => exact ⟨0, Nat.zero_le _, rfl, by simp, Below.refl _ _⟩
    case round =>
      clear u0 u1
      obtain ⟨k, hk, rfl, hall, bel⟩ := hrel
      have bs := bel.size
      have HA := Lib.hid hall
      clear hall
      have B4 := Lib.hid (B3.out.trans (bel.mono B3.out.size))
      obtain ⟨u0, u1, sz4, bw4⟩ := KC.out wr B4.out
      have BF4 := Lib.hid bw4
      clear bw4
      by_cases hkr : k < xs.length
      · obtain ⟨bb, off, ad, cd, m, ha, hbb, hmem, c0, c1, c2, rc, im⟩ := (X3.out.below (Nat.le_refl _) bel).at_ k hkr
        have HS : Hid ((xs.getD k pt0).deps.length ≤ 100 ∧ (xs.getD k pt0).ranks.length ≤ 100 → checkErr ⟨ns, cs⟩ (xs.getD k pt0) = 0 → ∀ x ∈ xs.take (k + 1), (x.deps.length ≤ 100 ∧ x.ranks.length ≤ 100) ∧ checkErr ⟨ns, cs⟩ x = 0) := fun h h2 => mem_take_snoc (d := pt0) (P := fun x : Pt => (x.deps.length ≤ 100 ∧ x.ranks.length ≤ 100) ∧ checkErr ⟨ns, cs⟩ x = 0) hkr HA.out ⟨h, h2⟩
        have wdx := HWD.out _ hmem
        have H4w := H3.out.below (Nat.le_refl _) bel
        generalize xs.getD k pt0 = x at *
        have HC : Hid (x.deps.length ≤ 100 → x.ranks.length ≤ 100 → Calls Try.prog 13 #[.agg #[.slice An ns.length cn, .slice Ac cs.length cc], .agg #[.int .i64 x.node, .slice ad x.deps.length cd, .map m]] (wr.alloc (.cells #[.int .i64 x.node, .slice ad x.deps.length cd, .map m] 32)) fun e w' => e = .returned (.int .i64 (checkErr ⟨ns, cs⟩ x)) ∧ Below (wr.alloc (.cells #[.int .i64 x.node, .slice ad x.deps.length cd, .map m] 32)).heap.size (wr.alloc (.cells #[.int .i64 x.node, .slice ad x.deps.length cd, .map m] 32)) w') := fun h1 h2 =>
          check_any ⟨ns, cs⟩ An Ac ad cn cc cd m x _ (by show ns.length ≤ _; omega) (by show cs.length ≤ _; omega) HW.out (by omega) (by omega) wdx (H4w.alloc _) (rc.alloc _) (im.below ((Below.refl wr.heap.size wr).alloc (Nat.le_refl _) _) (Nat.le_refl _))
        obtain ⟨ce, hce⟩ : ∃ ce, checkErr ⟨ns, cs⟩ x = ce := ⟨_, rfl⟩
        rw [hce] at HC HS
        clear hce wdx H4w
        generalize x.deps.length = xd at *
        generalize x.node = xn at *
        generalize x.ranks = E at *
        subst ha
        clear hmem rc
        have hml := fun ty => (im.below ((Below.refl wr.heap.size wr).alloc (Nat.le_refl _) (.cells #[.int .i64 xn, .slice ad xd cd, .map m] 32)) (Nat.le_refl _)).len (t := 30) Try.underlying30 ty
        have BA : Hid (Below w3.heap.size w3 (wr.alloc (.cells #[.int .i64 xn, .slice ad xd cd, .map m] 32))) := bel.alloc bs _
        have BF : Hid (Below w.heap.size w (wr.alloc (.cells #[.int .i64 xn, .slice ad xd cd, .map m] 32))) := BF4.out.alloc BF4.out.size _
        clear bel im
        by_cases hd : 100 < xd
        · have q1 : decide (100 < (xd : Int)) = true := decide_eq_true (by omega)
          clear HS HC
          go_wp2_with fail
          go_ret
          exact ⟨rfl, BF.out⟩
        · have q1 : decide (100 < (xd : Int)) = false := decide_eq_false (by omega)
          by_cases hr : 100 < E.length
          · have q2 : decide (100 < (E.length : Int)) = true := decide_eq_true (by omega)
            clear HS HC
            go_wp2_with fail
            go_ret
            exact ⟨rfl, BF.out⟩
          · have q2 : decide (100 < (E.length : Int)) = false := decide_eq_false (by omega)
            have HCC := Lib.hid (HC.out (by omega) (by omega))
            have HSS := Lib.hid (HS.out ⟨by omega, by omega⟩)
            clear HC HS hd hr
            go_wp2_with fail
            refine HCC.out.mono ?_
            rintro e w5 ⟨rfl, bel5⟩
            have B5 : Hid (Below w3.heap.size w3 w5) := BA.out.trans (bel5.mono BA.out.size)
            have BF5 : Hid (Below w.heap.size w w5) := BF.out.trans (bel5.mono BF.out.size)
            clear bel5 HCC
            by_cases hce : ce = 0
            · have R : Hid (RelSzW ⟨ns, cs⟩ xs w3 (.int .i64 ((k + 1 : Nat) : Int)) w5) := ⟨k + 1, by omega, rfl, HSS.out hce, B5.out⟩
              subst hce
              clear HSS c0 c1 c2 hml
              go_wp2_with fail
              exact ⟨by simpa using R.out, by simp [RowKit.intOf]; omega⟩
            · have hcb : (ce != 0) = true := by simpa using hce
              clear HSS c0 c1 c2 hml hce
              go_wp2_with fail
              go_ret
              exact ⟨rfl, BF5.out⟩
      · obtain rfl : k = xs.length := by omega
        have HSA : Hid (∀ x ∈ xs, (x.deps.length ≤ 100 ∧ x.ranks.length ≤ 100) ∧ checkErr ⟨ns, cs⟩ x = 0) := by have := HA.out; rw [List.take_length] at this; exact this
        have HSM : Hid (smallMaps xs) := fun x hx => by have := (HSA.out x hx).1.2; omega
        have HJD : Hid ((joinD (arrL ns.length xs)).length ≤ 2000) := by have := joinD_small (n := ns.length) (xs := xs) fun x hx => (HSA.out x hx).1.1; rw [Hid]; omega
        have X4 := Lib.hid (X3.out.below (Nat.le_refl _) bel)
        have H4 := Lib.hid (H3.out.below (Nat.le_refl _) bel)
        obtain ⟨w4, rfl⟩ : ∃ w4 : World, w4 = wr := ⟨_, rfl⟩
        clear HA bel bs
        go_wp2_with fail
        refine (join_any ⟨ns, cs⟩ An Ac Al cn cc cl xs _ (by simp only; omega) (by simp only; omega) HW.out (by omega) HSM.out (by have := HJD.out; simp only; omega) H4.out X4.out).mono ?_
        rintro e w6 ⟨bel6, hcase⟩
        have B6 := Lib.hid (B4.out.trans (bel6.mono B4.out.size))
        clear bel6 u0 u1
        obtain ⟨_, _, _, bw6⟩ := KC.out w6 B6.out
        have BF6 := Lib.hid bw6
        clear bw6
        rcases hcase with ⟨hne, rfl⟩ | ⟨he, v, g, rfl, own, hg5, rb⟩
        · have hne' : (agreeErr ⟨ns, cs⟩ xs != 0) = true := by simpa using hne
          clear hne
          generalize agreeErr ⟨ns, cs⟩ xs = er at *
          go_wp2_with fail
          go_ret
          exact ⟨rfl, BF6.out⟩
        · have HE := Lib.hid he
          have WH := Lib.hid (fun (d : Dp) hd => whole_dep he HND.out (fun x hx => (HSA.out x hx).2) (d := d) hd)
          have WA := Lib.hid (whole_acy he HND.out (fun x hx => (HSA.out x hx).2))
          have WC := Lib.hid (whole_cyc he HND.out (fun x hx => (HSA.out x hx).2))
          have WD : Hid (WfD (joinD (arrL ns.length xs))) := fun d hd => by
            obtain ⟨x, hx, hdx⟩ := joinD_mem hd
            exact HWD.out x hx d hdx
          simp only at own rb
          obtain ⟨pa, pc, hv7, _, r7, _⟩ := rec_of_own (d := d0) (c := cD) (fun _ => rfl) (by decide) own
          subst hv7
          have R7 := Lib.hid r7
          have hjr : (joinR (2 * cs.length) (arrL ns.length xs)).length = 2 * cs.length := by simp [joinR]
          have RR : Hid (IsRec 1 cI 0 w6 (some ⟨g, 0, none⟩) (2 * cs.length) (joinR (2 * cs.length) (arrL ns.length xs))) := rb.isRec hjr (fun i hi => by simp [joinR, cI, List.getD, hi])
          have OK : Hid (∀ d ∈ joinD (arrL ns.length xs), (0 ≤ d.1 ∧ d.1 < (joinR (2 * cs.length) (arrL ns.length xs)).length) ∧ (0 ≤ d.2.1 ∧ d.2.1 < (joinR (2 * cs.length) (arrL ns.length xs)).length) ∧ (joinR (2 * cs.length) (arrL ns.length xs)).getD d.1.toNat 0 < (joinR (2 * cs.length) (arrL ns.length xs)).getD d.2.1.toNat 0) := fun d hd => by
            obtain ⟨f0, f1, t0, t1, hlt⟩ := WH.out d hd
            simp only at f1 t1 hlt
            have gt : ∀ c : Int, 0 ≤ c → c < 2 * cs.length → (joinR (2 * cs.length) (arrL ns.length xs)).getD c.toNat 0 = joinRk (arrL ns.length xs) c := fun c h0 h1 => by
              have hc : c.toNat < 2 * cs.length := by omega
              have e : ((c.toNat : Nat) : Int) = c := by omega
              simp [joinR, List.getD, hc, e]
            rw [hjr, gt _ f0 f1, gt _ t0 t1]
            exact ⟨⟨f0, by omega⟩, ⟨t0, by omega⟩, hlt⟩
          have hdl := HJD.out
          try rw [he]
          have HJR := Lib.hid hjr
          clear he own rb r7 hjr
          obtain ⟨rs, hrs⟩ : ∃ rs, joinR (2 * cs.length) (arrL ns.length xs) = rs := ⟨_, rfl⟩
          rw [hrs] at RR OK HJR
          rw [← HJR.out] at RR
          clear hrs
          simp only at WA WC
          obtain ⟨D, hDD⟩ : ∃ D, joinD (arrL ns.length xs) = D := ⟨_, rfl⟩
          rw [hDD] at WA WC WD R7 OK hdl
          rw [hDD]
          have HPL := Lib.hid (plain_any D pa pc w6 (by omega) R7.out)
          have hdl2 : ¬ (2000 : Int) < (D.length : Int) := by omega
          clear hDD WH HJD
          go_wp2_with fail
          refine HPL.out.mono ?_
          rintro e w7 ⟨v7, rfl, own7, bel7⟩
          obtain ⟨qa, qc, hv8, _, r8, _⟩ := rec_of_own (d := d0) (c := cD) (fun _ => rfl) (by decide) own7
          subst hv8
          have BF7 : Hid (Below w.heap.size w w7) := BF6.out.trans (bel7.mono BF6.out.size)
          have R77 := Lib.hid (R7.out.below (Nat.le_refl _) bel7)
          have RR7 := Lib.hid (RR.out.below (Nat.le_refl _) bel7)
          have HA := acyclic22_any D qa qc w7 (by omega) r8
          rw [WA.out.2] at HA
          have HAA := Lib.hid HA
          clear bel7 HPL own7 r8 HA
          go_wp2_with fail
          refine HAA.out.mono ?_
          rintro e w8 ⟨rfl, bel8⟩
          have BF8 : Hid (Below w.heap.size w w8) := BF7.out.trans (bel8.mono BF7.out.size)
          have R78 := Lib.hid (R77.out.below (Nat.le_refl _) bel8)
          have HC := certCheck_any D rs pa (some ⟨g, 0, none⟩) pc (2 * cs.length) w8 (by omega) (by rw [HJR.out]; omega) R78.out (RR7.out.below (Nat.le_refl _) bel8) OK.out
          rw [HJR.out] at HC
          have HCC := Lib.hid HC
          clear bel8 HAA HC
          go_wp2_with fail
          refine HCC.out.mono ?_
          rintro e w9 ⟨rfl, bel9⟩
          have BF9 : Hid (Below w.heap.size w w9) := BF8.out.trans (bel9.mono BF8.out.size)
          have HY := cycle_any D pa pc w9 (by omega) WD.out (R78.out.below (Nat.le_refl _) bel9)
          rw [WC.out] at HY
          have HYY := Lib.hid HY
          clear bel9 HCC HY
          go_wp2_with fail
          refine HYY.out.mono ?_
          rintro e w10 ⟨v10, rfl, own10, bel10⟩
          obtain ⟨ra, rc', hv10, _⟩ := rec_of_own (d := (0 : Int)) cI_length (by decide) own10
          subst hv10
          have F : Hid (Below w.heap.size w w10) := BF9.out.trans (bel10.mono BF9.out.size)
          clear own10 bel10 HYY
          go_wp2_with fail
          go_ret
          exact ⟨rfl, F.out⟩
end Go.Proofs.Ytljojgpjgjfddaa.localWholeW
