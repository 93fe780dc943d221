/- The walk of the law LocalBack: it returns true. -/
import Derived.Test.YtljojgpjgjfddaaLBackP
namespace Go.Proofs.Ytljojgpjgjfddaa.localBackW
open Go.RowKit Go.Maps
set_option linter.unusedVariables false
set_option linter.unusedSimpArgs false

def SrtPost (D0 : List Dp) (w0 : World) (B n cap : Nat) (a : Option Addr) (e : Ending) (w' : World) : Prop := e = .returned (.tuple #[]) ∧ ∃ S, SrtK kN S ∧ Stb kN D0 S ∧ S.length = n ∧ IsRec 3 Go.Proofs.Ytljojgpjgjfddaa.cD d0 w' a n S ∧ Below B w0 w'
set_option maxRecDepth 100000 in
set_option maxHeartbeats 4000000 in
theorem walk (An Ac : Option Addr) (cn cc : Nat) (p : Pl) (Ad : Option Addr) (cd : Nat) (ds : List Dp) (Ar : Option Addr) (cr : Nat) (r : List Int) (w : World)
    (hp : IsPlan w An Ac p) (hwf : WfP p) (hd : IsRec 3 Go.Proofs.Ytljojgpjgjfddaa.cD d0 w Ad ds.length ds) (hwd : WfD ds) (hr : IsRec 1 cI 0 w Ar r.length r) (hwr : WfI r) :
    Calls Try.prog 4 #[.agg #[.slice An p.ns.length cn, .slice Ac p.cs.length cc], .slice Ad ds.length cd, .slice Ar r.length cr] w fun e w' => e = .returned (.bool true) ∧ Below w.heap.size w w' := by
  obtain ⟨ns, cs⟩ := p
  simp only
  have HW := Lib.hid hwf
  have HWD := Lib.hid hwd
  have HWR := Lib.hid hwr
  obtain ⟨w1, hw1⟩ : ∃ w1 : World, w.alloc (.cells #[.slice An ns.length cn, .slice Ac cs.length cc] 25) = w1 := ⟨_, rfl⟩
  have s0 : w1.cell? ⟨w.heap.size, 0, none⟩ = some (.slice An ns.length cn) := by rw [← hw1]; simp [go_sem]
  have s1 : w1.cell? ⟨w.heap.size, 1, none⟩ = some (.slice Ac cs.length cc) := by rw [← hw1]; simp [go_sem]
  have sz1 : w.heap.size < w1.heap.size := by rw [← hw1]; simp
  have BW0 : Below w.heap.size w w1 := by rw [← hw1]; exact (Below.refl _ _).alloc (Nat.le_refl _) _
  have H1 := Lib.hid (hp.below (Nat.le_refl _) BW0)
  have D1 := Lib.hid (hd.below (Nat.le_refl _) BW0)
  have R1 := Lib.hid (hr.below (Nat.le_refl _) BW0)
  have HW1 := Lib.hid hw1
  have KC : Hid (∀ w', Below w1.heap.size w1 w' → w'.cell? ⟨w.heap.size, 0, none⟩ = some (.slice An ns.length cn) ∧ w'.cell? ⟨w.heap.size, 1, none⟩ = some (.slice Ac cs.length cc) ∧ w.heap.size < w'.heap.size ∧ Below w.heap.size w w') :=
    fun w' hb => ⟨(hb.cell (by exact sz1)).trans s0, (hb.cell (by exact sz1)).trans s1, by have := hb.size; omega, BW0.trans (hb.mono (by omega))⟩
  clear hp hd hr hw1 hwf hwd hwr BW0
  go_enter Try.func4, Try.ntmps4
  go_wp2_with fail
  rw [HW1.out]
  refine (awake_any _).mono ?_
  rintro e w2 ⟨rfl, bel2⟩
  have B2 := Lib.hid bel2
  clear bel2 s0 s1
  obtain ⟨u0, u1, sz2, bw2⟩ := KC.out w2 B2.out
  cases hg : greatB ns.length cs.length ds.length with
  | true =>
    have HG := Lib.hid hg
    have BF := Lib.hid (bw2.alloc (by omega) (.cells #[.slice An ns.length cn, .slice Ac cs.length cc] 25))
    clear hg bw2
    go_wp2_with fail
    refine (great_any An Ac Ad ns.length cs.length ds.length cn cc cd _ _ HG.out).mono ?_
    rintro e w3 ⟨rfl, rfl⟩
    go_wp2_with fail
    go_ret
    exact ⟨rfl, BF.out⟩
  | false =>
    have HG := Lib.hid hg
    have hgb : ns.length ≤ 20 ∧ cs.length ≤ 40 ∧ ds.length ≤ 100 := by simp [greatB] at hg; omega
    obtain ⟨g1, g2, g3⟩ := hgb
    have BF := Lib.hid (bw2.alloc (by omega) (.cells #[.slice An ns.length cn, .slice Ac cs.length cc] 25))
    have B3 := Lib.hid (B2.out.alloc B2.out.size (.cells #[.slice An ns.length cn, .slice Ac cs.length cc] 25))
    clear hg bw2
    by_cases hr1 : 100 < r.length
    · have q1 : decide (100 < (r.length : Int)) = true := decide_eq_true (by omega)
      go_wp2_with fail
      refine (great_any An Ac Ad ns.length cs.length ds.length cn cc cd _ _ HG.out).mono ?_
      rintro e w3 ⟨rfl, rfl⟩
      go_wp2_with fail
      go_ret
      exact ⟨rfl, BF.out⟩
    have q1 : decide (100 < (r.length : Int)) = false := decide_eq_false (by omega)
    go_wp2_with fail
    refine (great_any An Ac Ad ns.length cs.length ds.length cn cc cd _ _ HG.out).mono ?_
    rintro e w3 ⟨rfl, hw3⟩
    have B3' : Below w1.heap.size w1 w3 := by rw [← hw3]; exact B3.out
    have BB3 := Lib.hid B3'
    clear u0 u1 hw3 B3' B3 BF
    obtain ⟨u0, u1, sz3, bw3⟩ := KC.out w3 BB3.out
    have H3 := Lib.hid (H1.out.below (Nat.le_refl _) BB3.out)
    have D3 := Lib.hid (D1.out.below (Nat.le_refl _) BB3.out)
    have R3 := Lib.hid (R1.out.below (Nat.le_refl _) BB3.out)
    clear bw3
    go_wp2_with fail
    refine (split_any ⟨ns, cs⟩ An Ac Ad Ar cn cc cd cr ds r _ (by show ns.length ≤ _; omega) (by show cs.length ≤ _; omega) HW.out (by omega) (by omega) HWD.out HWR.out H3.out D3.out R3.out).mono ?_
    rintro e w4 ⟨bel4, hcase⟩
    have B4 := Lib.hid (BB3.out.trans (bel4.mono BB3.out.size))
    clear u0 u1
    obtain ⟨u0, u1, sz4, bw4⟩ := KC.out w4 B4.out
    have BW4 := Lib.hid bw4
    clear bw4
    rcases hcase with ⟨hne, rfl⟩ | ⟨he0, g, dv, mb, rfl, hok⟩
    · have q2 : (splitErr ⟨ns, cs⟩ ds r != 0) = true := by simpa using hne
      generalize splitErr ⟨ns, cs⟩ ds r = er at *
      clear hne bel4
      go_wp2_with fail
      go_ret
      exact ⟨rfl, BW4.out⟩
    · have HE0 := Lib.hid he0
      obtain ⟨hv, hrl, _⟩ := split0_inv he0
      simp only at hrl
      have PTS : Hid (IsParts w4 (some ⟨g, 0, none⟩) ns.length (splitL ⟨ns, cs⟩ ds r)) := by
        have := parts_of_rec hok.recQ hok.okQ
        rw [splitQ_pts] at this
        exact this
      have HV := Lib.hid hv
      have HRL := Lib.hid hrl
      have SLL : Hid ((splitL ⟨ns, cs⟩ ds r).length = ns.length) := splitL_length _ _ _
      have SML : Hid (smallMaps (splitL ⟨ns, cs⟩ ds r)) := small_split ⟨ns, cs⟩ ds r (by show cs.length ≤ _; omega)
      have AS : Hid (arrL ns.length (splitL ⟨ns, cs⟩ ds r) = splitL ⟨ns, cs⟩ ds r) := arr_split ⟨ns, cs⟩ ds r
      have AE : Hid (agreeErr ⟨ns, cs⟩ (splitL ⟨ns, cs⟩ ds r) = 0) := agree_split ⟨ns, cs⟩ ds r hv
      have SMD : Hid (SmN ds) := fun x hx => by have := back_nodes he0 x hx; unfold kN at this; simp only at this; omega
      have WANT : Hid (∀ S, SrtK kN S → Stb kN ds S → S = joinD (splitL ⟨ns, cs⟩ ds r)) := fun S h1 h2 => back_want he0 h1 h2
      have RK : Hid (∀ c : Nat, c < 2 * cs.length → joinRk (splitL ⟨ns, cs⟩ ds r) (c : Int) = r.getD c 0) := fun c hc => back_rank he0 hc
      have JL : Hid ((joinD (splitL ⟨ns, cs⟩ ds r)).length = ds.length) := by rw [Hid, back_joinD]; exact (byKey_stb (back_nodes he0)).length
      have AC : Hid (∀ w', Below w4.heap.size w4 w' → Calls Try.prog 25 #[.agg #[.slice An ns.length cn, .slice Ac cs.length cc], .slice (some ⟨g, 0, none⟩) ns.length ns.length] w' fun e w'' => e = .returned (.int .i64 0) ∧ Below w'.heap.size w' w'') := fun w' hb => by
        have h1 := agree_any ⟨ns, cs⟩ An Ac (some ⟨g, 0, none⟩) cn cc ns.length (splitL ⟨ns, cs⟩ ds r) w' (by show ns.length ≤ _; omega) (by show cs.length ≤ _; omega) HW.out (by rw [SLL.out]; omega) SML.out (H1.out.below (Nat.le_refl _) (B4.out.trans (hb.mono B4.out.size))) (by rw [SLL.out]; exact PTS.out.below (Nat.le_refl _) hb)
        rw [AE.out, SLL.out] at h1
        exact h1
      have JC : Hid (∀ w', Below w4.heap.size w4 w' → Calls Try.prog 14 #[.agg #[.slice An ns.length cn, .slice Ac cs.length cc], .slice (some ⟨g, 0, none⟩) ns.length ns.length] w' fun e w'' => Below w'.heap.size w' w'' ∧ ∃ v g', e = .returned (.tuple #[v, .slice (some ⟨g', 0, none⟩) (2 * cs.length) (2 * cs.length), .int .i64 0]) ∧ w''.ownsRow w'.heap.size 49 3 v (joinD (splitL ⟨ns, cs⟩ ds r)).length ((joinD (splitL ⟨ns, cs⟩ ds r)).flatMap Go.Proofs.Ytljojgpjgjfddaa.cD) ∧ IsRec 1 cI 0 w'' (some ⟨g', 0, none⟩) (2 * cs.length) r) := fun w' hb => by
        have h1 := join_any ⟨ns, cs⟩ An Ac (some ⟨g, 0, none⟩) cn cc ns.length (splitL ⟨ns, cs⟩ ds r) w' (by show ns.length ≤ _; omega) (by show cs.length ≤ _; omega) HW.out (by rw [SLL.out]; omega) SML.out (by show (joinD (arrL ns.length _)).length ≤ _; rw [AS.out, JL.out]; omega) (H1.out.below (Nat.le_refl _) (B4.out.trans (hb.mono B4.out.size))) (by rw [SLL.out]; exact PTS.out.below (Nat.le_refl _) hb)
        rw [SLL.out] at h1
        refine h1.mono ?_
        rintro e w'' ⟨hb2, ⟨hne, _⟩ | ⟨_, v, g', rfl, ho, _, hrb⟩⟩
        · exact absurd AE.out hne
        · simp only at ho hrb
          rw [AS.out] at ho hrb
          refine ⟨hb2, v, g', rfl, ho, hrb.isRec HRL.out fun i hi => ?_⟩
          rw [RK.out i hi]
          rfl
      generalize joinD (splitL ⟨ns, cs⟩ ds r) = J at *
      have RW : Hid (∀ w', Below w4.heap.size w4 w' → IsRec 1 cI 0 w' Ar r.length r) := fun w' hb => R1.out.below (Nat.le_refl _) (B4.out.trans (hb.mono B4.out.size))
      have KW : Hid (∀ w', Below w4.heap.size w4 w' → w'.cell? ⟨w.heap.size, 0, none⟩ = some (.slice An ns.length cn) ∧ w'.cell? ⟨w.heap.size, 1, none⟩ = some (.slice Ac cs.length cc) ∧ Below w.heap.size w w') := fun w' hb => by
        obtain ⟨a0, a1, _, a3⟩ := KC.out w' (B4.out.trans (hb.mono B4.out.size))
        exact ⟨a0, a1, a3⟩
      have CL := Lib.hid (cloneDO_any Ad cd ds w4 (by omega) (D1.out.below (Nat.le_refl _) B4.out))
      clear he0 hok bel4 hv hrl u0 u1
      go_wp2_with fail
      refine (show Calls _ _ _ _ _ from CL.out).mono ?_
      rintro e w5 ⟨v5, rfl, own5, bel5⟩
      obtain ⟨a5, c5, hv5, hc5, rec5, _⟩ := rec_of_own (d := d0) (c := Go.Proofs.Ytljojgpjgjfddaa.cD) (fun _ => rfl) (by decide) own5
      have B5 := Lib.hid bel5
      have SO : Hid (Calls Try.prog 21 #[.slice a5 ds.length c5, .func (.func 22) #[] #[]] w5 (SrtPost ds w4 w4.heap.size ds.length c5 a5)) := by
        rcases Nat.eq_zero_or_pos ds.length with hz | hz
        · have h1 := sort0_any a5 c5 w5
          unfold cmpV at h1
          rw [hz]
          refine h1.mono ?_
          rintro e w' ⟨rfl, rfl⟩
          have hnil : ds = [] := List.eq_nil_of_length_eq_zero hz
          subst hnil
          exact ⟨rfl, [], List.Pairwise.nil, Stb.refl _, rfl, rec5, B5.out⟩
        · obtain ⟨b5, q5, hv⟩ := ownsRow_posB hz own5
          rw [hv5] at hv
          injection hv with k1 k2 k3
          subst k1
          subst k3
          rw [hv5] at own5
          have h1 := sortS_any w4 w4.heap.size w4.heap.size b5 c5 ds.length ds w5 (by omega) SMD.out ⟨own5, B5.out, Nat.le_refl _⟩
          unfold cmpV at h1
          refine h1.mono ?_
          rintro e w' ⟨rfl, S, s1, s2, s3⟩
          obtain ⟨a6, c6, hv6, _, rec6, _⟩ := rec_of_own (d := d0) (c := Go.Proofs.Ytljojgpjgjfddaa.cD) (fun _ => rfl) (by decide) s3.own
          injection hv6 with k4 k5 k6
          subst k4
          exact ⟨rfl, S, s1, s2, s3.len, rec6, s3.bel⟩
      subst hv5
      clear own5 bel5 rec5 CL
      go_wp2_with fail
      refine (show Calls _ _ _ _ _ from SO.out).mono ?_
      rintro e w6 ⟨rfl, S, s1, s2, s3, s4, bel6⟩
      obtain rfl := WANT.out S s1 s2
      have B6 := Lib.hid bel6
      have RS := Lib.hid s4
      have SLN := Lib.hid s3
      clear bel6 s1 s2 s3 s4 SO
      obtain ⟨u0, u1, _⟩ := KW.out w6 B6.out
      go_wp2_with fail
      refine (JC.out w6 B6.out).mono ?_
      rintro e w7 ⟨bel7, v7, g7, rfl, own7, rec7⟩
      obtain ⟨a7, c7, hv7, _, recJ, _⟩ := rec_of_own (d := d0) (c := Go.Proofs.Ytljojgpjgjfddaa.cD) (fun _ => rfl) (by decide) own7
      subst hv7
      have B7 : Hid (Below w4.heap.size w4 w7) := B6.out.trans (bel7.mono B6.out.size)
      have E1 := eqD_any S S a7 a5 c7 c5 w7 (by have := SLN.out; omega) (by have := SLN.out; omega) recJ (by rw [SLN.out]; exact RS.out.below (Nat.le_refl _) bel7)
      have E2 : Hid (∀ w', Below w7.heap.size w7 w' → Calls Try.prog 24 #[.slice (some ⟨g7, 0, none⟩) (2 * cs.length) (2 * cs.length), .slice Ar r.length cr] w' fun e w'' => e = .returned (.bool true) ∧ Below w'.heap.size w' w'') := fun w' hb => by
        have h1 := eqR_any r r (some ⟨g7, 0, none⟩) Ar (2 * cs.length) cr w' (by omega) (by omega) (by have := rec7.below (Nat.le_refl _) hb; rw [HRL.out]; exact this) (RW.out w' (B7.out.trans (hb.mono B7.out.size)))
        have e1 : decide (r = r) = true := decide_eq_true rfl
        rw [e1] at h1
        have e2 : Value.slice (some ⟨g7, 0, none⟩) r.length (2 * cs.length) = .slice (some ⟨g7, 0, none⟩) (2 * cs.length) (2 * cs.length) := by rw [HRL.out]
        rw [e2] at h1
        exact h1
      have e1 : decide (S = S) = true := decide_eq_true rfl
      rw [e1] at E1
      have e2 : Value.slice a5 S.length c5 = .slice a5 ds.length c5 := by rw [SLN.out]
      rw [e2] at E1
      have EH := Lib.hid E1
      clear E1 e1 e2 own7 recJ rec7 bel7 u0 u1 JC
      go_wp2_with fail
      refine EH.out.mono ?_
      rintro e w8 ⟨rfl, bel8⟩
      have B78 := Lib.hid bel8
      clear bel8 EH
      go_wp2_with fail
      refine (E2.out w8 B78.out).mono ?_
      rintro e w9 ⟨rfl, bel9⟩
      have B9 : Hid (Below w4.heap.size w4 w9) := B7.out.trans ((B78.out.trans (bel9.mono B78.out.size)).mono B7.out.size)
      clear bel9 E2
      obtain ⟨u0, u1, _⟩ := KW.out w9 B9.out
      go_wp2_with fail
      refine (AC.out w9 B9.out).mono ?_
      rintro e wa ⟨rfl, bela⟩
      have BF := Lib.hid (KW.out wa (B9.out.trans (bela.mono B9.out.size))).2.2
      clear bela AC u0 u1
      go_wp2_with fail
      go_ret
      exact ⟨rfl, BF.out⟩
end Go.Proofs.Ytljojgpjgjfddaa.localBackW
