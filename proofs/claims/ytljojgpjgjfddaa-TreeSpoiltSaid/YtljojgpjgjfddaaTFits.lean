/- The contracts of the reference's other, Other and Fits at a valid plan. -/
import Derived.Test.YtljojgpjgjfddaaTCheck
namespace Go.Proofs.Ytljojgpjgjfddaa
open Go.RowKit Go.Maps
set_option linter.unusedVariables false
set_option linter.unusedSimpArgs false

def otherV (x : Cb) (n : Int) : Int := if x.a = n then x.b else if x.b = n then x.a else -1
set_option maxHeartbeats 1000000 in
theorem other17c_any (x : Cb) (n : Int) (w : World) :
    Calls Try.prog 100 #[.agg #[.int .i64 x.a, .int .i64 x.ap, .int .i64 x.b, .int .i64 x.bp, .int .i64 x.dl, .int .i64 x.cp], .int .i64 n] w fun e w' => e = .returned (.int .i64 (otherV x n)) ∧ Below w.heap.size w w' := by
  obtain ⟨xa, xap, xb, xbp, xdl, xcp⟩ := x
  simp only
  have B : Hid (Below w.heap.size w (w.alloc (.cells #[.int .i64 xa, .int .i64 xap, .int .i64 xb, .int .i64 xbp, .int .i64 xdl, .int .i64 xcp] 73))) := (Below.refl _ _).alloc (Nat.le_refl _) _
  cases h1 : xa == n with
  | true =>
    have F : Hid (otherV ⟨xa, xap, xb, xbp, xdl, xcp⟩ n = xb) := by rw [Hid]; unfold otherV; rw [if_pos (by simpa using h1)]
    go_enter Try.func100, Try.ntmps100
    go_wp2_with fail
    go_ret
    exact ⟨by rw [F.out]; rfl, B.out⟩
  | false =>
    cases h2 : xb == n with
    | true =>
      have F : Hid (otherV ⟨xa, xap, xb, xbp, xdl, xcp⟩ n = xa) := by rw [Hid]; unfold otherV; rw [if_neg (by simpa using h1), if_pos (by simpa using h2)]
      go_enter Try.func100, Try.ntmps100
      go_wp2_with fail
      go_ret
      exact ⟨by rw [F.out]; rfl, B.out⟩
    | false =>
      have F : Hid (otherV ⟨xa, xap, xb, xbp, xdl, xcp⟩ n = -1) := by rw [Hid]; unfold otherV; rw [if_neg (by simpa using h1), if_neg (by simpa using h2)]
      go_enter Try.func100, Try.ntmps100
      go_wp2_with fail
      go_ret
      exact ⟨by rw [F.out]; rfl, B.out⟩
set_option maxHeartbeats 1000000 in
theorem Other17_any (cs : List Cb) (An Ac : Option Addr) (ln cn cc k : Nat) (n : Int) (w : World) (hl : cs.length ≤ 1000000) (h : IsRec 6 cC cb0 w Ac cs.length cs) (hk : k < cs.length) :
    Calls Try.prog 66 #[.agg #[.slice An ln cn, .slice Ac cs.length cc], .int .i64 k, .int .i64 n] w fun e w' => e = .returned (.int .i64 (otherV (cs.getD k cb0) n)) ∧ Below w.heap.size w w' := by
  obtain ⟨bb, off, ha, hbb, hmem, c0, c1, c2, c3, c4, c5⟩ := cable_at (h.alloc (.cells #[.slice An ln cn, .slice Ac cs.length cc] 25)) k hk
  have k1 : (k : Int) < (cs.length : Int) := by omega
  have BW : Hid (Below w.heap.size w (w.alloc (.cells #[.slice An ln cn, .slice Ac cs.length cc] 25))) := (Below.refl _ _).alloc (Nat.le_refl _) _
  generalize cs.getD k cb0 = x at *
  subst ha
  have HC := Lib.hid (other17c_any x n (w.alloc (.cells #[.slice An ln cn, .slice (some ⟨bb, off, none⟩) cs.length cc] 25)))
  clear hmem h
  go_enter Try.func66, Try.ntmps66
  go_wp2_with fail
  refine HC.out.mono ?_
  rintro e w2 ⟨rfl, bel⟩
  have F := Lib.hid (BW.out.trans (bel.mono (by simp)))
  clear bel
  go_wp2_with fail
  go_ret
  exact ⟨rfl, F.out⟩
/-- Cable x leads from node i to a node one level up, as the reference asks it. -/
def flB (lv : List Int) (i : Nat) (x : Cb) : Bool := decide (0 ≤ otherV x (i : Int)) && (lvAt lv (otherV x (i : Int)) == lv.getD i 0 - 1)
def foundK (cs : List Cb) (lv : List Int) (k i : Nat) : Bool := decide (lv.getD i 0 < 1) || (cs.take k).any (flB lv i)
theorem foundK_zero (cs : List Cb) (lv : List Int) (i : Nat) : foundK cs lv 0 i = decide (lv.getD i 0 < 1) := by unfold foundK; simp
theorem foundK_succ (cs : List Cb) (lv : List Int) {k : Nat} (i : Nat) (h : k < cs.length) : foundK cs lv (k + 1) i = (foundK cs lv k i || flB lv i (cs.getD k cb0)) := by
  unfold foundK; rw [take_snocG cb0 cs k h, List.any_append]; simp [Bool.or_assoc]
theorem valid_abF {ns : List Nd} {cs : List Cb} (h : validP ⟨ns, cs⟩ = 0) : ∀ y ∈ cs, y.a ≠ y.b := by
  intro y hy
  have hp : (cs.all fun x => decide (x.a ≠ x.b)) = true := by
    cases hq : (cs.all fun x => decide (x.a ≠ x.b)) with
    | true => rfl
    | false =>
      unfold validP at h
      simp only [hq] at h
      split at h
      · cases h
      · split at h
        · cases h
        · split at h
          · cases h
          · split at h
            · cases h
            · cases h
  have := List.all_eq_true.1 hp y hy
  simpa using this
theorem fl_leads {ns : List Nd} {cs : List Cb} {lv : List Int} (hv : validP ⟨ns, cs⟩ = 0) {x : Cb} (hx : x ∈ cs) (i : Nat) : flB lv i x = leads lv i x := by
  have hab := valid_abF hv x hx
  obtain ⟨⟨a0, _⟩, b0, _⟩ := cab_node hv hx
  obtain ⟨xa, xap, xb, xbp, xd, xc⟩ := x
  simp only at hab a0 b0
  unfold flB leads otherV lvAt
  simp only
  by_cases h1 : xa = (i : Int)
  · subst h1
    rw [if_pos rfl, decide_eq_true b0]
    simp only [Bool.true_and, Int.toNat_natCast]
    have nb : ¬ xb = (i : Int) := fun e => hab e.symm
    have e1 : (xb == (i : Int)) = false := by simpa using nb
    rw [e1]
    by_cases q : lv.getD xb.toNat 0 = lv.getD i 0 - 1
    · rw [if_neg (by omega), if_pos q, beq_self_eq_true, beq_iff_eq]; exact q
    · rw [if_neg q, ite_self, beq_eq_false_iff_ne]; exact q
  · rw [if_neg h1]
    have e0 : (xa == (i : Int)) = false := by simpa using h1
    by_cases h2 : xb = (i : Int)
    · subst h2
      rw [if_pos rfl, decide_eq_true a0, e0]
      simp only [Bool.true_and, Int.toNat_natCast]
      by_cases q : lv.getD xa.toNat 0 = lv.getD i 0 - 1
      · rw [if_pos q, beq_self_eq_true, beq_iff_eq]; exact q
      · rw [if_neg q, ite_self, beq_eq_false_iff_ne]; exact q
    · rw [if_neg h2]
      have e3 : (xb == (i : Int)) = false := by simpa using h2
      rw [e0, e3]
      simp
theorem found_node {ns : List Nd} {cs : List Cb} {lv : List Int} (hv : validP ⟨ns, cs⟩ = 0) (i : Nat) : foundK cs lv cs.length i = nodeOk cs lv i := by
  unfold foundK nodeOk ledTo
  rw [List.take_length]
  have e : cs.any (flB lv i) = cs.any (leads lv i) := by
    rw [Bool.eq_iff_iff, List.any_eq_true, List.any_eq_true]
    constructor
    · rintro ⟨x, hx, h⟩; exact ⟨x, hx, by rw [← fl_leads hv hx]; exact h⟩
    · rintro ⟨x, hx, h⟩; exact ⟨x, hx, by rw [fl_leads hv hx]; exact h⟩
  rw [e]
  congr 1
  rw [Bool.eq_iff_iff]; simp; omega
theorem otherV_range {ns : List Nd} {cs : List Cb} (hv : validP ⟨ns, cs⟩ = 0) {x : Cb} (hx : x ∈ cs) (n : Int) : otherV x n = -1 ∨ ∃ m : Nat, otherV x n = m ∧ m < ns.length := by
  obtain ⟨⟨a0, a1⟩, b0, b1⟩ := cab_node hv hx
  unfold otherV
  split
  · exact .inr ⟨x.b.toNat, by omega, by omega⟩
  · split
    · exact .inr ⟨x.a.toNat, by omega, by omega⟩
    · exact .inl rfl
def RelF1 (cs : List Cb) (lv : List Int) (n : Nat) (w1 : World) (r i : Value) (wr : World) : Prop :=
  ∃ k : Nat, k ≤ lv.length ∧ i = .int .i64 k ∧ r = .int .i64 (((lv.take k).countP (· == 0) : Nat) : Int) ∧ (∀ x ∈ lv.take k, levelOk n x = true) ∧ (List.range k).all (nodeOk cs lv) = true ∧ Below w1.heap.size w1 wr
def RelF2 (cs : List Cb) (lv : List Int) (i : Nat) (w1 : World) (f j : Value) (wr : World) : Prop :=
  ∃ k : Nat, k ≤ cs.length ∧ j = .int .i64 k ∧ f = .bool (foundK cs lv k i) ∧ Below w1.heap.size w1 wr
set_option maxRecDepth 100000 in
set_option maxHeartbeats 4000000 in
theorem fits17_any (ns : List Nd) (cs : List Cb) (lv : List Int) (An Ac Al : Option Addr) (cn cc cl : Nat) (w : World) (hv : validP ⟨ns, cs⟩ = 0) (hlv : lv.length ≤ 1000000) (hwl : WfI lv) (h : IsPlan w An Ac ⟨ns, cs⟩) (h2 : IsRec 1 cI 0 w Al lv.length lv) :
    Calls Try.prog 62 #[.agg #[.slice An ns.length cn, .slice Ac cs.length cc], .slice Al lv.length cl] w fun e w' => e = .returned (.bool (orderB ⟨ns, cs⟩ lv)) ∧ Below w.heap.size w w' := by
  obtain ⟨n16, c32⟩ := valid_sizes hv
  obtain ⟨w1, hw1⟩ : ∃ w1 : World, w.alloc (.cells #[.slice An ns.length cn, .slice Ac cs.length cc] 25) = w1 := ⟨_, rfl⟩
  have s0 : w1.cell? ⟨w.heap.size, 0, none⟩ = some (.slice An ns.length cn) := by rw [← hw1]; simp [go_sem]
  have s1 : w1.cell? ⟨w.heap.size, 1, none⟩ = some (.slice Ac cs.length cc) := by rw [← hw1]; simp [go_sem]
  have sz1 : w.heap.size < w1.heap.size := by rw [← hw1]; simp
  have BW0 : Hid (Below w.heap.size w w1) := by rw [Hid, ← hw1]; exact (Below.refl _ _).alloc (Nat.le_refl _) _
  have H1 := Lib.hid (h.below (Nat.le_refl _) BW0.out)
  have L1 := Lib.hid (h2.below (Nat.le_refl _) BW0.out)
  have HW1 := Lib.hid hw1
  have HV := Lib.hid hv
  have HWL := Lib.hid hwl
  have KC : Hid (∀ w', Below w1.heap.size w1 w' → w'.cell? ⟨w.heap.size, 0, none⟩ = some (.slice An ns.length cn) ∧ w'.cell? ⟨w.heap.size, 1, none⟩ = some (.slice Ac cs.length cc) ∧ Below w.heap.size w w') :=
    fun w' hb => ⟨(hb.cell (by exact sz1)).trans s0, (hb.cell (by exact sz1)).trans s1, BW0.out.trans (hb.mono (by omega))⟩
  clear h h2 hw1 hv hwl
  by_cases hll : lv.length = ns.length
  · have q1 : ((lv.length : Int) != (ns.length : Int)) = false := by simp [hll]
    have HLL := Lib.hid hll
    have hn16 : lv.length ≤ 16 := by omega
    clear hll
    go_enter Try.func62, Try.ntmps62
    go_wp2_with fail
    rw [HW1.out]
    go_wp2_with fail
    clear q1
    go_loopw [5, 6] (fun r i wr => RelF1 cs lv ns.length w1 r i wr) (fun _ i _ => lv.length - (RowKit.intOf i).toNat)
    case atStart => exact ⟨0, Nat.zero_le _, rfl, rfl, by simp, rfl, Below.refl _ _⟩
    case round =>
      clear s0 s1
      obtain ⟨k, hk, rfl, rfl, hall, hno, bel⟩ := hrel
      have HA := Lib.hid hall
      have HN := Lib.hid hno
      have BE := Lib.hid bel
      have LR := Lib.hid (L1.out.below (Nat.le_refl _) bel)
      obtain ⟨s0, s1, bw⟩ := KC.out wr bel
      have BW := Lib.hid bw
      clear hall hno bel bw
      have hcl : (lv.take k).countP (· == 0) ≤ 16 := Nat.le_trans List.countP_le_length (by rw [List.length_take]; omega)
      by_cases hkr : k < lv.length
      · obtain ⟨b1, o1, ha1, hb1, hm1, e1⟩ := int_at LR.out k hkr
        have CS := Lib.hid (countP_snoc lv k hkr)
        have HS : Hid (levelOk ns.length (lv.getD k 0) = true → ∀ x ∈ lv.take (k + 1), levelOk ns.length x = true) := fun h => mem_take_snoc (d := 0) (P := fun x => levelOk ns.length x = true) hkr HA.out h
        have HB : Hid (levelOk ns.length (lv.getD k 0) = false → lv.all (levelOk ns.length) = false) := fun h => by rw [List.all_eq_false]; exact ⟨_, hm1, by rw [h]; simp⟩
        have AB : Hid (nodeOk cs lv k = false → (List.range lv.length).all (nodeOk cs lv) = false) := fun h => by rw [List.all_eq_false]; exact ⟨k, List.mem_range.2 hkr, by rw [h]; simp⟩
        have AS : Hid ((List.range (k + 1)).all (nodeOk cs lv) = ((List.range k).all (nodeOk cs lv) && nodeOk cs lv k)) := by rw [Hid, List.range_succ, List.all_append]; simp
        have F0 : Hid (foundK cs lv 0 k = decide (lv.getD k 0 < 1)) := foundK_zero cs lv k
        have FL : Hid (∀ x, flB lv k x = (decide (0 ≤ otherV x (k : Int)) && (lvAt lv (otherV x (k : Int)) == lv.getD k 0 - 1))) := fun x => rfl
        have FN := Lib.hid (found_node (lv := lv) HV.out k)
        have wfx := HWL.out _ hm1
        have EK : Hid (∀ w', Below w1.heap.size w1 w' → ∃ b off, Al = some ⟨b, off, none⟩ ∧ w'.cell? ⟨b, off + k, none⟩ = some (.int .i64 (lv.getD k 0))) := fun w' hb => by
          obtain ⟨b, o, ha, _, _, e⟩ := int_at (L1.out.below (Nat.le_refl _) hb) k hkr
          exact ⟨b, o, ha, e⟩
        have hlen := HLL.out
        have kl : (k : Int) < (lv.length : Int) := by omega
        generalize lv.getD k 0 = x at *
        subst ha1
        clear hm1
        generalize hcc : (lv.take k).countP (· == 0) = cnt at *
        have HCC := Lib.hid hcc
        clear hcc
        cases hlo : levelOk ns.length x with
        | false =>
          have FIN := Lib.hid (ob3 (p := ⟨ns, cs⟩) (lv := lv) (HB.out hlo))
          have hb : x < -1 ∨ (-1 ≤ x ∧ (lv.length : Int) ≤ x) := by
            simp [levelOk] at hlo
            rcases Int.lt_or_le x (-1) with h | h
            · exact .inl h
            · exact .inr ⟨h, by have := hlo h; omega⟩
          clear hlo HB HS CS AB AS F0 FL FN hlen
          rcases hb with h1 | ⟨h1, h2⟩
          all_goals
            go_wp2_with fail
            go_ret
            exact ⟨by rw [FIN.out]; rfl, BW.out⟩
        | true =>
          have hb : -1 ≤ x ∧ x < lv.length := by rw [hlen]; simpa [levelOk] using hlo
          obtain ⟨x1, x2⟩ := hb
          have HS2 := Lib.hid (HS.out hlo)
          obtain ⟨rv, hrv⟩ : ∃ rv : Int, rv = if x == 0 then (cnt : Int) + 1 else (cnt : Int) := ⟨_, rfl⟩
          have R : Hid (nodeOk cs lv k = true → ∀ w', Below w1.heap.size w1 w' → RelF1 cs lv ns.length w1 (.int .i64 rv) (.int .i64 ((k + 1 : Nat) : Int)) w') := fun hnk w' hb => by
            refine ⟨k + 1, by omega, rfl, ?_, HS2.out, by rw [AS.out, HN.out, hnk]; rfl, hb⟩
            rw [CS.out, hrv]
            split <;> simp
          have BAD : Hid (nodeOk cs lv k = false → orderB ⟨ns, cs⟩ lv = false) := fun h => ob5 (AB.out h)
          have xw : IntKind.i64.wrap (x - 1) = x - 1 := IntWalk.i64_in _ (by omega)
          clear hlo HB HS CS AB AS HCC hlen
          cases hz : x == 0
          all_goals
            rw [hz] at hrv
            simp only [if_true, Bool.false_eq_true, if_false] at hrv
            subst hrv
            go_wp2_with fail
            go_loopw [7, 8] (fun f j wq => RelF2 cs lv k w1 f j wq) (fun _ j _ => cs.length - (RowKit.intOf j).toNat)
            case atStart => exact ⟨0, Nat.zero_le _, rfl, by rw [F0.out], BE.out⟩
            case round =>
              clear s0 s1 e1
              obtain ⟨j, hj, rfl, rfl, belj⟩ := hrel
              have BJ := Lib.hid belj
              obtain ⟨s0, s1, bwj⟩ := KC.out _ belj
              have BWJ := Lib.hid bwj
              have CR := Lib.hid ((H1.out.below (Nat.le_refl _) belj).2)
              clear belj bwj
              by_cases hjr : j < cs.length
              · obtain ⟨bc, oc, hac, hbc, hmc, c0, c1, c2, c3, c4, c5⟩ := cable_at CR.out j hjr
                have FS := Lib.hid (foundK_succ cs lv k hjr)
                rcases otherV_range HV.out hmc (k : Int) with ho | ⟨m, ho, hmn⟩
                · have FX : Hid (flB lv k (cs.getD j cb0) = false) := by rw [Hid, FL.out, ho]; rfl
                  have FF : Hid (foundK cs lv (j + 1) k = foundK cs lv j k) := by rw [Hid, FS.out, FX.out, Bool.or_false]
                  have OC := Lib.hid (fun w' => other17c_any (cs.getD j cb0) (k : Int) w')
                  rw [ho] at OC
                  generalize cs.getD j cb0 = y at *
                  subst hac
                  have jl : (j : Int) < (cs.length : Int) := by omega
                  generalize foundK cs lv j k = fo at *
                  clear hmc FS FX
                  go_wp2_with fail
                  refine (OC.out _).mono ?_
                  rintro e w3 ⟨rfl, bel3⟩
                  have R2 : Hid (∀ q, RelF2 cs lv k w1 (.bool fo) (.int .i64 ((j + 1 : Nat) : Int)) (w3.drewN q)) := fun q => ⟨j + 1, by omega, rfl, by rw [FF.out], below_drewN (BJ.out.trans (bel3.mono BJ.out.size)) q⟩
                  clear bel3 c0 c1 c2 c3 c4 c5 s0 s1
                  go_wp2_with fail
                  go_quiet (fail)
                  go_wp2_with fail
                  exact ⟨by simpa using R2.out _, by simp [RowKit.intOf]; omega⟩
                · have FX : Hid (flB lv k (cs.getD j cb0) = (lv.getD m 0 == x - 1)) := by rw [Hid, FL.out, ho, decide_eq_true (by omega : (0 : Int) ≤ (m : Int))]; unfold lvAt; rw [Int.toNat_natCast]; rfl
                  have FF : Hid (foundK cs lv (j + 1) k = (foundK cs lv j k || (lv.getD m 0 == x - 1))) := by rw [Hid, FS.out, FX.out]
                  have OC := Lib.hid (fun w' => other17c_any (cs.getD j cb0) (k : Int) w')
                  rw [ho] at OC
                  generalize cs.getD j cb0 = y at *
                  subst hac
                  have jl : (j : Int) < (cs.length : Int) := by omega
                  generalize foundK cs lv j k = fo at *
                  clear hmc FS FX
                  go_wp2_with fail
                  refine (OC.out _).mono ?_
                  rintro e w3 ⟨rfl, bel3⟩
                  have B3 : Hid (Below w1.heap.size w1 w3) := BJ.out.trans (bel3.mono BJ.out.size)
                  obtain ⟨bm, om, ham, hbm, hmm, em⟩ := int_at (L1.out.below (Nat.le_refl _) B3.out) m (by have := HLL.out; omega)
                  obtain ⟨bk, ok, hak, ek⟩ := EK.out w3 B3.out
                  injection hak with hak
                  injection hak with hak1 hak2
                  subst hak1
                  subst hak2
                  injection ham with ham
                  injection ham with ham1 ham2
                  subst ham1
                  subst ham2
                  generalize lv.getD m 0 = z at *
                  have ml : (m : Int) < (lv.length : Int) := by have := HLL.out; omega
                  have m0 : (0 : Int) ≤ (m : Int) := by omega
                  clear hmm bel3 c0 c1 c2 c3 c4 c5 s0 s1 HW1
                  cases hq : z == x - 1
                  all_goals
                    rw [hq] at FF
                    have R2 : Hid (∀ q, RelF2 cs lv k w1 (.bool (foundK cs lv (j + 1) k)) (.int .i64 ((j + 1 : Nat) : Int)) (w3.drewN q)) := fun q => ⟨j + 1, by omega, rfl, rfl, below_drewN B3.out q⟩
                    rw [Hid, FF.out] at R2
                    clear FF
                    go_wp2_with fail
                    go_quiet (fail)
                    go_wp2_with fail
                    refine ⟨?_, by simp [RowKit.intOf]; omega⟩
                    simpa using R2 _
              · obtain rfl : j = cs.length := by omega
                rw [FN.out]
                clear CR
                cases hno : nodeOk cs lv k with
                | true =>
                  have R3 := Lib.hid (R.out hno _ BJ.out)
                  clear hno
                  go_wp2_with fail
                  exact ⟨by simpa using R3.out, by simp [RowKit.intOf]; omega⟩
                | false =>
                  have FIN := Lib.hid (BAD.out hno)
                  clear hno
                  go_wp2_with fail
                  go_ret
                  exact ⟨by rw [FIN.out]; rfl, BWJ.out⟩
      · obtain rfl : k = lv.length := by omega
        rw [List.take_length] at hcl ⊢
        have AL := Lib.hid (all_of_take HA.out)
        have FIN : Hid (orderB ⟨ns, cs⟩ lv = ((lv.countP (· == 0) : Int) == 1)) := by
          rw [Hid]
          by_cases q : lv.countP (· == 0) = 1
          · rw [ob0 HV.out HLL.out AL.out q HN.out, q]; rfl
          · rw [ob4 q]; symm; rw [beq_eq_false_iff_ne]; omega
        generalize lv.countP (· == 0) = cnt at *
        go_wp2_with fail
        go_ret
        exact ⟨by rw [FIN.out]; rfl, BW.out⟩
  · have q1 : ((lv.length : Int) != (ns.length : Int)) = true := by simp; omega
    have FIN : Hid (orderB ⟨ns, cs⟩ lv = false) := ob2 hll
    clear hll
    go_enter Try.func62, Try.ntmps62
    go_wp2_with fail
    rw [HW1.out]
    go_wp2_with fail
    go_ret
    exact ⟨by rw [FIN.out]; rfl, BW0.out⟩
end Go.Proofs.Ytljojgpjgjfddaa
