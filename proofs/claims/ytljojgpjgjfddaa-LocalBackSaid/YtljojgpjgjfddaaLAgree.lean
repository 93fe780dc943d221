/- The contracts of local.agree and local.Agree. -/
import Derived.Test.YtljojgpjgjfddaaLArr
namespace Go.Proofs.Ytljojgpjgjfddaa
open Go.RowKit Go.Maps
set_option linter.unusedVariables false

/-- maps.Keys hands back a function over a new box. -/
def KeysPost (m : Option Nat) (w : World) (e : Ending) (w' : World) : Prop :=
  ∃ B, e = .returned (.func (.func 124) #[] #[.pointer (some ⟨B, 0, none⟩)]) ∧ w.heap.size ≤ B ∧ B < w'.heap.size ∧ w'.cell? ⟨B, 0, none⟩ = some (.map m) ∧ Below w.heap.size w w'
theorem keys_any2 (m : Option Nat) (w : World) : Calls Try.prog 85 #[.map m] w (KeysPost m w) := by
  refine (keys_any m w).mono ?_
  rintro e w' ⟨rfl, rfl⟩
  exact ⟨w.heap.size, rfl, Nat.le_refl _, by simp, by simp [go_sem], (Below.refl _ _).alloc (Nat.le_refl _) _⟩
theorem sortE_length (E : Ens) : (sortE E).length = E.length := by unfold sortE keysE; rw [List.length_mergeSort, List.length_map]
/-- The parts, one for each node, agree with the plan and with each other. -/
def formB (cs : List Cb) (ps : List Pt) : Bool := (List.range ps.length).all fun i => decide (sortE (ps.getD i pt0).ranks = chansAt cs i)
def rankAt (ps : List Pt) (node : Int) (c : Int) : Int := (lookE (ps.getD node.toNat pt0).ranks c).getD 0
def sumB (cs : List Cb) (ps : List Pt) : Bool := (List.range (2 * cs.length)).all fun c => decide (rankAt ps (chEnds cs c).1 c = rankAt ps (chEnds cs c).2 c)
def agreeErr (p : Pl) (xs : List Pt) : Int :=
  if validP p ≠ 0 then 1 else if arrErr p.ns xs ≠ 0 then arrErr p.ns xs else if formB p.cs (arrL p.ns.length xs) = false then 3 else if sumB p.cs (arrL p.ns.length xs) = false then 9 else 0
def AgrPost (p : Pl) (xs : List Pt) (w : World) (e : Ending) (w' : World) : Prop :=
  Below w.heap.size w w' ∧ ((agreeErr p xs ≠ 0 ∧ e = .returned (.tuple #[.slice none 0 0, .int .i64 (agreeErr p xs)])) ∨
    (agreeErr p xs = 0 ∧ ∃ g, e = .returned (.tuple #[.slice (some ⟨g, 0, none⟩) p.ns.length p.ns.length, .int .i64 0]) ∧ IsParts w' (some ⟨g, 0, none⟩) p.ns.length (arrL p.ns.length xs)))
section
variable {p : Pl} {xs : List Pt}
theorem agr1 (h : validP p ≠ 0) : agreeErr p xs = 1 := by unfold agreeErr; rw [if_pos h]
theorem agrA (h : validP p = 0) (h2 : arrErr p.ns xs ≠ 0) : agreeErr p xs = arrErr p.ns xs := by unfold agreeErr; rw [if_neg (by simp [h]), if_pos h2]
theorem agr3 (h : validP p = 0) (h2 : arrErr p.ns xs = 0) (h3 : formB p.cs (arrL p.ns.length xs) = false) : agreeErr p xs = 3 := by unfold agreeErr; rw [if_neg (by simp [h]), if_neg (by simp [h2]), if_pos h3]
theorem agr9 (h : validP p = 0) (h2 : arrErr p.ns xs = 0) (h3 : formB p.cs (arrL p.ns.length xs) = true) (h4 : sumB p.cs (arrL p.ns.length xs) = false) : agreeErr p xs = 9 := by
  unfold agreeErr; rw [if_neg (by simp [h]), if_neg (by simp [h2]), if_neg (by rw [h3]; simp), if_pos h4]
theorem agr0 (h : validP p = 0) (h2 : arrErr p.ns xs = 0) (h3 : formB p.cs (arrL p.ns.length xs) = true) (h4 : sumB p.cs (arrL p.ns.length xs) = true) : agreeErr p xs = 0 := by
  unfold agreeErr; rw [if_neg (by simp [h]), if_neg (by simp [h2]), if_neg (by rw [h3]; simp), if_neg (by rw [h4]; simp)]
end
theorem AgrPost.err {p : Pl} {xs : List Pt} {w w' : World} {n : Int} (h : agreeErr p xs = n) (hn : n ≠ 0) (hb : Below w.heap.size w w') : AgrPost p xs w (.returned (.tuple #[.slice none 0 0, .int .i64 n])) w' :=
  ⟨hb, .inl ⟨by rw [h]; exact hn, by rw [h]⟩⟩
def RelForm (cs : List Cb) (ps : List Pt) (w1 : World) (i : Value) (wr : World) : Prop :=
  ∃ k : Nat, k ≤ ps.length ∧ i = .int .i64 k ∧ ((List.range k).all fun i => decide (sortE (ps.getD i pt0).ranks = chansAt cs i)) = true ∧ Below w1.heap.size w1 wr
def RelSum (cs : List Cb) (ps : List Pt) (w1 : World) (i : Value) (wr : World) : Prop :=
  ∃ k : Nat, k ≤ 2 * cs.length ∧ i = .int .i64 k ∧ ((List.range k).all fun c => decide (rankAt ps (chEnds cs c).1 c = rankAt ps (chEnds cs c).2 c)) = true ∧ Below w1.heap.size w1 wr
theorem all_range_snoc (f : Nat → Bool) (k : Nat) : (List.range (k + 1)).all f = ((List.range k).all f && f k) := by rw [List.range_succ, List.all_append]; simp
theorem all_range_bad {f : Nat → Bool} {n k : Nat} (hk : k < n) (h : f k = false) : (List.range n).all f = false := by
  rw [List.all_eq_false]; exact ⟨k, List.mem_range.2 hk, by rw [h]; simp⟩

def smallMaps (xs : List Pt) : Prop := ∀ x ∈ xs, x.ranks.length ≤ 1000000
theorem arr_small {n : Nat} {xs : List Pt} (h : smallMaps xs) : smallMaps (arrL n xs) := by
  intro x hx
  unfold arrL at hx
  rw [List.mem_map] at hx
  obtain ⟨i, _, rfl⟩ := hx
  unfold arrPt
  split
  · rename_i q hq
    have := (findPt_some hq).1
    exact h _ (by simp [List.getD, this])
  · simp [pt0]

theorem ends_node {ns : List Nd} {cs : List Cb} (h : validP ⟨ns, cs⟩ = 0) (c : Nat) (hc : c < 2 * cs.length) : (0 ≤ (chEnds cs c).1 ∧ (chEnds cs c).1 < ns.length) ∧ 0 ≤ (chEnds cs c).2 ∧ (chEnds cs c).2 < ns.length := by
  have hp : cs.all (okPorts ns) = true := by
    cases hq : cs.all (okPorts ns) with
    | true => rfl
    | false =>
      unfold validP at h
      simp only [hq] at h
      split at h
      · cases h
      · split at h
        · cases h
        · cases h
  have hk : c / 2 < cs.length := by omega
  have hm : cs.getD (c / 2) cb0 ∈ cs := by simp [List.getD, hk]
  have h2 := List.all_eq_true.1 hp _ hm
  unfold okPorts hasPort at h2
  simp only [Bool.and_eq_true, decide_eq_true_eq] at h2
  have e : ((c : Int) / 2).toNat = c / 2 := by omega
  unfold chEnds
  rw [e]
  split
  · exact ⟨⟨h2.1.1.1.1, h2.1.1.1.2⟩, h2.2.1.1.1, h2.2.1.1.2⟩
  · exact ⟨⟨h2.2.1.1.1, h2.2.1.1.2⟩, h2.1.1.1.1, h2.1.1.1.2⟩

set_option maxRecDepth 100000 in
set_option maxHeartbeats 4000000 in
theorem lagree_any (p : Pl) (An Ac Al : Option Addr) (cn cc cl : Nat) (xs : List Pt) (w : World) (hl : p.ns.length ≤ 1000000) (hl2 : p.cs.length ≤ 1000000) (hwf : WfP p) (hlx : xs.length ≤ 1000000) (hsm : smallMaps xs) (h : IsPlan w An Ac p) (hx : IsParts w Al xs.length xs) :
    Calls Try.prog 47 #[.agg #[.slice An p.ns.length cn, .slice Ac p.cs.length cc], .slice Al xs.length cl] w (AgrPost p xs w) := by
  obtain ⟨ns, cs⟩ := p
  simp only at hl hl2 ⊢
  have HW := Lib.hid hwf
  obtain ⟨w1, hw1⟩ : ∃ w1 : World, w.alloc (.cells #[.slice An ns.length cn, .slice Ac cs.length cc] 25) = w1 := ⟨_, rfl⟩
  have s0 : w1.cell? ⟨w.heap.size, 0, none⟩ = some (.slice An ns.length cn) := by rw [← hw1]; simp [go_sem]
  have s1 : w1.cell? ⟨w.heap.size, 1, none⟩ = some (.slice Ac cs.length cc) := by rw [← hw1]; simp [go_sem]
  have sz1 : w.heap.size < w1.heap.size := by rw [← hw1]; simp
  have H1 : Hid (IsPlan w1 An Ac ⟨ns, cs⟩) := by rw [Hid, ← hw1]; exact h.alloc _
  have BW : Hid (Below w.heap.size w w1) := by rw [Hid, ← hw1]; exact (Below.refl _ _).alloc (Nat.le_refl _) _
  have X1 := Lib.hid (hx.below (Nat.le_refl _) BW.out)
  have SM := Lib.hid (arr_small (n := ns.length) hsm)
  have HW1 := Lib.hid hw1
  clear h hx hw1 hwf hsm
  by_cases hv : validP ⟨ns, cs⟩ = 0
  · have HV := Lib.hid hv
    clear hv
    go_enter Try.func47, Try.ntmps47
    go_wp2_with fail
    rw [HW1.out]
    refine (gvalid_any ⟨ns, cs⟩ An Ac cn cc _ hl hl2 HW.out H1.out).mono ?_
    rintro e w2 ⟨rfl, bel2⟩
    rw [HV.out]
    have BW2 := Lib.hid (BW.out.trans (bel2.mono (by omega)))
    have u0 : w2.cell? ⟨w.heap.size, 0, none⟩ = some (.slice An ns.length cn) := by rw [bel2.cell (by exact sz1)]; exact s0
    have u1 : w2.cell? ⟨w.heap.size, 1, none⟩ = some (.slice Ac cs.length cc) := by rw [bel2.cell (by exact sz1)]; exact s1
    have sz2 : w.heap.size < w2.heap.size := by have := bel2.size; omega
    have H2 := Lib.hid (H1.out.below (Nat.le_refl _) bel2)
    have X2 := Lib.hid (X1.out.below (Nat.le_refl _) bel2)
    have U0 := Lib.hid u0
    have U1 := Lib.hid u1
    clear bel2 s0 s1 H1 BW X1 HW1 sz1
    go_wp2_with fail
    refine (arrange_any ns An Ac Al cn cs.length cc cl xs _ hl hlx X2.out).mono ?_
    rintro e w3 ⟨bel3, hcase⟩
    have BW3 := Lib.hid (BW2.out.trans (bel3.mono (by omega)))
    have sz3 : w.heap.size < w3.heap.size := by have := bel3.size; omega
    rcases hcase with ⟨hne, rfl⟩ | ⟨he0, g, rfl, hparts⟩
    · have FIN := Lib.hid (agrA (p := ⟨ns, cs⟩) HV.out hne)
      have q1 : (arrErr ns xs != 0) = true := by simpa using hne
      generalize arrErr ns xs = er at *
      have HNE := Lib.hid hne
      clear hne bel3 u0 u1
      go_wp2_with fail
      go_ret2
      exact AgrPost.err FIN.out HNE.out BW3.out
    · have HE0 := Lib.hid he0
      have v0 : w3.cell? ⟨w.heap.size, 0, none⟩ = some (.slice An ns.length cn) := by rw [bel3.cell (by exact sz2)]; exact U0.out
      have v1 : w3.cell? ⟨w.heap.size, 1, none⟩ = some (.slice Ac cs.length cc) := by rw [bel3.cell (by exact sz2)]; exact U1.out
      have H3 := Lib.hid (H2.out.below (Nat.le_refl _) bel3)
      have X3 := Lib.hid hparts
      have V0 := Lib.hid v0
      have V1 := Lib.hid v1
      have LP : Hid ((arrL ns.length xs).length = ns.length) := by rw [Hid]; simp [arrL]
      clear he0 hparts bel3 u0 u1 U0 U1 H2 X2 BW2 sz2
      generalize hps : arrL ns.length xs = ps at *
      have HPS := Lib.hid hps
      clear hps
      go_wp2_with fail
      go_loopw [27] (fun i wr => RelForm cs ps w3 i wr) (fun i _ => ns.length - (RowKit.intOf i).toNat)
      case atStart => exact ⟨0, Nat.zero_le _, rfl, rfl, Below.refl _ _⟩
      case round =>
        clear v0 v1
        obtain ⟨k, hk, rfl, hall, bel⟩ := hrel
        have bs := bel.size
        have HA := Lib.hid hall
        have hlp := LP.out
        clear hall
        have v0 : wr.cell? ⟨w.heap.size, 0, none⟩ = some (.slice An ns.length cn) := by rw [bel.cell (by exact sz3)]; exact V0.out
        have v1 : wr.cell? ⟨w.heap.size, 1, none⟩ = some (.slice Ac cs.length cc) := by rw [bel.cell (by exact sz3)]; exact V1.out
        have bwr : w.heap.size < wr.heap.size := by omega
        by_cases hkr : k < ns.length
        · obtain ⟨b, off, ad, cd, m, ha, hb, hmem, c0, c1, c2, hrd, hrm⟩ := (X3.out.below (Nat.le_refl _) bel).at_ k hkr
          injection ha with ha
          injection ha with ha1 ha2
          subst ha1
          subst ha2
          have AS := Lib.hid (all_range_snoc (fun i => decide (sortE (ps.getD i pt0).ranks = chansAt cs i)) k)
          have AB : Hid (decide (sortE (ps.getD k pt0).ranks = chansAt cs k) = false → formB cs ps = false) := fun h => all_range_bad (f := fun i => decide (sortE (ps.getD i pt0).ranks = chansAt cs i)) (by omega) h
          have hms := SM.out _ hmem
          generalize ps.getD k pt0 = x at *
          generalize x.node = xn at *
          generalize x.deps.length = xd at *
          generalize x.ranks = E at *
          rw [Nat.zero_add] at c0 c1 c2
          clear hmem hrd hlp
          obtain ⟨wa, hwa⟩ : ∃ wa : World, wr.alloc (.cells #[.int .i64 xn, .slice ad xd cd, .map m] 32) = wa := ⟨_, rfl⟩
          have bwa : Below wr.heap.size wr wa := hwa ▸ (Below.refl _ _).alloc (Nat.le_refl _) _
          have ma : Hid (IMV wa m E) := hrm.below bwa (Nat.le_refl _)
          have pa := Lib.hid ((H3.out.below (Nat.le_refl _) bel).below (Nat.le_refl _) bwa)
          have pc : Hid (IsRec 6 cC cb0 wa Ac cs.length cs) := pa.out.2
          have t2 : wa.cell? ⟨wr.heap.size, 2, none⟩ = some (.map m) := by rw [← hwa]; simp [go_sem]
          have t0 : wa.cell? ⟨w.heap.size, 0, none⟩ = some (.slice An ns.length cn) := by rw [bwa.cell (by exact bwr)]; exact v0
          have t1 : wa.cell? ⟨w.heap.size, 1, none⟩ = some (.slice Ac cs.length cc) := by rw [bwa.cell (by exact bwr)]; exact v1
          have sza : wr.heap.size < wa.heap.size := by rw [← hwa]; simp
          have HWA := Lib.hid hwa
          have BEL := Lib.hid (bel.trans (bwa.mono bs))
          clear hwa hrm bwa
          go_wp2_with fail
          rw [HWA.out]
          clear HWA c0 c1 c2 v0 v1 bel
          generalize wr.heap.size = pb at *
          have KP : Hid (∀ w', Below wa.heap.size wa w' → w'.cell? ⟨pb, 2, none⟩ = some (.map m) ∧ w'.cell? ⟨w.heap.size, 0, none⟩ = some (.slice An ns.length cn) ∧ w'.cell? ⟨w.heap.size, 1, none⟩ = some (.slice Ac cs.length cc) ∧ Below wa.heap.size wa w') :=
            fun w' hb' => ⟨(hb'.cell (by exact sza)).trans t2, (hb'.cell (by show w.heap.size < _; omega)).trans t0, (hb'.cell (by show w.heap.size < _; omega)).trans t1, hb'⟩
          have ll : (chansAt cs k).length ≤ 2000000 := by have := chTo_length cs k cs.length; unfold chansAt; omega
          by_cases hq : sortE E = chansAt cs k
          · have HQ : Hid (decide (sortE E = chansAt cs k) = true) := decide_eq_true hq
            clear hq
            go_region_held3 (fun w' => w'.cell? ⟨pb, 2, none⟩ = some (.map m) ∧ w'.cell? ⟨w.heap.size, 0, none⟩ = some (.slice An ns.length cn) ∧ w'.cell? ⟨w.heap.size, 1, none⟩ = some (.slice Ac cs.length cc) ∧ Below wa.heap.size wa w')
              (first | exact ⟨t2, t0, t1, (Below.refl _ _).drew⟩ | exact KP.out _ BK.out | exact KP.out _ BS.out | exact KP.out _ BC.out | exact KP.out _ BE.out)
              (first
                | (go_at_call 85; refine (keys_any2 m _).mono ?_; rintro e wk ⟨B, rfl, hB1, hB2, cB, belk⟩; (first | have BK := Lib.hid (BC.out.trans (belk.mono BC.out.size)) | have BK : Hid (Below wa.heap.size wa wk) := ((Below.refl _ _).drew).trans belk); have CB := Lib.hid cB; have HB2 := Lib.hid hB2; clear hB1 hB2 cB belk)
                | (go_at_call 52; (first | ((with_reducible refine (sorted_any B m E wk HB2.out CB.out (ma.out.below BK.out (Nat.le_refl _)) hms).mono ?_); rintro e ws ⟨v1, rfl, own1, bels⟩; have BS := Lib.hid (BK.out.trans (bels.mono BK.out.size))) | ((with_reducible refine (sorted_any B m E wc (by have := BCK.out.size; have := HB2.out; omega) ((BCK.out.cell HB2.out).trans CB.out) (ma.out.below BC.out (Nat.le_refl _)) hms).mono ?_); rintro e ws ⟨v1, rfl, own1, bels⟩; have BS := Lib.hid (BC.out.trans (bels.mono BC.out.size)))); obtain ⟨a1, c1, rfl, _, rc1, _⟩ := rec_of_own (d := (0 : Int)) cI_length (by decide) own1; have RC1 := Lib.hid rc1; have BSX := Lib.hid bels; clear rc1 own1 bels)
                | (go_at_call 45; (first | ((with_reducible refine (chansat_any cs An Ac ns.length cn cc k ws hl2 (pc.out.below (Nat.le_refl _) BS.out)).mono ?_); rintro e wc ⟨v2, rfl, own2, belc⟩; have BC := Lib.hid (BS.out.trans (belc.mono BS.out.size))) | ((with_reducible refine (chansat_any cs An Ac ns.length cn cc k wk hl2 (pc.out.below (Nat.le_refl _) BK.out)).mono ?_); rintro e wc ⟨v2, rfl, own2, belc⟩; have BC := Lib.hid (BK.out.trans (belc.mono BK.out.size))) | (refine (chansat_any cs An Ac ns.length cn cc k _ hl2 (by exact pc.out)).mono ?_; rintro e wc ⟨v2, rfl, own2, belc⟩; have BC : Hid (Below wa.heap.size wa wc) := ((Below.refl _ _).drew).trans belc)); obtain ⟨a2, c2, rfl, _, rc2, _⟩ := rec_of_own (d := (0 : Int)) cI_length (by decide) own2; have RC2 := Lib.hid rc2; have BCK := Lib.hid belc; clear rc2 own2 belc)
                | (go_at_call 84; (first | ((with_reducible refine (eqI_any (sortE E) (chansAt cs k) a1 a2 c1 c2 wc (by rw [sortE_length]; omega) ll (RC1.out.below (Nat.le_refl _) BCK.out) RC2.out).mono ?_); rintro e we ⟨rfl, bele⟩; have BE := Lib.hid (BC.out.trans (bele.mono BC.out.size))) | ((with_reducible refine (eqI_any (sortE E) (chansAt cs k) a1 a2 c1 c2 ws (by rw [sortE_length]; omega) ll RC1.out (RC2.out.below (Nat.le_refl _) BSX.out)).mono ?_); rintro e we ⟨rfl, bele⟩; have BE := Lib.hid (BS.out.trans (bele.mono BS.out.size))) | ((with_reducible refine (eqI_any (sortE E) (chansAt cs k) a1 a2 c1 c2 ws (by rw [sortE_length]; omega) ll RC1.out ((RC2.out.below (Nat.le_refl _) BKX.out).below (Nat.le_refl _) BSX.out)).mono ?_); rintro e we ⟨rfl, bele⟩; have BE := Lib.hid (BS.out.trans (bele.mono BS.out.size)))); rw [HQ.out]; clear bele))
            all_goals
              have R : Hid (RelForm cs ps w3 (.int .i64 ((k + 1 : Nat) : Int)) we) := ⟨k + 1, by have := LP.out; omega, rfl, by rw [AS.out, HA.out, HQ.out]; rfl, BEL.out.trans (BE.out.mono BEL.out.size)⟩
              clear RC1 RC2 BK BS BC BE BSX BCK KP
              go_wp2_with fail
              exact ⟨by simpa using R.out, by simp [RowKit.intOf]; omega⟩
          · have HQ : Hid (decide (sortE E = chansAt cs k) = false) := decide_eq_false hq
            have FIN : Hid (agreeErr ⟨ns, cs⟩ xs = 3) := agr3 HV.out HE0.out (by rw [show (Pl.mk ns cs).ns = ns from rfl, HPS.out]; exact AB.out HQ.out)
            clear hq
            go_region_held3 (fun w' => w'.cell? ⟨pb, 2, none⟩ = some (.map m) ∧ w'.cell? ⟨w.heap.size, 0, none⟩ = some (.slice An ns.length cn) ∧ w'.cell? ⟨w.heap.size, 1, none⟩ = some (.slice Ac cs.length cc) ∧ Below wa.heap.size wa w')
              (first | exact ⟨t2, t0, t1, (Below.refl _ _).drew⟩ | exact KP.out _ BK.out | exact KP.out _ BS.out | exact KP.out _ BC.out | exact KP.out _ BE.out)
              (first
                | (go_at_call 85; refine (keys_any2 m _).mono ?_; rintro e wk ⟨B, rfl, hB1, hB2, cB, belk⟩; (first | have BK := Lib.hid (BC.out.trans (belk.mono BC.out.size)) | have BK : Hid (Below wa.heap.size wa wk) := ((Below.refl _ _).drew).trans belk); have CB := Lib.hid cB; have HB2 := Lib.hid hB2; clear hB1 hB2 cB belk)
                | (go_at_call 52; (first | ((with_reducible refine (sorted_any B m E wk HB2.out CB.out (ma.out.below BK.out (Nat.le_refl _)) hms).mono ?_); rintro e ws ⟨v1, rfl, own1, bels⟩; have BS := Lib.hid (BK.out.trans (bels.mono BK.out.size))) | ((with_reducible refine (sorted_any B m E wc (by have := BCK.out.size; have := HB2.out; omega) ((BCK.out.cell HB2.out).trans CB.out) (ma.out.below BC.out (Nat.le_refl _)) hms).mono ?_); rintro e ws ⟨v1, rfl, own1, bels⟩; have BS := Lib.hid (BC.out.trans (bels.mono BC.out.size)))); obtain ⟨a1, c1, rfl, _, rc1, _⟩ := rec_of_own (d := (0 : Int)) cI_length (by decide) own1; have RC1 := Lib.hid rc1; have BSX := Lib.hid bels; clear rc1 own1 bels)
                | (go_at_call 45; (first | ((with_reducible refine (chansat_any cs An Ac ns.length cn cc k ws hl2 (pc.out.below (Nat.le_refl _) BS.out)).mono ?_); rintro e wc ⟨v2, rfl, own2, belc⟩; have BC := Lib.hid (BS.out.trans (belc.mono BS.out.size))) | ((with_reducible refine (chansat_any cs An Ac ns.length cn cc k wk hl2 (pc.out.below (Nat.le_refl _) BK.out)).mono ?_); rintro e wc ⟨v2, rfl, own2, belc⟩; have BC := Lib.hid (BK.out.trans (belc.mono BK.out.size))) | (refine (chansat_any cs An Ac ns.length cn cc k _ hl2 (by exact pc.out)).mono ?_; rintro e wc ⟨v2, rfl, own2, belc⟩; have BC : Hid (Below wa.heap.size wa wc) := ((Below.refl _ _).drew).trans belc)); obtain ⟨a2, c2, rfl, _, rc2, _⟩ := rec_of_own (d := (0 : Int)) cI_length (by decide) own2; have RC2 := Lib.hid rc2; have BCK := Lib.hid belc; clear rc2 own2 belc)
                | (go_at_call 84; (first | ((with_reducible refine (eqI_any (sortE E) (chansAt cs k) a1 a2 c1 c2 wc (by rw [sortE_length]; omega) ll (RC1.out.below (Nat.le_refl _) BCK.out) RC2.out).mono ?_); rintro e we ⟨rfl, bele⟩; have BE := Lib.hid (BC.out.trans (bele.mono BC.out.size))) | ((with_reducible refine (eqI_any (sortE E) (chansAt cs k) a1 a2 c1 c2 ws (by rw [sortE_length]; omega) ll RC1.out (RC2.out.below (Nat.le_refl _) BSX.out)).mono ?_); rintro e we ⟨rfl, bele⟩; have BE := Lib.hid (BS.out.trans (bele.mono BS.out.size))) | ((with_reducible refine (eqI_any (sortE E) (chansAt cs k) a1 a2 c1 c2 ws (by rw [sortE_length]; omega) ll RC1.out ((RC2.out.below (Nat.le_refl _) BKX.out).below (Nat.le_refl _) BSX.out)).mono ?_); rintro e we ⟨rfl, bele⟩; have BE := Lib.hid (BS.out.trans (bele.mono BS.out.size)))); rw [HQ.out]; clear bele))
            all_goals
              have BW4 : Hid (Below w.heap.size w we) := BW3.out.trans ((BEL.out.mono (by omega)).trans (BE.out.mono (by omega)))
              clear RC1 RC2 BK BS BC BE BSX BCK KP
              go_wp2_with fail
              go_ret2
              exact AgrPost.err FIN.out (by decide) BW4.out
        · obtain rfl : k = ns.length := by omega
          have FB : Hid (formB cs ps = true) := by rw [Hid]; unfold formB; rw [LP.out]; exact HA.out
          have BW4 := Lib.hid (BW3.out.trans (bel.mono (by omega)))
          have H4 := Lib.hid (H3.out.below (Nat.le_refl _) bel)
          have X4 := Lib.hid (X3.out.below (Nat.le_refl _) bel)
          have GW : Hid (g < wr.heap.size ∨ ns.length = 0) := by
            by_cases h0 : ns.length = 0
            · exact .inr h0
            · obtain ⟨b, off, ad, cd, m, ha, hb, _⟩ := X4.out.at_ 0 (by omega)
              injection ha with ha
              injection ha with ha1 ha2
              subst ha1
              exact .inl hb
          clear HA H3 X3 BW3 bel bs hk hkr V0 V1 hlp
          have V0 := Lib.hid v0
          have V1 := Lib.hid v1
          obtain ⟨w4, rfl⟩ : ∃ w4 : World, w4 = wr := ⟨_, rfl⟩
          go_wp2_with fail
          go_loopw [46] (fun i wr => RelSum cs ps w4 i wr) (fun i _ => 2 * cs.length - (RowKit.intOf i).toNat)
          case atStart => exact ⟨0, Nat.zero_le _, rfl, rfl, Below.refl _ _⟩
          case round =>
            clear v0 v1
            obtain ⟨k, hk, rfl, hall, bel⟩ := hrel
            have bs := bel.size
            have HA := Lib.hid hall
            clear hall
            have v0 : wr.cell? ⟨w.heap.size, 0, none⟩ = some (.slice An ns.length cn) := by rw [bel.cell (by exact bwr)]; exact V0.out
            have v1 : wr.cell? ⟨w.heap.size, 1, none⟩ = some (.slice Ac cs.length cc) := by rw [bel.cell (by exact bwr)]; exact V1.out
            by_cases hkr : k < 2 * cs.length
            · have AS := Lib.hid (all_range_snoc (fun c => decide (rankAt ps (chEnds cs c).1 c = rankAt ps (chEnds cs c).2 c)) k)
              have AB : Hid (decide (rankAt ps (chEnds cs k).1 k = rankAt ps (chEnds cs k).2 k) = false → sumB cs ps = false) := fun h => all_range_bad (f := fun c => decide (rankAt ps (chEnds cs c).1 c = rankAt ps (chEnds cs c).2 c)) hkr h
              have hen := ends_node HV.out k hkr
              have XK := Lib.hid (X4.out.below (Nat.le_refl _) bel)
              have HK := Lib.hid ((H4.out.below (Nat.le_refl _) bel).2)
              go_wp2_with fail
              refine (ends_any cs An Ac ns.length cn cc k _ hl2 HK.out (by omega) (by omega)).mono ?_
              rintro e w5 ⟨rfl, bel5⟩
              have X5 := Lib.hid (XK.out.below (Nat.le_refl _) bel5)
              have B5 := Lib.hid (bel.trans (bel5.mono bs))
              have bs5 := bel5.size
              obtain ⟨⟨n1, n2⟩, n3, n4⟩ := hen
              generalize hef : (chEnds cs k).1 = ef at *
              generalize het : (chEnds cs k).2 = et at *
              clear hef het bel5 v0 v1 XK HK
              obtain ⟨f, rfl⟩ : ∃ f : Nat, ef = f := ⟨ef.toNat, by omega⟩
              obtain ⟨t, rfl⟩ : ∃ t : Nat, et = t := ⟨et.toNat, by omega⟩
              have hf : f < ns.length := by omega
              have ht : t < ns.length := by omega
              obtain ⟨b1, o1, ad1, cd1, m1, ha1, hb1, hmem1, _, _, c1, _, im1⟩ := X5.out.at_ f hf
              obtain ⟨b2, o2, ad2, cd2, m2, ha2, hb2, hmem2, _, _, c2, _, im2⟩ := X5.out.at_ t ht
              injection ha1 with ha1
              injection ha1 with ha1 ho1
              subst ha1
              subst ho1
              injection ha2 with ha2
              injection ha2 with ha2 ho2
              subst ha2
              subst ho2
              rw [Nat.zero_add] at c1 c2
              have wk : (Lit.int .i64 (k : Int)).wf = true := wf_small _ (by omega) (by omega)
              have r1 : (Instr.lookup 30 (.map m1) (.int .i64 (k : Int)) false).run Try.prog w5.drew = .ok (.int .i64 (rankAt ps f k)) w5.drew := IMapV.look (w := w5.drew) im1 Try.underlying3 Try.underlying3 Try.underlying30 (zeroInt _) wk
              have r2 : (Instr.lookup 30 (.map m2) (.int .i64 (k : Int)) false).run Try.prog w5.drew = .ok (.int .i64 (rankAt ps t k)) w5.drew := IMapV.look (w := w5.drew) im2 Try.underlying3 Try.underlying3 Try.underlying30 (zeroInt _) wk
              generalize rankAt ps f k = x at *
              generalize rankAt ps t k = y at *
              clear hmem1 hmem2 im1 im2 n1 n3
              by_cases hxy : x = y
              · have q1 : (x != y) = false := by simp [hxy]
                have R0 : Hid (decide (x = y) = true) := decide_eq_true hxy
                clear hxy
                have R : Hid (RelSum cs ps w4 (.int .i64 ((k + 1 : Nat) : Int)) w5.drew) := ⟨k + 1, by omega, rfl, by rw [AS.out, HA.out, R0.out]; rfl, B5.out.drew⟩
                go_wp2_with fail
                go_region
                all_goals
                  go_wp2_with fail
                  exact ⟨by simpa using R.out, by simp [RowKit.intOf]; omega⟩
              · have q1 : (x != y) = true := by simp [hxy]
                have FIN : Hid (agreeErr ⟨ns, cs⟩ xs = 9) := agr9 HV.out HE0.out (by rw [show (Pl.mk ns cs).ns = ns from rfl, HPS.out]; exact FB.out) (by rw [show (Pl.mk ns cs).ns = ns from rfl, HPS.out]; exact AB.out (decide_eq_false hxy))
                have BW5 : Hid (Below w.heap.size w w5.drew) := (BW4.out.trans (B5.out.mono (by omega))).drew
                clear hxy
                go_wp2_with fail
                go_region
                all_goals
                  go_wp2_with fail
                  go_ret2
                  exact AgrPost.err FIN.out (by decide) BW5.out
            · obtain rfl : k = 2 * cs.length := by omega
              have SB : Hid (sumB cs ps = true) := HA.out
              have FIN : Hid (agreeErr ⟨ns, cs⟩ xs = 0) := agr0 HV.out HE0.out (by rw [show (Pl.mk ns cs).ns = ns from rfl, HPS.out]; exact FB.out) (by rw [show (Pl.mk ns cs).ns = ns from rfl, HPS.out]; exact SB.out)
              have BW5 := Lib.hid (BW4.out.trans (bel.mono (by omega)))
              have X5 : Hid (IsParts wr (some ⟨g, 0, none⟩) ns.length (arrL ns.length xs)) := by rw [Hid, HPS.out]; exact X4.out.below (Nat.le_refl _) bel
              have F : Hid (AgrPost ⟨ns, cs⟩ xs w (.returned (.tuple #[.slice (some ⟨g, 0, none⟩) ns.length ns.length, .int .i64 0])) wr) := ⟨BW5.out, .inr ⟨FIN.out, g, rfl, X5.out⟩⟩
              clear bel
              go_wp2_with fail
              go_ret2
              exact F.out
  · have FIN := Lib.hid (agr1 (p := ⟨ns, cs⟩) (xs := xs) hv)
    have q1 : (validP ⟨ns, cs⟩ != 0) = true := by simpa using hv
    clear hv
    go_enter Try.func47, Try.ntmps47
    go_wp2_with fail
    rw [HW1.out]
    refine (gvalid_any ⟨ns, cs⟩ An Ac cn cc _ hl hl2 HW.out H1.out).mono ?_
    rintro e w2 ⟨rfl, bel2⟩
    have BW2 := Lib.hid (BW.out.trans (bel2.mono (by omega)))
    clear bel2 s0 s1
    go_wp2_with fail
    go_ret2
    exact AgrPost.err FIN.out (by decide) BW2.out

theorem agree_any (p : Pl) (An Ac Al : Option Addr) (cn cc cl : Nat) (xs : List Pt) (w : World) (hl : p.ns.length ≤ 1000000) (hl2 : p.cs.length ≤ 1000000) (hwf : WfP p) (hlx : xs.length ≤ 1000000) (hsm : smallMaps xs) (h : IsPlan w An Ac p) (hx : IsParts w Al xs.length xs) :
    Calls Try.prog 25 #[.agg #[.slice An p.ns.length cn, .slice Ac p.cs.length cc], .slice Al xs.length cl] w fun e w' => e = .returned (.int .i64 (agreeErr p xs)) ∧ Below w.heap.size w w' := by
  obtain ⟨ns, cs⟩ := p
  simp only at hl hl2 ⊢
  have HW := Lib.hid hwf
  have HSM := Lib.hid hsm
  obtain ⟨w1, hw1⟩ : ∃ w1 : World, w.alloc (.cells #[.slice An ns.length cn, .slice Ac cs.length cc] 25) = w1 := ⟨_, rfl⟩
  have s0 : w1.cell? ⟨w.heap.size, 0, none⟩ = some (.slice An ns.length cn) := by rw [← hw1]; simp [go_sem]
  have s1 : w1.cell? ⟨w.heap.size, 1, none⟩ = some (.slice Ac cs.length cc) := by rw [← hw1]; simp [go_sem]
  have sz1 : w.heap.size < w1.heap.size := by rw [← hw1]; simp
  have H1 : Hid (IsPlan w1 An Ac ⟨ns, cs⟩) := by rw [Hid, ← hw1]; exact h.alloc _
  have BW : Hid (Below w.heap.size w w1) := by rw [Hid, ← hw1]; exact (Below.refl _ _).alloc (Nat.le_refl _) _
  have X1 := Lib.hid (hx.below (Nat.le_refl _) BW.out)
  have HW1 := Lib.hid hw1
  clear h hx hw1 hwf hsm
  go_enter Try.func25, Try.ntmps25
  go_wp2_with fail
  rw [HW1.out]
  refine (lagree_any ⟨ns, cs⟩ An Ac Al cn cc cl xs _ hl hl2 HW.out hlx HSM.out H1.out X1.out).mono ?_
  rintro e w2 ⟨bel2, ⟨hne, rfl⟩ | ⟨he, g, rfl, hp⟩⟩
  · have BW2 := Lib.hid (BW.out.trans (bel2.mono (by omega)))
    clear bel2 s0 s1 hne
    go_wp2_with fail
    go_ret
    exact ⟨rfl, BW2.out⟩
  · have BW2 := Lib.hid (BW.out.trans (bel2.mono (by omega)))
    have HE := Lib.hid he
    clear bel2 s0 s1 he hp
    go_wp2_with fail
    go_ret
    exact ⟨by rw [HE.out]; rfl, BW2.out⟩
end Go.Proofs.Ytljojgpjgjfddaa
