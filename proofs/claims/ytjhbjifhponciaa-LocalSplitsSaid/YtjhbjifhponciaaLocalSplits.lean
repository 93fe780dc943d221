/- The walk of the law LocalSplits: it returns true. -/
import Derived.Test.YtjhbjifhponciaaLPlain
import Derived.Test.YtjhbjifhponciaaLFaultLaw
import Derived.Test.YtjhbjifhponciaaLRowAgree
namespace Go.Proofs.Ytjhbjifhponciaa.localSplitsW
open Go.RowKit Go.Maps
set_option linter.unusedVariables false

def Done (w : World) (e : Ending) (w' : World) : Prop := e = .returned (.bool true) ∧ Below w.heap.size w w'
def RelA (p : Pl) (ds : List Dp) (w4 : World) (i : Value) (wr : World) : Prop :=
  ∃ k : Nat, k ≤ ds.length ∧ i = .int .i64 k ∧ (∀ d ∈ ds.take k, fitsB p d d.2.2 = true) ∧ Below w4.heap.size w4 wr
def RelB (n : Nat) (w4 : World) (i : Value) (wr : World) : Prop :=
  ∃ k : Nat, k ≤ n ∧ i = .int .i64 k ∧ Below w4.heap.size w4 wr
theorem look_of_at {H : Type} {D : DataW H} {E : Ens} (h : Ents D E) {x c : Int} (ha : ∀ zd, D.atKey (.int .i64 x) zd = .lit (.int .i64 c)) : lookE E x = some c := by
  have h1 := ha (.map [])
  rw [h.at_ x] at h1
  cases hl : lookE E x with
  | none => rw [hl] at h1; cases h1
  | some v => rw [hl] at h1; simp at h1; rw [h1]
theorem fits_parts {ns : List Nd} {cs : List Cb} {f t n : Int} : fitsB ⟨ns, cs⟩ (f, t, n) n = (fitsR cs f t n n && !decide (n < 0) && !decide (n ≥ ns.length)) := by
  cases hn : isNodeB ns n with
  | true =>
    rw [← fitsR_eq hn]
    have h : 0 ≤ n ∧ n < ns.length := by simpa [isNodeB] using hn
    rw [decide_eq_false (by omega), decide_eq_false (by omega)]; simp
  | false =>
    have e1 : fitsB ⟨ns, cs⟩ (f, t, n) n = false := by unfold fitsB; rw [show isNodeB (Pl.mk ns cs).ns n = false from hn]; simp
    have h : 0 ≤ n → (ns.length : Int) ≤ n := by simpa [isNodeB] using hn
    rw [e1]
    by_cases h0 : n < 0
    · rw [decide_eq_true h0]; simp
    · rw [decide_eq_false h0, decide_eq_true (show n ≥ ns.length by have := h (by omega); omega)]; simp
def Split2 (p : Pl) (ds : List Dp) (r : List Int) (w3 w4 : World) (lv : Value) (er : Int) : Prop :=
  er = splitErr p ds r ∧ ((er ≠ 0 ∧ lv = .slice none 0 0) ∨ (er = 0 ∧ ∃ g dv mb, lv = .slice (some ⟨g, 0, none⟩) p.ns.length p.ns.length ∧ SplitOk p ds r w3 w4 g dv mb))

set_option maxRecDepth 100000 in
set_option maxHeartbeats 4000000 in
theorem walk (An Ac : Option Addr) (cn cc : Nat) (p : Pl) (Ad : Option Addr) (cd : Nat) (ds : List Dp) (Ar : Option Addr) (cr : Nat) (r : List Int) (w : World)
    (hp : IsPlan w An Ac p) (hwf : WfP p) (hd : IsRec 3 cD d0 w Ad ds.length ds) (hwd : WfD ds) (hr : IsRec 1 cI 0 w Ar r.length r) (hwr : WfI r) :
    Calls Try.prog 3 #[.agg #[.slice An p.ns.length cn, .slice Ac p.cs.length cc], .slice Ad ds.length cd, .slice Ar r.length cr] w (Done w) := by
  obtain ⟨ns, cs⟩ := p
  simp only
  have HW := Lib.hid hwf
  have HWD := Lib.hid hwd
  have HWR := Lib.hid hwr
  obtain ⟨w1, hw1⟩ : ∃ w1 : World, w.alloc (.cells #[.slice An ns.length cn, .slice Ac cs.length cc] 25) = w1 := ⟨_, rfl⟩
  have s0 : w1.cell? ⟨w.heap.size, 0, none⟩ = some (.slice An ns.length cn) := by rw [← hw1]; simp [go_sem]
  have s1 : w1.cell? ⟨w.heap.size, 1, none⟩ = some (.slice Ac cs.length cc) := by rw [← hw1]; simp [go_sem]
  have sz1 : w.heap.size < w1.heap.size := by rw [← hw1]; simp
  have BW0 : Below w.heap.size w w1 := by rw [← hw1]; exact (Below.refl _ _).alloc (Nat.le_refl _) _
  have BW := Lib.hid BW0
  have H1 := Lib.hid (hp.below (Nat.le_refl _) BW0)
  have D1 := Lib.hid (hd.below (Nat.le_refl _) BW0)
  have R1 := Lib.hid (hr.below (Nat.le_refl _) BW0)
  have HW1 := Lib.hid hw1
  have KC : Hid (∀ w', Below w1.heap.size w1 w' → w'.cell? ⟨w.heap.size, 0, none⟩ = some (.slice An ns.length cn) ∧ w'.cell? ⟨w.heap.size, 1, none⟩ = some (.slice Ac cs.length cc) ∧ w.heap.size < w'.heap.size ∧ Below w.heap.size w w') :=
    fun w' hb => ⟨(hb.cell (by exact sz1)).trans s0, (hb.cell (by exact sz1)).trans s1, by have := hb.size; omega, BW0.trans (hb.mono (by omega))⟩
  clear hp hd hr hw1 hwf hwd hwr BW0
  go_enter Try.func3, Try.ntmps3
  go_wp2_with fail
  rw [HW1.out]
  refine (awake_any _).mono ?_
  rintro e w2 ⟨rfl, bel2⟩
  have B2 := Lib.hid bel2
  clear bel2 s0 s1
  obtain ⟨u0, u1, sz2, bw2⟩ := KC.out w2 B2.out
  cases hg : greatB ns.length cs.length ds.length with
  | true =>
    have HG := Lib.hid hg
    have BF := Lib.hid (bw2.alloc (by omega) (.cells #[.slice An ns.length cn, .slice Ac cs.length cc] 25))
    clear hg bw2
    go_wp2_with fail
    refine (great_any An Ac Ad ns.length cs.length ds.length cn cc cd _ _ HG.out).mono ?_
    rintro e w3 ⟨rfl, rfl⟩
    go_wp2_with fail
    go_ret
    exact ⟨rfl, BF.out⟩
  | false =>
    have HG := Lib.hid hg
    have hgb : ns.length ≤ 20 ∧ cs.length ≤ 40 ∧ ds.length ≤ 100 := by simp [greatB] at hg; omega
    obtain ⟨g1, g2, g3⟩ := hgb
    have BF := Lib.hid (bw2.alloc (by omega) (.cells #[.slice An ns.length cn, .slice Ac cs.length cc] 25))
    have B3 := Lib.hid (B2.out.alloc B2.out.size (.cells #[.slice An ns.length cn, .slice Ac cs.length cc] 25))
    clear hg bw2
    by_cases hr1 : 100 < r.length
    · have q1 : decide (100 < (r.length : Int)) = true := decide_eq_true (by omega)
      go_wp2_with fail
      refine (great_any An Ac Ad ns.length cs.length ds.length cn cc cd _ _ HG.out).mono ?_
      rintro e w3 ⟨rfl, rfl⟩
      go_wp2_with fail
      go_ret
      exact ⟨rfl, BF.out⟩
    have q1 : decide (100 < (r.length : Int)) = false := decide_eq_false (by omega)
    go_wp2_with fail
    refine (great_any An Ac Ad ns.length cs.length ds.length cn cc cd _ _ HG.out).mono ?_
    rintro e w3 ⟨rfl, hw3⟩
    have B3' : Below w1.heap.size w1 w3 := by rw [← hw3]; exact B3.out
    have BB3 := Lib.hid B3'
    clear u0 u1 hw3 B3' B3 BF
    obtain ⟨u0, u1, sz3, bw3⟩ := KC.out w3 BB3.out
    have H3 := Lib.hid (H1.out.below (Nat.le_refl _) BB3.out)
    have D3 := Lib.hid (D1.out.below (Nat.le_refl _) BB3.out)
    have R3 := Lib.hid (R1.out.below (Nat.le_refl _) BB3.out)
    clear bw3
    go_wp2_with fail
    refine (split_any ⟨ns, cs⟩ An Ac Ad Ar cn cc cd cr ds r _ (by show ns.length ≤ _; omega) (by show cs.length ≤ _; omega) HW.out (by omega) (by omega) HWD.out HWR.out H3.out D3.out R3.out).mono ?_
    rintro e w4 ⟨bel4, hcase⟩
    have B4 := Lib.hid (BB3.out.trans (bel4.mono BB3.out.size))
    clear u0 u1
    obtain ⟨u0, u1, sz4, bw4⟩ := KC.out w4 B4.out
    have BW4 := Lib.hid bw4
    clear bw4
    obtain ⟨lv, er, rfl, hlv⟩ : ∃ lv er, e = .returned (.tuple #[lv, .int .i64 er]) ∧ Split2 ⟨ns, cs⟩ ds r w3 w4 lv er := by
      rcases hcase with ⟨hne, rfl⟩ | ⟨he0, g, dv, mb, rfl, hok⟩
      · exact ⟨_, _, rfl, rfl, .inl ⟨hne, rfl⟩⟩
      · exact ⟨_, 0, rfl, he0.symm, .inr ⟨rfl, g, dv, mb, rfl, hok⟩⟩
    have LV := Lib.hid hlv
    have H4 := Lib.hid (H1.out.below (Nat.le_refl _) B4.out)
    clear hcase bel4 hlv
    go_wp2_with fail
    refine (r14valid_any ⟨ns, cs⟩ An Ac cn cc _ (by show ns.length ≤ _; omega) (by show cs.length ≤ _; omega) H4.out).mono ?_
    rintro e w5 ⟨rfl, bel5⟩
    have B5 : Hid (Below w4.heap.size w4 w5) := bel5
    have BB5 : Hid (Below w1.heap.size w1 w5) := B4.out.trans (bel5.mono B4.out.size)
    clear bel5 u0 u1
    obtain ⟨u0, u1, sz5, bw5⟩ := KC.out w5 BB5.out
    have BW5 := Lib.hid bw5
    clear bw5
    by_cases hbad : validP ⟨ns, cs⟩ ≠ 0 ∨ r.length ≠ 2 * cs.length
    · have he : er = 1 := by rw [LV.out.1]; exact split1 hbad
      have hlv : lv = .slice none 0 0 := by
        rcases LV.out.2 with ⟨_, h⟩ | ⟨h, _⟩
        · exact h
        · rw [he] at h; cases h
      subst he
      subst hlv
      by_cases hv : validP ⟨ns, cs⟩ = 0
      · have hlr : r.length ≠ 2 * cs.length := by rcases hbad with h | h; exact absurd hv h; exact h
        have q2 : ((r.length : Int) != 2 * (cs.length : Int)) = true := by simp; omega
        rw [hv]
        clear hbad hv
        go_wp2_with fail
        go_ret
        exact ⟨rfl, BW5.out⟩
      · have q2 : (validP ⟨ns, cs⟩ != 0) = true := by simpa using hv
        generalize validP ⟨ns, cs⟩ = vp at *
        clear hbad hv
        go_wp2_with fail
        go_ret
        exact ⟨rfl, BW5.out⟩
    have hv : validP ⟨ns, cs⟩ = 0 := Classical.byContradiction fun h => hbad (.inl h)
    have hlr : r.length = 2 * cs.length := Classical.byContradiction fun h => hbad (.inr h)
    have HB := Lib.hid hbad
    clear hbad
    rw [hv]
    have q2 : ((r.length : Int) != 2 * (cs.length : Int)) = false := by simp; omega
    clear hv
    go_wp2_with fail
    go_loopw [53] (fun i wr => RelA ⟨ns, cs⟩ ds w4 i wr) (fun i _ => ds.length - (RowKit.intOf i).toNat)
    case atStart => exact ⟨0, Nat.zero_le _, rfl, by simp, B5.out⟩
    case round =>
      obtain ⟨k, hk, rfl, hall, bel⟩ := hrel
      have HA := Lib.hid hall
      have BK := Lib.hid bel
      have BB : Hid (Below w1.heap.size w1 wr) := B4.out.trans (bel.mono B4.out.size)
      clear hall bel u0 u1
      by_cases hkr : k < ds.length
      · obtain ⟨bb, off, ha, hbb, hmem, c0, c1, c2⟩ := dep_at (D1.out.below (Nat.le_refl _) BB.out) k hkr
        have TS := Lib.hid (take_snocG d0 ds k hkr)
        have ME := Lib.hid hmem
        generalize ds.getD k d0 = x at *
        subst ha
        obtain ⟨df, dt, dn⟩ := x
        simp only at c0 c1 c2
        obtain ⟨w6, hw6⟩ : ∃ w6 : World, wr.alloc (.cells #[.int .i64 df, .int .i64 dt, .int .i64 dn] 36) = w6 := ⟨_, rfl⟩
        have B6 : Hid (Below w4.heap.size w4 w6) := by rw [← hw6]; exact BK.out.alloc BK.out.size _
        have BB6 : Hid (Below w1.heap.size w1 w6) := B4.out.trans (B6.out.mono B4.out.size)
        have e0 : w6.cell? ⟨wr.heap.size, 0, none⟩ = some (.int .i64 df) := by rw [← hw6]; simp [go_sem]
        have e1 : w6.cell? ⟨wr.heap.size, 1, none⟩ = some (.int .i64 dt) := by rw [← hw6]; simp [go_sem]
        have e2 : w6.cell? ⟨wr.heap.size, 2, none⟩ = some (.int .i64 dn) := by rw [← hw6]; simp [go_sem]
        have sz6 : wr.heap.size < w6.heap.size := by rw [← hw6]; simp
        have KD : Hid (∀ w', Below w6.heap.size w6 w' → w'.cell? ⟨wr.heap.size, 0, none⟩ = some (.int .i64 df) ∧ w'.cell? ⟨wr.heap.size, 1, none⟩ = some (.int .i64 dt) ∧ w'.cell? ⟨wr.heap.size, 2, none⟩ = some (.int .i64 dn) ∧ wr.heap.size < w'.heap.size) :=
          fun w' hb => ⟨(hb.cell (by exact sz6)).trans e0, (hb.cell (by exact sz6)).trans e1, (hb.cell (by exact sz6)).trans e2, by have := hb.size; omega⟩
        obtain ⟨u0, u1, szr, bwr⟩ := KC.out wr BB.out
        obtain ⟨t0, t1, szt, bwt⟩ := KC.out w6 BB6.out
        have HP6 := Lib.hid (H1.out.below (Nat.le_refl _) BB6.out)
        have HW6 := Lib.hid hw6
        clear hmem bwr bwt hw6
        have FP := Lib.hid (fits_parts (ns := ns) (cs := cs) (f := df) (t := dt) (n := dn))
        obtain ⟨fr, hfr⟩ : ∃ fr, fitsR cs df dt dn dn = fr := ⟨_, rfl⟩
        have CALL := Lib.hid (rfits_any cs An Ac ns.length cn cc df dt dn dn w6 (by omega) HP6.out.2 fr hfr)
        rw [hfr] at FP
        have HFR := Lib.hid hfr
        clear hfr
        go_wp2_with fail
        rw [HW6.out]
        refine CALL.out.mono ?_
        rintro e w7 ⟨rfl, bel7⟩
        obtain ⟨d0', d1', d2', sz7⟩ := KD.out w7 bel7
        have B7 : Hid (Below w4.heap.size w4 w7) := B6.out.trans (bel7.mono B6.out.size)
        have BB7 : Hid (Below w1.heap.size w1 w7) := B4.out.trans (B7.out.mono B4.out.size)
        clear u0 u1 t0 t1 szt szr e0 e1 e2 c0 c1 c2 bel7 CALL
        obtain ⟨u0, u1, szw7, bw7⟩ := KC.out w7 BB7.out
        have BW7 := Lib.hid bw7
        clear bw7
        have BAD : Hid (fitsB ⟨ns, cs⟩ (df, dt, dn) dn = false → er = 3 ∧ lv = .slice none 0 0) := by
          intro hf
          have he : er = 3 := by rw [LV.out.1]; exact split3 HB.out (Bool.eq_false_iff.2 fun h => by have := List.all_eq_true.1 h _ ME.out; rw [show fitsB ⟨ns, cs⟩ (df, dt, dn) (df, dt, dn).2.2 = fitsB ⟨ns, cs⟩ (df, dt, dn) dn from rfl, hf] at this; cases this)
          refine ⟨he, ?_⟩
          rcases LV.out.2 with ⟨_, h⟩ | ⟨h, _⟩
          · exact h
          · rw [he] at h; cases h
        cases fr with
        | false =>
          obtain ⟨rfl, rfl⟩ := BAD.out (by rw [FP.out]; rfl)
          go_wp2_with fail
          go_ret
          exact ⟨rfl, BW7.out⟩
        | true =>
          by_cases h0 : dn < 0
          · obtain ⟨rfl, rfl⟩ := BAD.out (by rw [FP.out, decide_eq_true h0]; rfl)
            have q5 : decide (dn < 0) = true := decide_eq_true h0
            clear h0
            go_wp2_with fail
            go_ret
            exact ⟨rfl, BW7.out⟩
          have q5 : decide (dn < 0) = false := decide_eq_false h0
          by_cases h1 : dn ≥ (ns.length : Int)
          · obtain ⟨rfl, rfl⟩ := BAD.out (by rw [FP.out, decide_eq_true h1]; simp)
            have q6 : decide ((ns.length : Int) ≤ dn) = true := decide_eq_true h1
            clear h0 h1
            go_wp2_with fail
            go_ret
            exact ⟨rfl, BW7.out⟩
          have q6 : decide ((ns.length : Int) ≤ dn) = false := decide_eq_false h1
          have R : Hid (RelA ⟨ns, cs⟩ ds w4 (.int .i64 ((k + 1 : Nat) : Int)) w7) := by
            refine ⟨k + 1, by omega, rfl, ?_, B7.out⟩
            intro d hd
            rw [TS.out, List.mem_append] at hd
            rcases hd with hd | hd
            · exact HA.out d hd
            · rw [List.mem_singleton.1 hd]
              show fitsB ⟨ns, cs⟩ (df, dt, dn) dn = true
              rw [FP.out, decide_eq_false h0, decide_eq_false h1]; rfl
          clear h0 h1
          go_wp2_with fail
          exact ⟨by simpa using R.out, by simp [RowKit.intOf]; omega⟩
      · obtain rfl : k = ds.length := by omega
        have HE0 : Hid (splitErr ⟨ns, cs⟩ ds r = 0) := split0 HB.out (List.all_eq_true.2 fun d hd => HA.out d (by rw [List.take_length]; exact hd))
        have he : er = 0 := by rw [LV.out.1]; exact HE0.out
        subst he
        obtain ⟨g, dv, mb, rfl, hok⟩ : ∃ g dv mb, lv = .slice (some ⟨g, 0, none⟩) ns.length ns.length ∧ SplitOk ⟨ns, cs⟩ ds r w3 w4 g dv mb := by
          rcases LV.out.2 with ⟨h, _⟩ | ⟨_, h⟩
          · exact absurd rfl h
          · exact h
        have OK := Lib.hid hok
        obtain ⟨u0, u1, szr, bwr⟩ := KC.out wr BB.out
        clear hok bwr LV
        have q7 : ((ns.length : Int) != (ns.length : Int)) = false := by simp
        go_wp2_with fail
        have BK6 := Lib.hid BK.out
        clear u0 u1 szr BB BK HA
        go_loopw [96] (fun i wr => RelB ns.length w4 i wr) (fun i _ => ns.length - (RowKit.intOf i).toNat)
        case atStart => exact ⟨0, Nat.zero_le _, rfl, BK6.out⟩
        case round =>
          obtain ⟨k, hk, rfl, bel⟩ := hrel
          have BK := Lib.hid bel
          have BB : Hid (Below w1.heap.size w1 wr) := B4.out.trans (bel.mono B4.out.size)
          clear bel
          by_cases hkr : k < ns.length
          · have hgw : g < w4.heap.size := OK.out.row.lt
            obtain ⟨ad, capd, hdv, _, rd, _⟩ := rec_of_own (m := 3) (c := cD) (d := d0) (fun _ => rfl) (by decide) (OK.out.deps k hkr)
            have c0 : wr.cell? ⟨g, k * 3, none⟩ = some (.int .i64 (k : Int)) := (BK.out.cell hgw).trans (OK.out.row.cell (i := k) (j := 0) hkr (by omega))
            have c1 : wr.cell? ⟨g, k * 3 + 1, none⟩ = some (.slice ad (ownDeps ds k).length capd) := by rw [← hdv]; exact (BK.out.cell hgw).trans (OK.out.row.cell (i := k) (j := 1) hkr (by omega))
            have c2 : wr.cell? ⟨g, k * 3 + 1 + 1, none⟩ = some (.map (some (mb k))) := (BK.out.cell hgw).trans (OK.out.row.cell (i := k) (j := 2) hkr (by omega))
            obtain ⟨w7, hw7⟩ : ∃ w7 : World, wr.alloc (.cells #[.int .i64 (k : Int), .slice ad (ownDeps ds k).length capd, .map (some (mb k))] 41) = w7 := ⟨_, rfl⟩
            have B7 : Hid (Below w4.heap.size w4 w7) := by rw [← hw7]; exact BK.out.alloc BK.out.size _
            have BB7 : Hid (Below w1.heap.size w1 w7) := B4.out.trans (B7.out.mono B4.out.size)
            have e0 : w7.cell? ⟨wr.heap.size, 0, none⟩ = some (.int .i64 (k : Int)) := by rw [← hw7]; simp [go_sem]
            have e1 : w7.cell? ⟨wr.heap.size, 1, none⟩ = some (.slice ad (ownDeps ds k).length capd) := by rw [← hw7]; simp [go_sem]
            have e2 : w7.cell? ⟨wr.heap.size, 2, none⟩ = some (.map (some (mb k))) := by rw [← hw7]; simp [go_sem]
            have sz7 : wr.heap.size < w7.heap.size := by rw [← hw7]; simp
            obtain ⟨z0, z1, szz, bwz⟩ := KC.out w7 BB7.out
            have KP : Hid (∀ w', Below w7.heap.size w7 w' → w'.cell? ⟨w.heap.size, 0, none⟩ = some (.slice An ns.length cn) ∧ w'.cell? ⟨w.heap.size, 1, none⟩ = some (.slice Ac cs.length cc) ∧ w'.cell? ⟨wr.heap.size, 0, none⟩ = some (.int .i64 (k : Int)) ∧ w'.cell? ⟨wr.heap.size, 1, none⟩ = some (.slice ad (ownDeps ds k).length capd) ∧ w'.cell? ⟨wr.heap.size, 2, none⟩ = some (.map (some (mb k))) ∧ Below w7.heap.size w7 w') :=
              fun w' hb => ⟨(hb.cell (by exact szz)).trans z0, (hb.cell (by exact szz)).trans z1, (hb.cell (by exact sz7)).trans e0, (hb.cell (by exact sz7)).trans e1, (hb.cell (by exact sz7)).trans e2, hb⟩
            have BF7 : Hid (∀ w', Below w7.heap.size w7 w' → Below w1.heap.size w1 w') := fun w' hb => BB7.out.trans (hb.mono BB7.out.size)
            have BG7 : Hid (∀ w', Below w7.heap.size w7 w' → Below w4.heap.size w4 w') := fun w' hb => B7.out.trans (hb.mono B7.out.size)
            have RDK := Lib.hid (rd.below (Nat.le_refl _) B7.out)
            have HW7 := Lib.hid hw7
            have hol : (ownDeps ds k).length ≤ ds.length := List.length_filter_le _ _
            have M7 : Hid (IM w7 (mb k) (ranksOf cs r k)) := (OK.out.maps k hkr).below B7.out (OK.out.maps k hkr).lt
            have SMk : (ranksOf cs r k).length ≤ 1000000 := small_split ⟨ns, cs⟩ ds r (by show cs.length ≤ _; omega) (splitPt ⟨ns, cs⟩ ds r k) (List.mem_map.2 ⟨k, List.mem_range.2 hkr, rfl⟩)
            have hsl : (chansAt cs k).length ≤ 1000000 := by rw [← keysE_ranksOf cs r k]; simpa [keysE] using SMk
            have EX : Hid (exactE cs (chansAt cs k) k = 0) := by
              rw [Hid, ← sortE_ranksOf cs r k]
              refine exact_0 (List.all_eq_true.2 fun c hc => ?_) ?_
              · rw [lookE_ranksOf, if_pos hc]; rfl
              · unfold ranksOf; rw [List.length_map]
            have q8 : ((k : Int) != (k : Int)) = false := by simp
            clear rd hdv hw7 bwz
            go_wp2_with fail
            rw [HW7.out]
            clear c0 c1 c2 e0 e1 e2 z0 z1
            refine wp_region_held_drew (S := (fun w' => w'.cell? ⟨w.heap.size, 0, none⟩ = some (.slice An ns.length cn) ∧ w'.cell? ⟨w.heap.size, 1, none⟩ = some (.slice Ac cs.length cc) ∧ w'.cell? ⟨wr.heap.size, 0, none⟩ = some (.int .i64 (k : Int)) ∧ w'.cell? ⟨wr.heap.size, 1, none⟩ = some (.slice ad (ownDeps ds k).length capd) ∧ w'.cell? ⟨wr.heap.size, 2, none⟩ = some (.map (some (mb k))) ∧ Below w7.heap.size w7 w')) (by kernel_rfl) (KP.out _ ((Below.refl _ _).drew)) (fun hHeld => ?_)
            refine wpAnyH_take (i := 0) (v := .pointer (some ⟨wr.heap.size, 0, none⟩)) rfl (by kernel_rfl) (by kernel_rfl) (by kernel_rfl) (fun _ _ _ h => h) (Or.inl ⟨by rfl, fun w' hSw => by (obtain ⟨x0, x1, x2, x3, x4, x5⟩ := hSw; go_simp)⟩) hHeld ?_
            change wpAnyH Try.prog _ _ _ _ _ _ { tmps := #[_, .slice Ad ds.length cd, _, .pointer (some ⟨w.heap.size, 0, none⟩), _, _, _, _, _, _, _, .int .i64 (k : Int), .pointer (some ⟨wr.heap.size, 0, none⟩), _, _, _, _, _, _, _, _, _, _, _, _, _, _, _, _, _, _, _, _, _, _, _, _, _, _, _, _, _, _, _, _, _, _, _, _, _, _, _, _, _, _, _, _, _, _, _, _, _, _, _, _, _, _, _, _, _, _, _, _, _, _, _, _, _, _, _, _, _, _, _, _, _, _, _, _, _, _, _, _, _, _, _, _, _, _, _, _, .pointer (some ⟨wr.heap.size, 0, none⟩), _, _, _, _, _, _, _, _, _, _, _, _, _, _, _, _, _, _, _, _, _, _, _, _, _, _, _, _, _, _, _, _, _, _, _, _, _, _], defers := [] } _
            refine wpAnyH_take (i := 1) (v := .int .i64 (k : Int)) rfl (by kernel_rfl) (by kernel_rfl) (by kernel_rfl) (fun _ _ _ h => h) (Or.inl ⟨by rfl, fun w' hSw => by (obtain ⟨x0, x1, x2, x3, x4, x5⟩ := hSw; go_simp)⟩) hHeld ?_
            change wpAnyH Try.prog _ _ _ _ _ _ { tmps := #[_, .slice Ad ds.length cd, _, .pointer (some ⟨w.heap.size, 0, none⟩), _, _, _, _, _, _, _, .int .i64 (k : Int), .pointer (some ⟨wr.heap.size, 0, none⟩), _, _, _, _, _, _, _, _, _, _, _, _, _, _, _, _, _, _, _, _, _, _, _, _, _, _, _, _, _, _, _, _, _, _, _, _, _, _, _, _, _, _, _, _, _, _, _, _, _, _, _, _, _, _, _, _, _, _, _, _, _, _, _, _, _, _, _, _, _, _, _, _, _, _, _, _, _, _, _, _, _, _, _, _, _, _, _, _, .pointer (some ⟨wr.heap.size, 0, none⟩), .int .i64 (k : Int), _, _, _, _, _, _, _, _, _, _, _, _, _, _, _, _, _, _, _, _, _, _, _, _, _, _, _, _, _, _, _, _, _, _, _, _, _], defers := [] } _
            refine wpAnyH_take (i := 2) (v := .int .i64 (k : Int)) rfl (by kernel_rfl) (by kernel_rfl) (by kernel_rfl) (fun _ _ _ h => h) (Or.inl ⟨by rfl, fun w' hSw => by (obtain ⟨x0, x1, x2, x3, x4, x5⟩ := hSw; go_simp)⟩) hHeld ?_
            change wpAnyH Try.prog _ _ _ _ _ _ { tmps := #[_, .slice Ad ds.length cd, _, .pointer (some ⟨w.heap.size, 0, none⟩), _, _, _, _, _, _, _, .int .i64 (k : Int), .pointer (some ⟨wr.heap.size, 0, none⟩), _, _, _, _, _, _, _, _, _, _, _, _, _, _, _, _, _, _, _, _, _, _, _, _, _, _, _, _, _, _, _, _, _, _, _, _, _, _, _, _, _, _, _, _, _, _, _, _, _, _, _, _, _, _, _, _, _, _, _, _, _, _, _, _, _, _, _, _, _, _, _, _, _, _, _, _, _, _, _, _, _, _, _, _, _, _, _, _, .pointer (some ⟨wr.heap.size, 0, none⟩), .int .i64 (k : Int), .int .i64 (k : Int), _, _, _, _, _, _, _, _, _, _, _, _, _, _, _, _, _, _, _, _, _, _, _, _, _, _, _, _, _, _, _, _, _, _, _, _], defers := [] } _
            refine wpAnyH_take (i := 3) (v := .bool false) rfl (by kernel_rfl) (by kernel_rfl) (by kernel_rfl) (fun _ _ _ h => h) (Or.inl ⟨by rfl, fun w' hSw => by (obtain ⟨x0, x1, x2, x3, x4, x5⟩ := hSw; go_simp)⟩) hHeld ?_
            change wpAnyH Try.prog _ _ _ _ _ _ { tmps := #[_, .slice Ad ds.length cd, _, .pointer (some ⟨w.heap.size, 0, none⟩), _, _, _, _, _, _, _, .int .i64 (k : Int), .pointer (some ⟨wr.heap.size, 0, none⟩), _, _, _, _, _, _, _, _, _, _, _, _, _, _, _, _, _, _, _, _, _, _, _, _, _, _, _, _, _, _, _, _, _, _, _, _, _, _, _, _, _, _, _, _, _, _, _, _, _, _, _, _, _, _, _, _, _, _, _, _, _, _, _, _, _, _, _, _, _, _, _, _, _, _, _, _, _, _, _, _, _, _, _, _, _, _, _, _, .pointer (some ⟨wr.heap.size, 0, none⟩), .int .i64 (k : Int), .int .i64 (k : Int), .bool false, _, _, _, _, _, _, _, _, _, _, _, _, _, _, _, _, _, _, _, _, _, _, _, _, _, _, _, _, _, _, _, _, _, _, _], defers := [] } _
            refine wpAnyH_take (i := 4) (v := .bool false) rfl (by kernel_rfl) (by kernel_rfl) (by kernel_rfl) (fun _ _ _ h => h) (Or.inl ⟨by rfl, fun w' hSw => by (obtain ⟨x0, x1, x2, x3, x4, x5⟩ := hSw; go_simp)⟩) hHeld ?_
            change wpAnyH Try.prog _ _ _ _ _ _ { tmps := #[_, .slice Ad ds.length cd, _, .pointer (some ⟨w.heap.size, 0, none⟩), _, _, _, _, _, _, _, .int .i64 (k : Int), .pointer (some ⟨wr.heap.size, 0, none⟩), _, _, _, _, _, _, _, _, _, _, _, _, _, _, _, _, _, _, _, _, _, _, _, _, _, _, _, _, _, _, _, _, _, _, _, _, _, _, _, _, _, _, _, _, _, _, _, _, _, _, _, _, _, _, _, _, _, _, _, _, _, _, _, _, _, _, _, _, _, _, _, _, _, _, _, _, _, _, _, _, _, _, _, _, _, _, _, _, .pointer (some ⟨wr.heap.size, 0, none⟩), .int .i64 (k : Int), .int .i64 (k : Int), .bool false, .bool false, _, _, _, _, _, _, _, _, _, _, _, _, _, _, _, _, _, _, _, _, _, _, _, _, _, _, _, _, _, _, _, _, _, _], defers := [] } _
            refine wpAnyH_take (i := 5) (v := .pointer (some ⟨wr.heap.size, 1, none⟩)) rfl (by kernel_rfl) (by kernel_rfl) (by kernel_rfl) (fun _ _ _ h => h) (Or.inl ⟨by rfl, fun w' hSw => by (obtain ⟨x0, x1, x2, x3, x4, x5⟩ := hSw; go_simp)⟩) hHeld ?_
            change wpAnyH Try.prog _ _ _ _ _ _ { tmps := #[_, .slice Ad ds.length cd, _, .pointer (some ⟨w.heap.size, 0, none⟩), _, _, _, _, _, _, _, .int .i64 (k : Int), .pointer (some ⟨wr.heap.size, 0, none⟩), _, _, _, _, _, _, _, _, _, _, _, _, _, _, _, _, _, _, _, _, _, _, _, _, _, _, _, _, _, _, _, _, _, _, _, _, _, _, _, _, _, _, _, _, _, _, _, _, _, _, _, _, _, _, _, _, _, _, _, _, _, _, _, _, _, _, _, _, _, _, _, _, _, _, _, _, _, _, _, _, _, _, _, _, _, _, _, _, .pointer (some ⟨wr.heap.size, 0, none⟩), .int .i64 (k : Int), .int .i64 (k : Int), .bool false, .bool false, .pointer (some ⟨wr.heap.size, 1, none⟩), _, _, _, _, _, _, _, _, _, _, _, _, _, _, _, _, _, _, _, _, _, _, _, _, _, _, _, _, _, _, _, _, _], defers := [] } _
            refine wpAnyH_take (i := 6) (v := .slice ad (ownDeps ds k).length capd) rfl (by kernel_rfl) (by kernel_rfl) (by kernel_rfl) (fun _ _ _ h => h) (Or.inl ⟨by rfl, fun w' hSw => by (obtain ⟨x0, x1, x2, x3, x4, x5⟩ := hSw; go_simp)⟩) hHeld ?_
            change wpAnyH Try.prog _ _ _ _ _ _ { tmps := #[_, .slice Ad ds.length cd, _, .pointer (some ⟨w.heap.size, 0, none⟩), _, _, _, _, _, _, _, .int .i64 (k : Int), .pointer (some ⟨wr.heap.size, 0, none⟩), _, _, _, _, _, _, _, _, _, _, _, _, _, _, _, _, _, _, _, _, _, _, _, _, _, _, _, _, _, _, _, _, _, _, _, _, _, _, _, _, _, _, _, _, _, _, _, _, _, _, _, _, _, _, _, _, _, _, _, _, _, _, _, _, _, _, _, _, _, _, _, _, _, _, _, _, _, _, _, _, _, _, _, _, _, _, _, _, .pointer (some ⟨wr.heap.size, 0, none⟩), .int .i64 (k : Int), .int .i64 (k : Int), .bool false, .bool false, .pointer (some ⟨wr.heap.size, 1, none⟩), .slice ad (ownDeps ds k).length capd, _, _, _, _, _, _, _, _, _, _, _, _, _, _, _, _, _, _, _, _, _, _, _, _, _, _, _, _, _, _, _, _], defers := [] } _
            refine wpAnyH_take (i := 8) (v := .slice Ad ds.length cd) rfl (by kernel_rfl) (by kernel_rfl) (by kernel_rfl) (fun _ _ _ h => h) (Or.inl ⟨by rfl, fun w' hSw => by (obtain ⟨x0, x1, x2, x3, x4, x5⟩ := hSw; go_simp)⟩) hHeld ?_
            change wpAnyH Try.prog _ _ _ _ _ _ { tmps := #[_, .slice Ad ds.length cd, _, .pointer (some ⟨w.heap.size, 0, none⟩), _, _, _, _, _, _, _, .int .i64 (k : Int), .pointer (some ⟨wr.heap.size, 0, none⟩), _, _, _, _, _, _, _, _, _, _, _, _, _, _, _, _, _, _, _, _, _, _, _, _, _, _, _, _, _, _, _, _, _, _, _, _, _, _, _, _, _, _, _, _, _, _, _, _, _, _, _, _, _, _, _, _, _, _, _, _, _, _, _, _, _, _, _, _, _, _, _, _, _, _, _, _, _, _, _, _, _, _, _, _, _, _, _, _, .pointer (some ⟨wr.heap.size, 0, none⟩), .int .i64 (k : Int), .int .i64 (k : Int), .bool false, .bool false, .pointer (some ⟨wr.heap.size, 1, none⟩), .slice ad (ownDeps ds k).length capd, _, .slice Ad ds.length cd, _, _, _, _, _, _, _, _, _, _, _, _, _, _, _, _, _, _, _, _, _, _, _, _, _, _, _, _, _, _], defers := [] } _
            refine wpAnyH_take (i := 10) (v := .int .i64 (k : Int)) rfl (by kernel_rfl) (by kernel_rfl) (by kernel_rfl) (fun _ _ _ h => h) (Or.inl ⟨by rfl, fun w' hSw => by (obtain ⟨x0, x1, x2, x3, x4, x5⟩ := hSw; go_simp)⟩) hHeld ?_
            change wpAnyH Try.prog _ _ _ _ _ _ { tmps := #[_, .slice Ad ds.length cd, _, .pointer (some ⟨w.heap.size, 0, none⟩), _, _, _, _, _, _, _, .int .i64 (k : Int), .pointer (some ⟨wr.heap.size, 0, none⟩), _, _, _, _, _, _, _, _, _, _, _, _, _, _, _, _, _, _, _, _, _, _, _, _, _, _, _, _, _, _, _, _, _, _, _, _, _, _, _, _, _, _, _, _, _, _, _, _, _, _, _, _, _, _, _, _, _, _, _, _, _, _, _, _, _, _, _, _, _, _, _, _, _, _, _, _, _, _, _, _, _, _, _, _, _, _, _, _, .pointer (some ⟨wr.heap.size, 0, none⟩), .int .i64 (k : Int), .int .i64 (k : Int), .bool false, .bool false, .pointer (some ⟨wr.heap.size, 1, none⟩), .slice ad (ownDeps ds k).length capd, _, .slice Ad ds.length cd, _, .int .i64 (k : Int), _, _, _, _, _, _, _, _, _, _, _, _, _, _, _, _, _, _, _, _, _, _, _, _, _, _, _, _], defers := [] } _
            refine wpAnyH_ready (rs := [7]) (by kernel_rfl) (by simp) ?_
            refine AllReadyH.cons rfl (fun K hK => ?_) AllReadyH.nil
            go_simp
            refine (plain_any (ownDeps ds k) ad capd w7.drew (by omega) (RDK.out.below (Nat.le_refl _) ((Below.refl _ _).drew))).mono ?_
            rintro e w8 ⟨v8, rfl, own8, bel8⟩
            have B8 : Hid (Below w7.heap.size w7 w8) := ((Below.refl w7.heap.size w7).drew).trans bel8
            obtain ⟨a8, c8, rfl, _, rc8, _⟩ := rec_of_own (m := 3) (c := cD) (d := d0) (fun _ => rfl) (by decide) own8
            have R8 := Lib.hid rc8
            clear own8 bel8 rc8
            refine hK.out _ _ (KP.out _ B8.out) (fun hHeld => ?_)
            clear hK
            change wpAnyH Try.prog _ _ _ _ _ _ { tmps := #[_, .slice Ad ds.length cd, _, .pointer (some ⟨w.heap.size, 0, none⟩), _, _, _, _, _, _, _, .int .i64 (k : Int), .pointer (some ⟨wr.heap.size, 0, none⟩), _, _, _, _, _, _, _, _, _, _, _, _, _, _, _, _, _, _, _, _, _, _, _, _, _, _, _, _, _, _, _, _, _, _, _, _, _, _, _, _, _, _, _, _, _, _, _, _, _, _, _, _, _, _, _, _, _, _, _, _, _, _, _, _, _, _, _, _, _, _, _, _, _, _, _, _, _, _, _, _, _, _, _, _, _, _, _, _, .pointer (some ⟨wr.heap.size, 0, none⟩), .int .i64 (k : Int), .int .i64 (k : Int), .bool false, .bool false, .pointer (some ⟨wr.heap.size, 1, none⟩), .slice ad (ownDeps ds k).length capd, .slice a8 (ownDeps ds k).length c8, .slice Ad ds.length cd, _, .int .i64 (k : Int), _, _, _, _, _, _, _, _, _, _, _, _, _, _, _, _, _, _, _, _, _, _, _, _, _, _, _, _], defers := [] } _
            refine wpAnyH_ready (rs := [9]) (by kernel_rfl) (by simp) ?_
            refine AllReadyH.cons rfl (fun K hK => ?_) AllReadyH.nil
            go_simp
            refine (plain_any ds Ad cd w8 (by omega) (D1.out.below (Nat.le_refl _) (BF7.out _ B8.out))).mono ?_
            rintro e w9 ⟨v9, rfl, own9, bel9⟩
            have B9 : Hid (Below w7.heap.size w7 w9) := B8.out.trans (bel9.mono B8.out.size)
            obtain ⟨a9, c9, rfl, _, rc9, _⟩ := rec_of_own (m := 3) (c := cD) (d := d0) (fun _ => rfl) (by decide) own9
            have R9 := Lib.hid rc9
            have R8' := Lib.hid (R8.out.below (Nat.le_refl _) bel9)
            clear own9 bel9 rc9
            refine hK.out _ _ (KP.out _ B9.out) (fun hHeld => ?_)
            clear hK
            change wpAnyH Try.prog _ _ _ _ _ _ { tmps := #[_, .slice Ad ds.length cd, _, .pointer (some ⟨w.heap.size, 0, none⟩), _, _, _, _, _, _, _, .int .i64 (k : Int), .pointer (some ⟨wr.heap.size, 0, none⟩), _, _, _, _, _, _, _, _, _, _, _, _, _, _, _, _, _, _, _, _, _, _, _, _, _, _, _, _, _, _, _, _, _, _, _, _, _, _, _, _, _, _, _, _, _, _, _, _, _, _, _, _, _, _, _, _, _, _, _, _, _, _, _, _, _, _, _, _, _, _, _, _, _, _, _, _, _, _, _, _, _, _, _, _, _, _, _, _, .pointer (some ⟨wr.heap.size, 0, none⟩), .int .i64 (k : Int), .int .i64 (k : Int), .bool false, .bool false, .pointer (some ⟨wr.heap.size, 1, none⟩), .slice ad (ownDeps ds k).length capd, .slice a8 (ownDeps ds k).length c8, .slice Ad ds.length cd, .slice a9 ds.length c9, .int .i64 (k : Int), _, _, _, _, _, _, _, _, _, _, _, _, _, _, _, _, _, _, _, _, _, _, _, _, _, _, _, _], defers := [] } _
            refine wpAnyH_ready (rs := [11]) (by kernel_rfl) (by simp) ?_
            refine AllReadyH.cons rfl (fun K hK => ?_) AllReadyH.nil
            go_simp
            refine (own22_any ds a9 c9 (k : Int) w9 (by omega) R9.out).mono ?_
            rintro e w11 ⟨v11, rfl, own11, bel11⟩
            have B11 : Hid (Below w7.heap.size w7 w11) := B9.out.trans (bel11.mono B9.out.size)
            obtain ⟨a11, c11, rfl, _, rc11, _⟩ := rec_of_own (m := 3) (c := cD) (d := d0) (fun _ => rfl) (by decide) own11
            have R11 := Lib.hid rc11
            have R8x := Lib.hid (R8'.out.below (Nat.le_refl _) bel11)
            clear own11 bel11 rc11
            refine hK.out _ _ (KP.out _ B11.out) (fun hHeld => ?_)
            clear hK
            change wpAnyH Try.prog _ _ _ _ _ _ { tmps := #[_, .slice Ad ds.length cd, _, .pointer (some ⟨w.heap.size, 0, none⟩), _, _, _, _, _, _, _, .int .i64 (k : Int), .pointer (some ⟨wr.heap.size, 0, none⟩), _, _, _, _, _, _, _, _, _, _, _, _, _, _, _, _, _, _, _, _, _, _, _, _, _, _, _, _, _, _, _, _, _, _, _, _, _, _, _, _, _, _, _, _, _, _, _, _, _, _, _, _, _, _, _, _, _, _, _, _, _, _, _, _, _, _, _, _, _, _, _, _, _, _, _, _, _, _, _, _, _, _, _, _, _, _, _, _, .pointer (some ⟨wr.heap.size, 0, none⟩), .int .i64 (k : Int), .int .i64 (k : Int), .bool false, .bool false, .pointer (some ⟨wr.heap.size, 1, none⟩), .slice ad (ownDeps ds k).length capd, .slice a8 (ownDeps ds k).length c8, .slice Ad ds.length cd, .slice a9 ds.length c9, .int .i64 (k : Int), .slice a11 (ownDeps ds k).length c11, _, _, _, _, _, _, _, _, _, _, _, _, _, _, _, _, _, _, _, _, _, _, _, _, _, _, _], defers := [] } _
            refine wpAnyH_ready (rs := [12]) (by kernel_rfl) (by simp) ?_
            refine AllReadyH.cons rfl (fun K hK => ?_) AllReadyH.nil
            go_simp
            refine (eqRD_any (ownDeps ds k) (ownDeps ds k) a8 a11 c8 c11 w11 (by omega) (by omega) R8x.out R11.out).mono ?_
            rintro e w12 ⟨rfl, bel12⟩
            have B12 : Hid (Below w7.heap.size w7 w12) := B11.out.trans (bel12.mono B11.out.size)
            clear bel12
            rw [decide_eq_true (rfl : ownDeps ds k = ownDeps ds k)]
            refine hK.out _ _ (KP.out _ B12.out) (fun hHeld => ?_)
            clear hK
            change wpAnyH Try.prog _ _ _ _ _ _ { tmps := #[_, .slice Ad ds.length cd, _, .pointer (some ⟨w.heap.size, 0, none⟩), _, _, _, _, _, _, _, .int .i64 (k : Int), .pointer (some ⟨wr.heap.size, 0, none⟩), _, _, _, _, _, _, _, _, _, _, _, _, _, _, _, _, _, _, _, _, _, _, _, _, _, _, _, _, _, _, _, _, _, _, _, _, _, _, _, _, _, _, _, _, _, _, _, _, _, _, _, _, _, _, _, _, _, _, _, _, _, _, _, _, _, _, _, _, _, _, _, _, _, _, _, _, _, _, _, _, _, _, _, _, _, _, _, _, .pointer (some ⟨wr.heap.size, 0, none⟩), .int .i64 (k : Int), .int .i64 (k : Int), .bool false, .bool false, .pointer (some ⟨wr.heap.size, 1, none⟩), .slice ad (ownDeps ds k).length capd, .slice a8 (ownDeps ds k).length c8, .slice Ad ds.length cd, .slice a9 ds.length c9, .int .i64 (k : Int), .slice a11 (ownDeps ds k).length c11, .bool true, _, _, _, _, _, _, _, _, _, _, _, _, _, _, _, _, _, _, _, _, _, _, _, _, _, _], defers := [] } _
            refine wpAnyH_take (i := 13) (v := .bool false) rfl (by kernel_rfl) (by kernel_rfl) (by kernel_rfl) (fun _ _ _ h => h) (Or.inl ⟨by rfl, fun w' hSw => by (obtain ⟨x0, x1, x2, x3, x4, x5⟩ := hSw; go_simp)⟩) hHeld ?_
            change wpAnyH Try.prog _ _ _ _ _ _ { tmps := #[_, .slice Ad ds.length cd, _, .pointer (some ⟨w.heap.size, 0, none⟩), _, _, _, _, _, _, _, .int .i64 (k : Int), .pointer (some ⟨wr.heap.size, 0, none⟩), _, _, _, _, _, _, _, _, _, _, _, _, _, _, _, _, _, _, _, _, _, _, _, _, _, _, _, _, _, _, _, _, _, _, _, _, _, _, _, _, _, _, _, _, _, _, _, _, _, _, _, _, _, _, _, _, _, _, _, _, _, _, _, _, _, _, _, _, _, _, _, _, _, _, _, _, _, _, _, _, _, _, _, _, _, _, _, _, .pointer (some ⟨wr.heap.size, 0, none⟩), .int .i64 (k : Int), .int .i64 (k : Int), .bool false, .bool false, .pointer (some ⟨wr.heap.size, 1, none⟩), .slice ad (ownDeps ds k).length capd, .slice a8 (ownDeps ds k).length c8, .slice Ad ds.length cd, .slice a9 ds.length c9, .int .i64 (k : Int), .slice a11 (ownDeps ds k).length c11, .bool true, .bool false, _, _, _, _, _, _, _, _, _, _, _, _, _, _, _, _, _, _, _, _, _, _, _, _, _], defers := [] } _
            refine wpAnyH_take (i := 14) (v := .bool false) rfl (by kernel_rfl) (by kernel_rfl) (by kernel_rfl) (fun _ _ _ h => h) (Or.inl ⟨by rfl, fun w' hSw => by (obtain ⟨x0, x1, x2, x3, x4, x5⟩ := hSw; go_simp)⟩) hHeld ?_
            change wpAnyH Try.prog _ _ _ _ _ _ { tmps := #[_, .slice Ad ds.length cd, _, .pointer (some ⟨w.heap.size, 0, none⟩), _, _, _, _, _, _, _, .int .i64 (k : Int), .pointer (some ⟨wr.heap.size, 0, none⟩), _, _, _, _, _, _, _, _, _, _, _, _, _, _, _, _, _, _, _, _, _, _, _, _, _, _, _, _, _, _, _, _, _, _, _, _, _, _, _, _, _, _, _, _, _, _, _, _, _, _, _, _, _, _, _, _, _, _, _, _, _, _, _, _, _, _, _, _, _, _, _, _, _, _, _, _, _, _, _, _, _, _, _, _, _, _, _, _, .pointer (some ⟨wr.heap.size, 0, none⟩), .int .i64 (k : Int), .int .i64 (k : Int), .bool false, .bool false, .pointer (some ⟨wr.heap.size, 1, none⟩), .slice ad (ownDeps ds k).length capd, .slice a8 (ownDeps ds k).length c8, .slice Ad ds.length cd, .slice a9 ds.length c9, .int .i64 (k : Int), .slice a11 (ownDeps ds k).length c11, .bool true, .bool false, .bool false, _, _, _, _, _, _, _, _, _, _, _, _, _, _, _, _, _, _, _, _, _, _, _, _], defers := [] } _
            refine wpAnyH_take (i := 15) (v := .bool false) rfl (by kernel_rfl) (by kernel_rfl) (by kernel_rfl) (fun _ _ _ h => h) (Or.inl ⟨by rfl, fun w' hSw => by (obtain ⟨x0, x1, x2, x3, x4, x5⟩ := hSw; go_simp)⟩) hHeld ?_
            change wpAnyH Try.prog _ _ _ _ _ _ { tmps := #[_, .slice Ad ds.length cd, _, .pointer (some ⟨w.heap.size, 0, none⟩), _, _, _, _, _, _, _, .int .i64 (k : Int), .pointer (some ⟨wr.heap.size, 0, none⟩), _, _, _, _, _, _, _, _, _, _, _, _, _, _, _, _, _, _, _, _, _, _, _, _, _, _, _, _, _, _, _, _, _, _, _, _, _, _, _, _, _, _, _, _, _, _, _, _, _, _, _, _, _, _, _, _, _, _, _, _, _, _, _, _, _, _, _, _, _, _, _, _, _, _, _, _, _, _, _, _, _, _, _, _, _, _, _, _, .pointer (some ⟨wr.heap.size, 0, none⟩), .int .i64 (k : Int), .int .i64 (k : Int), .bool false, .bool false, .pointer (some ⟨wr.heap.size, 1, none⟩), .slice ad (ownDeps ds k).length capd, .slice a8 (ownDeps ds k).length c8, .slice Ad ds.length cd, .slice a9 ds.length c9, .int .i64 (k : Int), .slice a11 (ownDeps ds k).length c11, .bool true, .bool false, .bool false, .bool false, _, _, _, _, _, _, _, _, _, _, _, _, _, _, _, _, _, _, _, _, _, _, _], defers := [] } _
            refine wpAnyH_take (i := 16) (v := .agg #[.slice An ns.length cn, .slice Ac cs.length cc]) rfl (by kernel_rfl) (by kernel_rfl) (by kernel_rfl) (fun _ _ _ h => h) (Or.inl ⟨by rfl, fun w' hSw => by (obtain ⟨x0, x1, x2, x3, x4, x5⟩ := hSw; go_simp)⟩) hHeld ?_
            change wpAnyH Try.prog _ _ _ _ _ _ { tmps := #[_, .slice Ad ds.length cd, _, .pointer (some ⟨w.heap.size, 0, none⟩), _, _, _, _, _, _, _, .int .i64 (k : Int), .pointer (some ⟨wr.heap.size, 0, none⟩), _, _, _, _, _, _, _, _, _, _, _, _, _, _, _, _, _, _, _, _, _, _, _, _, _, _, _, _, _, _, _, _, _, _, _, _, _, _, _, _, _, _, _, _, _, _, _, _, _, _, _, _, _, _, _, _, _, _, _, _, _, _, _, _, _, _, _, _, _, _, _, _, _, _, _, _, _, _, _, _, _, _, _, _, _, _, _, _, .pointer (some ⟨wr.heap.size, 0, none⟩), .int .i64 (k : Int), .int .i64 (k : Int), .bool false, .bool false, .pointer (some ⟨wr.heap.size, 1, none⟩), .slice ad (ownDeps ds k).length capd, .slice a8 (ownDeps ds k).length c8, .slice Ad ds.length cd, .slice a9 ds.length c9, .int .i64 (k : Int), .slice a11 (ownDeps ds k).length c11, .bool true, .bool false, .bool false, .bool false, .agg #[.slice An ns.length cn, .slice Ac cs.length cc], _, _, _, _, _, _, _, _, _, _, _, _, _, _, _, _, _, _, _, _, _, _], defers := [] } _
            refine wpAnyH_take (i := 17) (v := .pointer (some ⟨wr.heap.size, 2, none⟩)) rfl (by kernel_rfl) (by kernel_rfl) (by kernel_rfl) (fun _ _ _ h => h) (Or.inl ⟨by rfl, fun w' hSw => by (obtain ⟨x0, x1, x2, x3, x4, x5⟩ := hSw; go_simp)⟩) hHeld ?_
            change wpAnyH Try.prog _ _ _ _ _ _ { tmps := #[_, .slice Ad ds.length cd, _, .pointer (some ⟨w.heap.size, 0, none⟩), _, _, _, _, _, _, _, .int .i64 (k : Int), .pointer (some ⟨wr.heap.size, 0, none⟩), _, _, _, _, _, _, _, _, _, _, _, _, _, _, _, _, _, _, _, _, _, _, _, _, _, _, _, _, _, _, _, _, _, _, _, _, _, _, _, _, _, _, _, _, _, _, _, _, _, _, _, _, _, _, _, _, _, _, _, _, _, _, _, _, _, _, _, _, _, _, _, _, _, _, _, _, _, _, _, _, _, _, _, _, _, _, _, _, .pointer (some ⟨wr.heap.size, 0, none⟩), .int .i64 (k : Int), .int .i64 (k : Int), .bool false, .bool false, .pointer (some ⟨wr.heap.size, 1, none⟩), .slice ad (ownDeps ds k).length capd, .slice a8 (ownDeps ds k).length c8, .slice Ad ds.length cd, .slice a9 ds.length c9, .int .i64 (k : Int), .slice a11 (ownDeps ds k).length c11, .bool true, .bool false, .bool false, .bool false, .agg #[.slice An ns.length cn, .slice Ac cs.length cc], .pointer (some ⟨wr.heap.size, 2, none⟩), _, _, _, _, _, _, _, _, _, _, _, _, _, _, _, _, _, _, _, _, _], defers := [] } _
            refine wpAnyH_take (i := 18) (v := .map (some (mb k))) rfl (by kernel_rfl) (by kernel_rfl) (by kernel_rfl) (fun _ _ _ h => h) (Or.inl ⟨by rfl, fun w' hSw => by (obtain ⟨x0, x1, x2, x3, x4, x5⟩ := hSw; go_simp)⟩) hHeld ?_
            change wpAnyH Try.prog _ _ _ _ _ _ { tmps := #[_, .slice Ad ds.length cd, _, .pointer (some ⟨w.heap.size, 0, none⟩), _, _, _, _, _, _, _, .int .i64 (k : Int), .pointer (some ⟨wr.heap.size, 0, none⟩), _, _, _, _, _, _, _, _, _, _, _, _, _, _, _, _, _, _, _, _, _, _, _, _, _, _, _, _, _, _, _, _, _, _, _, _, _, _, _, _, _, _, _, _, _, _, _, _, _, _, _, _, _, _, _, _, _, _, _, _, _, _, _, _, _, _, _, _, _, _, _, _, _, _, _, _, _, _, _, _, _, _, _, _, _, _, _, _, .pointer (some ⟨wr.heap.size, 0, none⟩), .int .i64 (k : Int), .int .i64 (k : Int), .bool false, .bool false, .pointer (some ⟨wr.heap.size, 1, none⟩), .slice ad (ownDeps ds k).length capd, .slice a8 (ownDeps ds k).length c8, .slice Ad ds.length cd, .slice a9 ds.length c9, .int .i64 (k : Int), .slice a11 (ownDeps ds k).length c11, .bool true, .bool false, .bool false, .bool false, .agg #[.slice An ns.length cn, .slice Ac cs.length cc], .pointer (some ⟨wr.heap.size, 2, none⟩), .map (some (mb k)), _, _, _, _, _, _, _, _, _, _, _, _, _, _, _, _, _, _, _, _], defers := [] } _
            refine wpAnyH_take (i := 20) (v := .int .i64 (k : Int)) rfl (by kernel_rfl) (by kernel_rfl) (by kernel_rfl) (fun _ _ _ h => h) (Or.inl ⟨by rfl, fun w' hSw => by (obtain ⟨x0, x1, x2, x3, x4, x5⟩ := hSw; go_simp)⟩) hHeld ?_
            change wpAnyH Try.prog _ _ _ _ _ _ { tmps := #[_, .slice Ad ds.length cd, _, .pointer (some ⟨w.heap.size, 0, none⟩), _, _, _, _, _, _, _, .int .i64 (k : Int), .pointer (some ⟨wr.heap.size, 0, none⟩), _, _, _, _, _, _, _, _, _, _, _, _, _, _, _, _, _, _, _, _, _, _, _, _, _, _, _, _, _, _, _, _, _, _, _, _, _, _, _, _, _, _, _, _, _, _, _, _, _, _, _, _, _, _, _, _, _, _, _, _, _, _, _, _, _, _, _, _, _, _, _, _, _, _, _, _, _, _, _, _, _, _, _, _, _, _, _, _, .pointer (some ⟨wr.heap.size, 0, none⟩), .int .i64 (k : Int), .int .i64 (k : Int), .bool false, .bool false, .pointer (some ⟨wr.heap.size, 1, none⟩), .slice ad (ownDeps ds k).length capd, .slice a8 (ownDeps ds k).length c8, .slice Ad ds.length cd, .slice a9 ds.length c9, .int .i64 (k : Int), .slice a11 (ownDeps ds k).length c11, .bool true, .bool false, .bool false, .bool false, .agg #[.slice An ns.length cn, .slice Ac cs.length cc], .pointer (some ⟨wr.heap.size, 2, none⟩), .map (some (mb k)), _, .int .i64 (k : Int), _, _, _, _, _, _, _, _, _, _, _, _, _, _, _, _, _, _], defers := [] } _
            refine wpAnyH_ready (rs := [19]) (by kernel_rfl) (by simp) ?_
            refine AllReadyH.cons rfl (fun K hK => ?_) AllReadyH.nil
            go_simp
            refine (channels_any (some (mb k)) (ranksOf cs r k) w12 (.inr ⟨_, rfl, M7.out.below B12.out M7.out.lt⟩) SMk).mono ?_
            rintro e w19 ⟨v19, rfl, own19, bel19⟩
            have B19 : Hid (Below w7.heap.size w7 w19) := B12.out.trans (bel19.mono B12.out.size)
            rw [sortE_ranksOf] at own19
            obtain ⟨a19, c19, rfl, _, rc19, _⟩ := rec_of_own (m := 1) (c := cI) (d := 0) (fun _ => rfl) (by decide) own19
            have R19 := Lib.hid rc19
            clear own19 bel19 rc19
            refine hK.out _ _ (KP.out _ B19.out) (fun hHeld => ?_)
            clear hK
            change wpAnyH Try.prog _ _ _ _ _ _ { tmps := #[_, .slice Ad ds.length cd, _, .pointer (some ⟨w.heap.size, 0, none⟩), _, _, _, _, _, _, _, .int .i64 (k : Int), .pointer (some ⟨wr.heap.size, 0, none⟩), _, _, _, _, _, _, _, _, _, _, _, _, _, _, _, _, _, _, _, _, _, _, _, _, _, _, _, _, _, _, _, _, _, _, _, _, _, _, _, _, _, _, _, _, _, _, _, _, _, _, _, _, _, _, _, _, _, _, _, _, _, _, _, _, _, _, _, _, _, _, _, _, _, _, _, _, _, _, _, _, _, _, _, _, _, _, _, _, .pointer (some ⟨wr.heap.size, 0, none⟩), .int .i64 (k : Int), .int .i64 (k : Int), .bool false, .bool false, .pointer (some ⟨wr.heap.size, 1, none⟩), .slice ad (ownDeps ds k).length capd, .slice a8 (ownDeps ds k).length c8, .slice Ad ds.length cd, .slice a9 ds.length c9, .int .i64 (k : Int), .slice a11 (ownDeps ds k).length c11, .bool true, .bool false, .bool false, .bool false, .agg #[.slice An ns.length cn, .slice Ac cs.length cc], .pointer (some ⟨wr.heap.size, 2, none⟩), .map (some (mb k)), .slice a19 (chansAt cs k).length c19, .int .i64 (k : Int), _, _, _, _, _, _, _, _, _, _, _, _, _, _, _, _, _, _], defers := [] } _
            refine wpAnyH_ready (rs := [21]) (by kernel_rfl) (by simp) ?_
            refine AllReadyH.cons rfl (fun K hK => ?_) AllReadyH.nil
            go_simp
            refine (exact_any cs (chansAt cs k) An Ac a19 ns.length cn cc c19 (k : Int) w19 (by omega) hsl (H1.out.below (Nat.le_refl _) (BF7.out _ B19.out)).2 R19.out).mono ?_
            rintro e w21 ⟨rfl, bel21⟩
            have B21 : Hid (Below w7.heap.size w7 w21) := B19.out.trans (bel21.mono B19.out.size)
            clear bel21
            rw [EX.out]
            refine hK.out _ _ (KP.out _ B21.out) (fun hHeld => ?_)
            clear hK
            change wpAnyH Try.prog _ _ _ _ _ _ { tmps := #[_, .slice Ad ds.length cd, _, .pointer (some ⟨w.heap.size, 0, none⟩), _, _, _, _, _, _, _, .int .i64 (k : Int), .pointer (some ⟨wr.heap.size, 0, none⟩), _, _, _, _, _, _, _, _, _, _, _, _, _, _, _, _, _, _, _, _, _, _, _, _, _, _, _, _, _, _, _, _, _, _, _, _, _, _, _, _, _, _, _, _, _, _, _, _, _, _, _, _, _, _, _, _, _, _, _, _, _, _, _, _, _, _, _, _, _, _, _, _, _, _, _, _, _, _, _, _, _, _, _, _, _, _, _, _, .pointer (some ⟨wr.heap.size, 0, none⟩), .int .i64 (k : Int), .int .i64 (k : Int), .bool false, .bool false, .pointer (some ⟨wr.heap.size, 1, none⟩), .slice ad (ownDeps ds k).length capd, .slice a8 (ownDeps ds k).length c8, .slice Ad ds.length cd, .slice a9 ds.length c9, .int .i64 (k : Int), .slice a11 (ownDeps ds k).length c11, .bool true, .bool false, .bool false, .bool false, .agg #[.slice An ns.length cn, .slice Ac cs.length cc], .pointer (some ⟨wr.heap.size, 2, none⟩), .map (some (mb k)), .slice a19 (chansAt cs k).length c19, .int .i64 (k : Int), .int .i64 0, _, _, _, _, _, _, _, _, _, _, _, _, _, _, _, _, _], defers := [] } _
            refine wpAnyH_take (i := 22) (v := .bool false) rfl (by kernel_rfl) (by kernel_rfl) (by kernel_rfl) (fun _ _ _ h => h) (Or.inl ⟨by rfl, fun w' hSw => by (obtain ⟨x0, x1, x2, x3, x4, x5⟩ := hSw; go_simp)⟩) hHeld ?_
            change wpAnyH Try.prog _ _ _ _ _ _ { tmps := #[_, .slice Ad ds.length cd, _, .pointer (some ⟨w.heap.size, 0, none⟩), _, _, _, _, _, _, _, .int .i64 (k : Int), .pointer (some ⟨wr.heap.size, 0, none⟩), _, _, _, _, _, _, _, _, _, _, _, _, _, _, _, _, _, _, _, _, _, _, _, _, _, _, _, _, _, _, _, _, _, _, _, _, _, _, _, _, _, _, _, _, _, _, _, _, _, _, _, _, _, _, _, _, _, _, _, _, _, _, _, _, _, _, _, _, _, _, _, _, _, _, _, _, _, _, _, _, _, _, _, _, _, _, _, _, .pointer (some ⟨wr.heap.size, 0, none⟩), .int .i64 (k : Int), .int .i64 (k : Int), .bool false, .bool false, .pointer (some ⟨wr.heap.size, 1, none⟩), .slice ad (ownDeps ds k).length capd, .slice a8 (ownDeps ds k).length c8, .slice Ad ds.length cd, .slice a9 ds.length c9, .int .i64 (k : Int), .slice a11 (ownDeps ds k).length c11, .bool true, .bool false, .bool false, .bool false, .agg #[.slice An ns.length cn, .slice Ac cs.length cc], .pointer (some ⟨wr.heap.size, 2, none⟩), .map (some (mb k)), .slice a19 (chansAt cs k).length c19, .int .i64 (k : Int), .int .i64 0, .bool false, _, _, _, _, _, _, _, _, _, _, _, _, _, _, _, _], defers := [] } _
            refine wpAnyH_take (i := 23) (v := .bool false) rfl (by kernel_rfl) (by kernel_rfl) (by kernel_rfl) (fun _ _ _ h => h) (Or.inl ⟨by rfl, fun w' hSw => by (obtain ⟨x0, x1, x2, x3, x4, x5⟩ := hSw; go_simp)⟩) hHeld ?_
            change wpAnyH Try.prog _ _ _ _ _ _ { tmps := #[_, .slice Ad ds.length cd, _, .pointer (some ⟨w.heap.size, 0, none⟩), _, _, _, _, _, _, _, .int .i64 (k : Int), .pointer (some ⟨wr.heap.size, 0, none⟩), _, _, _, _, _, _, _, _, _, _, _, _, _, _, _, _, _, _, _, _, _, _, _, _, _, _, _, _, _, _, _, _, _, _, _, _, _, _, _, _, _, _, _, _, _, _, _, _, _, _, _, _, _, _, _, _, _, _, _, _, _, _, _, _, _, _, _, _, _, _, _, _, _, _, _, _, _, _, _, _, _, _, _, _, _, _, _, _, .pointer (some ⟨wr.heap.size, 0, none⟩), .int .i64 (k : Int), .int .i64 (k : Int), .bool false, .bool false, .pointer (some ⟨wr.heap.size, 1, none⟩), .slice ad (ownDeps ds k).length capd, .slice a8 (ownDeps ds k).length c8, .slice Ad ds.length cd, .slice a9 ds.length c9, .int .i64 (k : Int), .slice a11 (ownDeps ds k).length c11, .bool true, .bool false, .bool false, .bool false, .agg #[.slice An ns.length cn, .slice Ac cs.length cc], .pointer (some ⟨wr.heap.size, 2, none⟩), .map (some (mb k)), .slice a19 (chansAt cs k).length c19, .int .i64 (k : Int), .int .i64 0, .bool false, .bool false, _, _, _, _, _, _, _, _, _, _, _, _, _, _, _], defers := [] } _
            refine wpAnyH_done (by kernel_rfl) ?_ _
            obtain ⟨x0, x1, x2, x3, x4, _⟩ := KP.out w21 B21.out
            obtain ⟨HT, D, hown, hents⟩ := M7.out.below B21.out M7.out.lt
            have HEN := Lib.hid hents
            have B21w : Hid (Below w4.heap.size w4 w21) := BG7.out _ B21.out
            have BB21 : Hid (Below w1.heap.size w1 w21) := BF7.out _ B21.out
            have hmbl := hown.lt
            clear hents
            go_wp2_with (first
              | (at_range; refine wpList_range_own _ rfl _ 39 rfl 3 3 (int_keyed Try.underlying3) Try.underlying39 _ (mb k) _ _ rfl hown ?_; intro w22 hrg0 hg0 hs0)
              | go_in)
            go_frame
            go_loopw [13] (fun _ wx => ∃ (left : Lit → Bool) (cnt : Nat), wx.ranges Try.prog 3 (plainElem Try.prog 3) (mb k) w21.heap.size (ranksOf cs r k).length D left cnt ∧ Below w21.heap.size w21 wx)
              (fun _ wx => wx.rangeLeft (mb k) w21.heap.size)
            case atStart =>
              exact ⟨_, _, hrg0, ⟨hg0.os, hg0.tape, hg0.output, hg0.size, fun i hi => hg0.block i hi (by simp)⟩⟩
            case round =>
              obtain ⟨left, cnt, hrg, bel⟩ := hrel
              have bs := bel.size
              have BX := Lib.hid bel
              clear hown hrg0 hg0 hs0 x0 x1 x2 x3 x4 bel
              go_wp2_with (first
                | (at_next; refine wpList_next_ranges_ii _ rfl _ rfl 3 3 .i64 .i64 (int_keyed Try.underlying3) Try.underlying3 Try.underlying3 (mb k) w21.heap.size (ranksOf cs r k).length _ _ _ rfl hrg ?_ ?_)
                | go_in)
              · intro _ hl0
                have R : Hid (RelB ns.length w4 (.int .i64 ((k + 1 : Nat) : Int)) wr) := ⟨k + 1, by omega, rfl, B21w.out.trans (BX.out.mono B21w.out.size)⟩
                clear hrg hl0
                go_wp2_with fail
                exact ⟨by simpa using R.out, by simp [RowKit.intOf]; omega⟩
              · intro x c wy cnt1 hwx hwc hlx hat hrg1 hlt hg1 hs1 hen
                have hlk := look_of_at HEN.out hat
                rw [lookE_ranksOf] at hlk
                by_cases hxm : x ∈ chansAt cs k
                · rw [if_pos hxm] at hlk
                  injection hlk with hlk
                  have hxb := mem_chansAt.1 hxm
                  obtain ⟨xn, rfl⟩ : ∃ xn : Nat, x = xn := ⟨x.toNat, by omega⟩
                  have hxr : xn < r.length := by omega
                  have BY : Hid (Below w21.heap.size w21 wy) := BX.out.grown hg1 bs (by intro g' e; injection e with e; omega)
                  have BBY : Hid (Below w1.heap.size w1 wy) := BB21.out.trans (BY.out.mono BB21.out.size)
                  obtain ⟨br, orr, rfl, _, hcr⟩ := (R1.out.below (Nat.le_refl _) BBY.out).2 (by omega)
                  have y0 : wy.cell? ⟨br, orr + xn, none⟩ = some (.int .i64 c) := by
                    have h := hcr xn 0 hxr (by omega)
                    rw [show r.getD xn 0 = c from hlk] at h
                    simpa [cI] using h
                  have RR := Lib.hid hrg1
                  have HRG := Lib.hid hrg
                  have q9 : (c != c) = false := by simp
                  clear hat hs1 hg1 hrg hrg1 hcr hlk hxm hxb hlx hwx hwc
                  go_wp2_with fail
                  go_roundw
                  case rel => exact ⟨_, _, RR.out, BY.out⟩
                  case measure => rw [RR.out.left_eq, HRG.out.left_eq]; exact hlt
                · rw [if_neg hxm] at hlk; cases hlk
          · obtain rfl : k = ns.length := by omega
            obtain ⟨u0, u1, szr, bwr⟩ := KC.out wr BB.out
            have BWR := Lib.hid bwr
            clear bwr
            go_wp2_with fail
            go_ret
            exact ⟨rfl, BWR.out⟩
end Go.Proofs.Ytjhbjifhponciaa.localSplitsW
