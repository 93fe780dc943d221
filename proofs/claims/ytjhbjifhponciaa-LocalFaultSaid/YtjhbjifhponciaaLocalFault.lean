/- The walk of the law LocalFault: it returns true. -/
import Derived.Test.YtjhbjifhponciaaLFaultLaw
import Derived.Test.YtjhbjifhponciaaLClone
namespace Go.Proofs.Ytjhbjifhponciaa.localFaultW
open Go.RowKit Go.Maps
set_option linter.unusedVariables false

def Done (w : World) (e : Ending) (w' : World) : Prop := e = .returned (.bool true) ∧ Below w.heap.size w w'

set_option maxRecDepth 100000 in
set_option maxHeartbeats 4000000 in
theorem walk (An Ac : Option Addr) (cn cc : Nat) (p : Pl) (Ad : Option Addr) (cd : Nat) (ds : List Dp) (Ar : Option Addr) (cr : Nat) (r : List Int) (which : Int) (w : World)
    (hp : IsPlan w An Ac p) (hwf : WfP p) (hd : IsRec 3 cD d0 w Ad ds.length ds) (hwd : WfD ds) (hr : IsRec 1 cI 0 w Ar r.length r) (hwr : WfI r) (hwh : (Lit.int .u8 which).wf = true) :
    Calls Try.prog 7 #[.agg #[.slice An p.ns.length cn, .slice Ac p.cs.length cc], .slice Ad ds.length cd, .slice Ar r.length cr, .int .u8 which] w (Done w) := by
  obtain ⟨ns, cs⟩ := p
  simp only
  have HW := Lib.hid hwf
  have HWD := Lib.hid hwd
  have HWR := Lib.hid hwr
  obtain ⟨w1, hw1⟩ : ∃ w1 : World, w.alloc (.cells #[.slice An ns.length cn, .slice Ac cs.length cc] 25) = w1 := ⟨_, rfl⟩
  have s0 : w1.cell? ⟨w.heap.size, 0, none⟩ = some (.slice An ns.length cn) := by rw [← hw1]; simp [go_sem]
  have s1 : w1.cell? ⟨w.heap.size, 1, none⟩ = some (.slice Ac cs.length cc) := by rw [← hw1]; simp [go_sem]
  have sz1 : w.heap.size < w1.heap.size := by rw [← hw1]; simp
  have BW0 : Below w.heap.size w w1 := by rw [← hw1]; exact (Below.refl _ _).alloc (Nat.le_refl _) _
  have BW := Lib.hid BW0
  have H1 := Lib.hid (hp.below (Nat.le_refl _) BW0)
  have D1 := Lib.hid (hd.below (Nat.le_refl _) BW0)
  have R1 := Lib.hid (hr.below (Nat.le_refl _) BW0)
  have HW1 := Lib.hid hw1
  have KC : Hid (∀ w', Below w1.heap.size w1 w' → w'.cell? ⟨w.heap.size, 0, none⟩ = some (.slice An ns.length cn) ∧ w'.cell? ⟨w.heap.size, 1, none⟩ = some (.slice Ac cs.length cc) ∧ w.heap.size < w'.heap.size ∧ Below w.heap.size w w') :=
    fun w' hb => ⟨(hb.cell (by exact sz1)).trans s0, (hb.cell (by exact sz1)).trans s1, by have := hb.size; omega, BW0.trans (hb.mono (by omega))⟩
  clear hp hd hr hw1 hwf hwd hwr BW0
  go_enter Try.func7, Try.ntmps7
  go_wp2_with fail
  rw [HW1.out]
  refine (awake_any _).mono ?_
  rintro e w2 ⟨rfl, bel2⟩
  have B2 := Lib.hid bel2
  clear bel2 s0 s1
  obtain ⟨u0, u1, sz2, bw2⟩ := KC.out w2 B2.out
  cases hg : greatB ns.length cs.length ds.length with
  | true =>
    have HG := Lib.hid hg
    have BF := Lib.hid (bw2.alloc (by omega) (.cells #[.slice An ns.length cn, .slice Ac cs.length cc] 25))
    clear hg bw2
    go_wp2_with fail
    refine (great_any An Ac Ad ns.length cs.length ds.length cn cc cd _ _ HG.out).mono ?_
    rintro e w3 ⟨rfl, rfl⟩
    go_wp2_with fail
    go_ret
    exact ⟨rfl, BF.out⟩
  | false =>
    have HG := Lib.hid hg
    have hgb : ns.length ≤ 20 ∧ cs.length ≤ 40 ∧ ds.length ≤ 100 := by simp [greatB] at hg; omega
    obtain ⟨g1, g2, g3⟩ := hgb
    have BF := Lib.hid (bw2.alloc (by omega) (.cells #[.slice An ns.length cn, .slice Ac cs.length cc] 25))
    have B3 := Lib.hid (B2.out.alloc B2.out.size (.cells #[.slice An ns.length cn, .slice Ac cs.length cc] 25))
    clear hg bw2
    by_cases hd0 : ds.length = 0
    · have q0 : ((ds.length : Int) == 0) = true := by simp [hd0]
      clear hd0
      go_wp2_with fail
      refine (great_any An Ac Ad ns.length cs.length ds.length cn cc cd _ _ HG.out).mono ?_
      rintro e w3 ⟨rfl, rfl⟩
      go_wp2_with fail
      go_ret
      exact ⟨rfl, BF.out⟩
    have q0 : ((ds.length : Int) == 0) = false := by simp; intro h; exact hd0 (by rw [h]; rfl)
    by_cases hr1 : 100 < r.length
    · have q1 : decide (100 < (r.length : Int)) = true := decide_eq_true (by omega)
      go_wp2_with fail
      refine (great_any An Ac Ad ns.length cs.length ds.length cn cc cd _ _ HG.out).mono ?_
      rintro e w3 ⟨rfl, rfl⟩
      go_wp2_with fail
      go_ret
      exact ⟨rfl, BF.out⟩
    have q1 : decide (100 < (r.length : Int)) = false := decide_eq_false (by omega)
    go_wp2_with fail
    refine (great_any An Ac Ad ns.length cs.length ds.length cn cc cd _ _ HG.out).mono ?_
    rintro e w3 ⟨rfl, hw3⟩
    have B3' : Below w1.heap.size w1 w3 := by rw [← hw3]; exact B3.out
    have BB3 := Lib.hid B3'
    clear u0 u1 hw3 B3' B3 BF
    obtain ⟨u0, u1, sz3, bw3⟩ := KC.out w3 BB3.out
    have H3 := Lib.hid (H1.out.below (Nat.le_refl _) BB3.out)
    have D3 := Lib.hid (D1.out.below (Nat.le_refl _) BB3.out)
    have R3 := Lib.hid (R1.out.below (Nat.le_refl _) BB3.out)
    clear bw3
    go_wp2_with fail
    refine (split_any ⟨ns, cs⟩ An Ac Ad Ar cn cc cd cr ds r _ (by show ns.length ≤ _; omega) (by show cs.length ≤ _; omega) HW.out (by omega) (by omega) HWD.out HWR.out H3.out D3.out R3.out).mono ?_
    rintro e w4 ⟨bel4, hcase⟩
    have B4 := Lib.hid (BB3.out.trans (bel4.mono BB3.out.size))
    clear u0 u1
    obtain ⟨u0, u1, sz4, bw4⟩ := KC.out w4 B4.out
    have BW4 := Lib.hid bw4
    clear bw4
    rcases hcase with ⟨hne, rfl⟩ | ⟨he0, g, dv, mb, rfl, hok⟩
    · have q2 : (splitErr ⟨ns, cs⟩ ds r != 0) = true := by simpa using hne
      generalize splitErr ⟨ns, cs⟩ ds r = er at *
      clear hne bel4
      go_wp2_with fail
      go_ret
      exact ⟨rfl, BW4.out⟩
    · clear hok bel4
      have HE0 := Lib.hid he0
      clear he0
      have hwb : 0 ≤ which ∧ which ≤ 255 := by
        have e1 : IntKind.u8.min = 0 := by decide
        have e2 : IntKind.u8.max = 255 := by decide
        simpa only [Lit.wf, Bool.and_eq_true, decide_eq_true_eq, e1, e2] using hwh
      obtain ⟨wh0, wh1⟩ := hwb
      have hlp : 0 < ds.length := by omega
      obtain ⟨k, hk⟩ : ∃ k : Nat, which % (ds.length : Int) = k := ⟨(which % (ds.length : Int)).toNat, by have := Int.emod_nonneg which (b := ds.length) (by omega); omega⟩
      have hkl : k < ds.length := by have := Int.emod_lt_of_pos which (b := ds.length) (by omega); omega
      obtain ⟨bb, off, ha, hbb, hmem, c0, c1, c2⟩ := dep_at (D1.out.below (Nat.le_refl _) B4.out) k hkl
      have hfits := (split0_inv HE0.out).2.2 _ hmem
      generalize ds.getD k d0 = x at *
      obtain ⟨df, dt, dn⟩ := x
      simp only at c0 c1 c2 hfits
      obtain ⟨⟨n0, n1⟩, _, ⟨f0, f1⟩, ⟨t0, t1⟩, _, _⟩ := fits_inv hfits
      simp only at n1 f1 t1
      obtain ⟨f, rfl⟩ : ∃ f : Nat, df = f := ⟨df.toNat, by omega⟩
      obtain ⟨t, rfl⟩ : ∃ t : Nat, dt = t := ⟨dt.toNat, by omega⟩
      obtain ⟨n, rfl⟩ : ∃ n : Nat, dn = n := ⟨dn.toNat, by omega⟩
      obtain ⟨hn, hf, ht, hcheck⟩ := fault_law HE0.out hmem
      simp only at hn
      have HCK := Lib.hid hcheck
      subst ha
      clear hcheck hmem hfits f1 t1 n1 hwh
      have b1 : ((f : Int) < 0) = False := by simp
      have b2 : ((t : Int) < 0) = False := by simp
      have b3 : decide ((r.length : Int) ≤ (f : Int)) = false := decide_eq_false (by omega)
      have b4 : decide ((r.length : Int) ≤ (t : Int)) = false := decide_eq_false (by omega)
      have b5 : decide ((ns.length : Int) ≤ (n : Int)) = false := decide_eq_false (by omega)
      have R4 := Lib.hid ((R1.out.below (Nat.le_refl _) B4.out).alloc (.cells #[.int .i64 (f : Int), .int .i64 (t : Int), .int .i64 (n : Int)] 36))
      have B4a := Lib.hid (B4.out.alloc B4.out.size (.cells #[.int .i64 (f : Int), .int .i64 (t : Int), .int .i64 (n : Int)] 36))
      go_wp2_with fail
      clear c0 c1 c2 u0 u1 b1 b2 b3 b4 b5
      refine (cloneI_any Ar cr r _ (by omega) (by omega) R4.out).mono ?_
      rintro e w5 ⟨v, rfl, own5, bel5⟩
      have B5 := Lib.hid (B4a.out.trans (bel5.mono B4a.out.size))
      have y0 : w5.cell? ⟨w4.heap.size, 0, none⟩ = some (.int .i64 (f : Int)) := (bel5.cell (by simp)).trans (by simp [go_sem])
      have y1 : w5.cell? ⟨w4.heap.size, 1, none⟩ = some (.int .i64 (t : Int)) := (bel5.cell (by simp)).trans (by simp [go_sem])
      have y2 : w5.cell? ⟨w4.heap.size, 2, none⟩ = some (.int .i64 (n : Int)) := (bel5.cell (by simp)).trans (by simp [go_sem])
      obtain ⟨rb, ro, har, hrb, _, cf⟩ := int_at (R1.out.below (Nat.le_refl _) B5.out) f hf
      obtain ⟨rb2, ro2, har2, _, _, ct⟩ := int_at (R1.out.below (Nat.le_refl _) B5.out) t ht
      have hrb1 : rb < w1.heap.size := by
        obtain ⟨b', o', e', hb', _⟩ := R1.out.2 (by omega)
        rw [har] at e'; injection e' with e'; injection e' with e1 e2; subst e1; exact hb'
      rw [har] at har2
      injection har2 with har2
      injection har2 with h1 h2
      subst h1
      subst h2
      obtain ⟨g2, cap2, hv2, hg2, hg2l⟩ := own5.form (by omega)
      subst hv2
      subst har
      have szx : (w4.alloc (.cells #[.int .i64 (f : Int), .int .i64 (t : Int), .int .i64 (n : Int)] 36)).heap.size = w4.heap.size + 1 := by simp
      rw [szx] at hg2 own5
      have kf : w5.cell? ⟨g2, f, none⟩ = some (.int .i64 (r.getD f 0)) := by rw [own5.cellAt f (by omega), cI_map]; simp [List.getD, hf]
      have kt : w5.cell? ⟨g2, t, none⟩ = some (.int .i64 (r.getD t 0)) := by rw [own5.cellAt t (by omega), cI_map]; simp [List.getD, ht]
      have zf : w5.frozen? ⟨g2, f, none⟩ = false := own5.frozenAt f
      have zt : w5.frozen? ⟨g2, t, none⟩ = false := own5.frozenAt t
      have OWN := Lib.hid own5
      have sz45 : w4.heap.size < w5.heap.size := by have := bel5.size; simp at this; omega
      have b14 : w1.heap.size ≤ w4.heap.size := B4.out.size
      have ne1 : g2 ≠ w4.heap.size := by omega
      have ne2 : g2 ≠ rb := by omega
      have i1 : (0 : Int) ≤ (f : Int) := by omega
      have i2 : (f : Int) < (r.length : Int) := by omega
      have i3 : (0 : Int) ≤ (t : Int) := by omega
      have i4 : (t : Int) < (r.length : Int) := by omega
      generalize hxf : r.getD f 0 = xf at *
      generalize hxt : r.getD t 0 = xt at *
      have HXF := Lib.hid hxf
      have HXT := Lib.hid hxt
      clear hxf hxt own5 bel5 szx
      go_wp2_with fail
      generalize w4.heap.size = db at *
      obtain ⟨s, hs⟩ : ∃ s : List Int, (r.set f (max xf xt)).set t (min xf xt) = s := ⟨_, rfl⟩
      have hsl : s.length = r.length := by rw [← hs]; simp
      obtain ⟨w6, hw6⟩ : ∃ w6 : World, (((w5.setCell ⟨g2, f, none⟩ (.int .i64 (max xf xt))).setCell ⟨g2, t, none⟩ (.int .i64 (min xf xt))).drew) = w6 := ⟨_, rfl⟩
      have own6 : w6.ownsRow (db + 1) 3 1 (.slice (some ⟨g2, 0, none⟩) s.length cap2) s.length (s.flatMap cI) := by
        rw [← hw6, hsl, ← hs, cI_map, List.map_set, List.map_set]
        have h1 := (OWN.out.stored f (.int .i64 (max xf xt))).1
        have h2 := (h1.stored t (.int .i64 (min xf xt))).1
        rw [cI_map] at h2
        exact h2.drew
      have B56 : Below g2 w5 w6 := by rw [← hw6]; exact (((Below.refl g2 w5).setCell (p := ⟨g2, f, none⟩) (Nat.le_refl _) _).setCell (p := ⟨g2, t, none⟩) (Nat.le_refl _) _).drew
      have B6 : Hid (Below w1.heap.size w1 w6) := B5.out.trans (B56.mono (by omega))
      obtain ⟨As, cs6, hvs, _, rec6, _⟩ := rec_of_own (d := (0 : Int)) cI_length (by decide) own6
      obtain ⟨rfl, rfl⟩ : some ⟨g2, 0, none⟩ = As ∧ cap2 = cs6 := by injection hvs with h1 _ h2; exact ⟨h1, h2⟩
      have R6 := Lib.hid rec6
      have z2 : w6.cell? ⟨db, 2, none⟩ = some (.int .i64 (n : Int)) := (B56.cell (by show db < g2; omega)).trans y2
      have sz56 : w6.heap.size = w5.heap.size := by rw [← hw6]; simp [World.setCell]
      obtain ⟨u0, u1, sz6, bw6⟩ := KC.out w6 B6.out
      have WS : Hid (WfI s) := by
        intro q hq
        have m1 : xf ∈ r := by rw [← HXF.out]; simp [List.getD, hf]
        have m2 : xt ∈ r := by rw [← HXT.out]; simp [List.getD, ht]
        have k1 := HWR.out _ m1
        have k2 := HWR.out _ m2
        rw [← hs] at hq
        rcases List.mem_or_eq_of_mem_set hq with hq | rfl
        · rcases List.mem_or_eq_of_mem_set hq with hq | rfl
          · exact HWR.out _ hq
          · rcases Int.max_def xf xt ▸ (by split <;> simp : (if xf ≤ xt then xt else xf) = xt ∨ (if xf ≤ xt then xt else xf) = xf) with e | e
            · rw [e]; exact k2
            · rw [e]; exact k1
        · rcases Int.min_def xf xt ▸ (by split <;> simp : (if xf ≤ xt then xf else xt) = xf ∨ (if xf ≤ xt then xf else xt) = xt) with e | e
          · rw [e]; exact k1
          · rw [e]; exact k2
      have CKS : Hid (checkErr ⟨ns, cs⟩ (splitPt ⟨ns, cs⟩ ds s n) = 11) := by rw [Hid, ← hs]; exact HCK.out
      have HS0 := Lib.hid (split0_of HE0.out hsl)
      have SP := Lib.hid (split_any ⟨ns, cs⟩ An Ac (some ⟨bb, off, none⟩) (some ⟨g2, 0, none⟩) cn cc cd cap2 ds s w6 (by show ns.length ≤ _; omega) (by show cs.length ≤ _; omega) HW.out (by omega) (by omega) HWD.out WS.out (H1.out.below (Nat.le_refl _) B6.out) (D1.out.below (Nat.le_refl _) B6.out) R6.out)
      rw [hsl] at SP
      have HW6 := Lib.hid hw6
      have sdb : db < w6.heap.size := by omega
      have HSL := Lib.hid hsl
      have BW6 := Lib.hid bw6
      clear hw6 own6 rec6 hvs B56 hs hsl bw6
      by_cases hft : f = t
      · have hx : xf = xt := by rw [← HXF.out, ← HXT.out, hft]
        subst hft
        subst hx
        have mx : max xf xf = xf := by omega
        have mn : min xf xf = xf := by omega
        rw [mx, mn] at HW6
        clear mx mn
        go_region_held3 (fun w' => w'.cell? ⟨db, 0, none⟩ = some (.int .i64 (f : Int)) ∧ w'.cell? ⟨db, 1, none⟩ = some (.int .i64 (f : Int)) ∧ w'.cell? ⟨rb, ro + f, none⟩ = some (.int .i64 xf))
          (go_keep)
          (first | fail)
        all_goals
          rw [HW6.out]
          clear y0 y1 y2 cf ct kf kt zf zt
          go_wp2_with fail
          refine SP.out.mono ?_
          rintro e w7 ⟨bel7, ⟨hne, _⟩ | ⟨_, g', dv', mb', rfl, hok⟩⟩
          · exact absurd HS0.out hne
          obtain ⟨a9, c9, hv9, _, hrec9, _⟩ := rec_of_own (m := 3) (c := cD) (d := d0) (fun _ => rfl) (by decide) (hok.deps n hn)
          have p0 : w7.cell? ⟨g', n * 3, none⟩ = some (.int .i64 (n : Int)) := hok.row.cell (i := n) (j := 0) hn (by decide)
          have p1 : w7.cell? ⟨g', n * 3 + 1, none⟩ = some (.slice a9 (ownDeps ds n).length c9) := (hok.row.cell (i := n) (j := 1) hn (by decide)).trans (by show some (dv' n) = _; rw [hv9])
          have p2 : w7.cell? ⟨g', n * 3 + 1 + 1, none⟩ = some (.map (some (mb' n))) := hok.row.cell (i := n) (j := 2) hn (by decide)
          have B7 := Lib.hid (B6.out.trans (bel7.mono B6.out.size))
          have x2 : w7.cell? ⟨db, 2, none⟩ = some (.int .i64 (n : Int)) := (bel7.cell (by exact sdb)).trans z2
          clear u0 u1
          obtain ⟨u0, u1, sz7, bw7⟩ := KC.out w7 B7.out
          have ol : (ownDeps ds n).length ≤ ds.length := List.length_filter_le _ _
          have rl : (ranksOf cs s n).length ≤ 1000000 := by
            unfold ranksOf chansAt
            rw [List.length_map]
            have := chTo_length cs n cs.length
            omega
          have CC := Lib.hid (check_any ⟨ns, cs⟩ An Ac a9 cn cc c9 (some (mb' n)) (splitPt ⟨ns, cs⟩ ds s n) w7.drew (by show ns.length ≤ _; omega) (by show cs.length ≤ _; omega) HW.out (by show (ownDeps ds n).length ≤ _; omega) rl (fun d hd => HWD.out d (List.mem_filter.1 hd).1) (H1.out.below (Nat.le_refl _) B7.out.drew) hrec9 (.inr ⟨mb' n, rfl, hok.maps n hn⟩))
          rw [CKS.out] at CC
          have BW7 := Lib.hid bw7
          have gl7 := hok.row.lt
          have nl : (n : Int) < (ns.length : Int) := by omega
          have nl0 : (0 : Int) ≤ (n : Int) := by omega
          have KP : Hid (∀ w', Below w7.heap.size w7 w' → w'.cell? ⟨w.heap.size, 0, none⟩ = some (.slice An ns.length cn) ∧ w'.cell? ⟨w.heap.size, 1, none⟩ = some (.slice Ac cs.length cc) ∧ w'.cell? ⟨db, 2, none⟩ = some (.int .i64 (n : Int)) ∧ w'.cell? ⟨g', n * 3, none⟩ = some (.int .i64 (n : Int)) ∧ w'.cell? ⟨g', n * 3 + 1, none⟩ = some (.slice a9 (ownDeps ds n).length c9) ∧ w'.cell? ⟨g', n * 3 + 1 + 1, none⟩ = some (.map (some (mb' n)))) :=
            fun w' hb => ⟨(hb.cell (by exact sz7)).trans u0, (hb.cell (by exact sz7)).trans u1, (hb.cell (by have := bel7.size; show db < _; omega)).trans x2, (hb.cell (by exact gl7)).trans p0, (hb.cell (by exact gl7)).trans p1, (hb.cell (by exact gl7)).trans p2⟩
          have sl7 : s.length = r.length := HSL.out
          clear bel7 hok hrec9 hv9 bw7 sl7 z2
          go_wp2_with fail
          go_region_held3 (fun w' => w'.cell? ⟨w.heap.size, 0, none⟩ = some (.slice An ns.length cn) ∧ w'.cell? ⟨w.heap.size, 1, none⟩ = some (.slice Ac cs.length cc) ∧ w'.cell? ⟨db, 2, none⟩ = some (.int .i64 (n : Int)) ∧ w'.cell? ⟨g', n * 3, none⟩ = some (.int .i64 (n : Int)) ∧ w'.cell? ⟨g', n * 3 + 1, none⟩ = some (.slice a9 (ownDeps ds n).length c9) ∧ w'.cell? ⟨g', n * 3 + 1 + 1, none⟩ = some (.map (some (mb' n))))
            (first | exact KP.out _ ((Below.refl _ _).drew) | exact KP.out _ BQ.out)
            (first | (go_at_call 21; refine CC.out.mono ?_; rintro e wq ⟨rfl, belq⟩; have BQ : Hid (Below w7.heap.size w7 wq) := ((Below.refl _ _).drew).trans belq; clear belq))
          all_goals
            have BF : Hid (Below w.heap.size w wq) := BW7.out.trans (BQ.out.mono (by omega))
            go_wp2_with fail
            go_ret
            exact ⟨rfl, BF.out⟩
      · have nf : ¬ t = f := fun e => hft e.symm
        go_region_held3 (fun w' => w'.cell? ⟨db, 0, none⟩ = some (.int .i64 (f : Int)) ∧ w'.cell? ⟨db, 1, none⟩ = some (.int .i64 (t : Int)) ∧ w'.cell? ⟨rb, ro + f, none⟩ = some (.int .i64 xf) ∧ w'.cell? ⟨rb, ro + t, none⟩ = some (.int .i64 xt))
          (go_keep)
          (first | fail)
        all_goals
          rw [HW6.out]
          clear y0 y1 y2 cf ct kf kt zf zt
          go_wp2_with fail
          refine SP.out.mono ?_
          rintro e w7 ⟨bel7, ⟨hne, _⟩ | ⟨_, g', dv', mb', rfl, hok⟩⟩
          · exact absurd HS0.out hne
          obtain ⟨a9, c9, hv9, _, hrec9, _⟩ := rec_of_own (m := 3) (c := cD) (d := d0) (fun _ => rfl) (by decide) (hok.deps n hn)
          have p0 : w7.cell? ⟨g', n * 3, none⟩ = some (.int .i64 (n : Int)) := hok.row.cell (i := n) (j := 0) hn (by decide)
          have p1 : w7.cell? ⟨g', n * 3 + 1, none⟩ = some (.slice a9 (ownDeps ds n).length c9) := (hok.row.cell (i := n) (j := 1) hn (by decide)).trans (by show some (dv' n) = _; rw [hv9])
          have p2 : w7.cell? ⟨g', n * 3 + 1 + 1, none⟩ = some (.map (some (mb' n))) := hok.row.cell (i := n) (j := 2) hn (by decide)
          have B7 := Lib.hid (B6.out.trans (bel7.mono B6.out.size))
          have x2 : w7.cell? ⟨db, 2, none⟩ = some (.int .i64 (n : Int)) := (bel7.cell (by exact sdb)).trans z2
          clear u0 u1
          obtain ⟨u0, u1, sz7, bw7⟩ := KC.out w7 B7.out
          have ol : (ownDeps ds n).length ≤ ds.length := List.length_filter_le _ _
          have rl : (ranksOf cs s n).length ≤ 1000000 := by
            unfold ranksOf chansAt
            rw [List.length_map]
            have := chTo_length cs n cs.length
            omega
          have CC := Lib.hid (check_any ⟨ns, cs⟩ An Ac a9 cn cc c9 (some (mb' n)) (splitPt ⟨ns, cs⟩ ds s n) w7.drew (by show ns.length ≤ _; omega) (by show cs.length ≤ _; omega) HW.out (by show (ownDeps ds n).length ≤ _; omega) rl (fun d hd => HWD.out d (List.mem_filter.1 hd).1) (H1.out.below (Nat.le_refl _) B7.out.drew) hrec9 (.inr ⟨mb' n, rfl, hok.maps n hn⟩))
          rw [CKS.out] at CC
          have BW7 := Lib.hid bw7
          have gl7 := hok.row.lt
          have nl : (n : Int) < (ns.length : Int) := by omega
          have nl0 : (0 : Int) ≤ (n : Int) := by omega
          have KP : Hid (∀ w', Below w7.heap.size w7 w' → w'.cell? ⟨w.heap.size, 0, none⟩ = some (.slice An ns.length cn) ∧ w'.cell? ⟨w.heap.size, 1, none⟩ = some (.slice Ac cs.length cc) ∧ w'.cell? ⟨db, 2, none⟩ = some (.int .i64 (n : Int)) ∧ w'.cell? ⟨g', n * 3, none⟩ = some (.int .i64 (n : Int)) ∧ w'.cell? ⟨g', n * 3 + 1, none⟩ = some (.slice a9 (ownDeps ds n).length c9) ∧ w'.cell? ⟨g', n * 3 + 1 + 1, none⟩ = some (.map (some (mb' n)))) :=
            fun w' hb => ⟨(hb.cell (by exact sz7)).trans u0, (hb.cell (by exact sz7)).trans u1, (hb.cell (by have := bel7.size; show db < _; omega)).trans x2, (hb.cell (by exact gl7)).trans p0, (hb.cell (by exact gl7)).trans p1, (hb.cell (by exact gl7)).trans p2⟩
          have sl7 : s.length = r.length := HSL.out
          clear bel7 hok hrec9 hv9 bw7 sl7 z2
          go_wp2_with fail
          go_region_held3 (fun w' => w'.cell? ⟨w.heap.size, 0, none⟩ = some (.slice An ns.length cn) ∧ w'.cell? ⟨w.heap.size, 1, none⟩ = some (.slice Ac cs.length cc) ∧ w'.cell? ⟨db, 2, none⟩ = some (.int .i64 (n : Int)) ∧ w'.cell? ⟨g', n * 3, none⟩ = some (.int .i64 (n : Int)) ∧ w'.cell? ⟨g', n * 3 + 1, none⟩ = some (.slice a9 (ownDeps ds n).length c9) ∧ w'.cell? ⟨g', n * 3 + 1 + 1, none⟩ = some (.map (some (mb' n))))
            (first | exact KP.out _ ((Below.refl _ _).drew) | exact KP.out _ BQ.out)
            (first | (go_at_call 21; refine CC.out.mono ?_; rintro e wq ⟨rfl, belq⟩; have BQ : Hid (Below w7.heap.size w7 wq) := ((Below.refl _ _).drew).trans belq; clear belq))
          all_goals
            have BF : Hid (Below w.heap.size w wq) := BW7.out.trans (BQ.out.mono (by omega))
            go_wp2_with fail
            go_ret
            exact ⟨rfl, BF.out⟩
end Go.Proofs.Ytjhbjifhponciaa.localFaultW
