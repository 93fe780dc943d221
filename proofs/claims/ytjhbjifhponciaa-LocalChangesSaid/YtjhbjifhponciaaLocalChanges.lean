/- The walk of the law LocalChanges: it returns true. -/
import Derived.Test.YtjhbjifhponciaaLRowAgree
import Derived.Test.YtjhbjifhponciaaLRange
namespace Go.Proofs.Ytjhbjifhponciaa.localChangesW
open Go.RowKit Go.Maps
set_option linter.unusedVariables false

def Done (w : World) (e : Ending) (w' : World) : Prop := e = .returned (.bool true) ∧ Below w.heap.size w w'

set_option maxRecDepth 100000 in
set_option maxHeartbeats 4000000 in
theorem walk (An Ac : Option Addr) (cn cc : Nat) (p : Pl) (Ad : Option Addr) (cd : Nat) (ds : List Dp) (Ar : Option Addr) (cr : Nat) (r : List Int) (which c : Int) (w : World)
    (hp : IsPlan w An Ac p) (hwf : WfP p) (hd : IsRec 3 cD d0 w Ad ds.length ds) (hwd : WfD ds) (hr : IsRec 1 cI 0 w Ar r.length r) (hwr : WfI r) (hwh : (Lit.int .u8 which).wf = true) (hwc : (Lit.int .u8 c).wf = true) :
    Calls Try.prog 4 #[.agg #[.slice An p.ns.length cn, .slice Ac p.cs.length cc], .slice Ad ds.length cd, .slice Ar r.length cr, .int .u8 which, .int .u8 c] w (Done w) := by
  obtain ⟨ns, cs⟩ := p
  simp only
  have HW := Lib.hid hwf
  have HWD := Lib.hid hwd
  have HWR := Lib.hid hwr
  obtain ⟨w1, hw1⟩ : ∃ w1 : World, w.alloc (.cells #[.slice An ns.length cn, .slice Ac cs.length cc] 25) = w1 := ⟨_, rfl⟩
  have s0 : w1.cell? ⟨w.heap.size, 0, none⟩ = some (.slice An ns.length cn) := by rw [← hw1]; simp [go_sem]
  have s1 : w1.cell? ⟨w.heap.size, 1, none⟩ = some (.slice Ac cs.length cc) := by rw [← hw1]; simp [go_sem]
  have sz1 : w.heap.size < w1.heap.size := by rw [← hw1]; simp
  have BW0 : Below w.heap.size w w1 := by rw [← hw1]; exact (Below.refl _ _).alloc (Nat.le_refl _) _
  have BW := Lib.hid BW0
  have H1 := Lib.hid (hp.below (Nat.le_refl _) BW0)
  have D1 := Lib.hid (hd.below (Nat.le_refl _) BW0)
  have R1 := Lib.hid (hr.below (Nat.le_refl _) BW0)
  have HW1 := Lib.hid hw1
  have KC : Hid (∀ w', Below w1.heap.size w1 w' → w'.cell? ⟨w.heap.size, 0, none⟩ = some (.slice An ns.length cn) ∧ w'.cell? ⟨w.heap.size, 1, none⟩ = some (.slice Ac cs.length cc) ∧ w.heap.size < w'.heap.size ∧ Below w.heap.size w w') :=
    fun w' hb => ⟨(hb.cell (by exact sz1)).trans s0, (hb.cell (by exact sz1)).trans s1, by have := hb.size; omega, BW0.trans (hb.mono (by omega))⟩
  clear hp hd hr hw1 hwf hwd hwr BW0
  go_enter Try.func4, Try.ntmps4
  go_wp2_with fail
  rw [HW1.out]
  refine (awake_any _).mono ?_
  rintro e w2 ⟨rfl, bel2⟩
  have B2 := Lib.hid bel2
  clear bel2 s0 s1
  obtain ⟨u0, u1, sz2, bw2⟩ := KC.out w2 B2.out
  cases hg : greatB ns.length cs.length ds.length with
  | true =>
    have HG := Lib.hid hg
    have BF := Lib.hid (bw2.alloc (by omega) (.cells #[.slice An ns.length cn, .slice Ac cs.length cc] 25))
    clear hg bw2
    go_wp2_with fail
    refine (great_any An Ac Ad ns.length cs.length ds.length cn cc cd _ _ HG.out).mono ?_
    rintro e w3 ⟨rfl, rfl⟩
    go_wp2_with fail
    go_ret
    exact ⟨rfl, BF.out⟩
  | false =>
    have HG := Lib.hid hg
    have hgb : ns.length ≤ 20 ∧ cs.length ≤ 40 ∧ ds.length ≤ 100 := by simp [greatB] at hg; omega
    obtain ⟨g1, g2, g3⟩ := hgb
    have BF := Lib.hid (bw2.alloc (by omega) (.cells #[.slice An ns.length cn, .slice Ac cs.length cc] 25))
    have B3 := Lib.hid (B2.out.alloc B2.out.size (.cells #[.slice An ns.length cn, .slice Ac cs.length cc] 25))
    clear hg bw2
    by_cases hr1 : 100 < r.length
    · have q1 : decide (100 < (r.length : Int)) = true := decide_eq_true (by omega)
      go_wp2_with fail
      refine (great_any An Ac Ad ns.length cs.length ds.length cn cc cd _ _ HG.out).mono ?_
      rintro e w3 ⟨rfl, rfl⟩
      go_wp2_with fail
      go_ret
      exact ⟨rfl, BF.out⟩
    have q1 : decide (100 < (r.length : Int)) = false := decide_eq_false (by omega)
    go_wp2_with fail
    refine (great_any An Ac Ad ns.length cs.length ds.length cn cc cd _ _ HG.out).mono ?_
    rintro e w3 ⟨rfl, hw3⟩
    have B3' : Below w1.heap.size w1 w3 := by rw [← hw3]; exact B3.out
    have BB3 := Lib.hid B3'
    clear u0 u1 hw3 B3' B3 BF
    obtain ⟨u0, u1, sz3, bw3⟩ := KC.out w3 BB3.out
    have H3 := Lib.hid (H1.out.below (Nat.le_refl _) BB3.out)
    have D3 := Lib.hid (D1.out.below (Nat.le_refl _) BB3.out)
    have R3 := Lib.hid (R1.out.below (Nat.le_refl _) BB3.out)
    clear bw3
    go_wp2_with fail
    refine (split_any ⟨ns, cs⟩ An Ac Ad Ar cn cc cd cr ds r _ (by show ns.length ≤ _; omega) (by show cs.length ≤ _; omega) HW.out (by omega) (by omega) HWD.out HWR.out H3.out D3.out R3.out).mono ?_
    rintro e w4 ⟨bel4, hcase⟩
    have B4 := Lib.hid (BB3.out.trans (bel4.mono BB3.out.size))
    clear u0 u1
    obtain ⟨u0, u1, sz4, bw4⟩ := KC.out w4 B4.out
    have BW4 := Lib.hid bw4
    clear bw4
    rcases hcase with ⟨hne, rfl⟩ | ⟨he0, g, dv, mb, rfl, hok⟩
    · have q2 : (splitErr ⟨ns, cs⟩ ds r != 0) = true := by simpa using hne
      generalize splitErr ⟨ns, cs⟩ ds r = er at *
      clear hne bel4
      go_wp2_with fail
      go_ret
      exact ⟨rfl, BW4.out⟩
    · by_cases hz : ns.length = 0
      · have q3 : ((ns.length : Int) == 0) = true := by simp [hz]
        clear hok bel4 hz
        go_wp2_with fail
        go_ret
        exact ⟨rfl, BW4.out⟩
      have q3 : ((ns.length : Int) == 0) = false := by simp; intro h; exact hz (by rw [h]; rfl)
      have q4 : ((ns.length : Int) != (ns.length : Int)) = false := by simp
      have HE0 := Lib.hid he0
      have OK := Lib.hid hok
      clear he0 hok bel4
      have hwb : 0 ≤ which ∧ which ≤ 255 := by
        have e1 : IntKind.u8.min = 0 := by decide
        have e2 : IntKind.u8.max = 255 := by decide
        simpa only [Lit.wf, Bool.and_eq_true, decide_eq_true_eq, e1, e2] using hwh
      obtain ⟨wh0, wh1⟩ := hwb
      obtain ⟨k, hk⟩ : ∃ k : Nat, which % (ns.length : Int) = k := ⟨(which % (ns.length : Int)).toNat, by have := Int.emod_nonneg which (b := ns.length) (by omega); omega⟩
      have hkl : k < ns.length := by have := Int.emod_lt_of_pos which (b := ns.length) (by omega); omega
      go_wp2_with fail
      rw [hk]
      have OQ := Lib.hid OK.out.okQ
      have RQ := Lib.hid OK.out.recQ
      have hgw : g < w4.heap.size := OK.out.row.lt
      have KP : Hid (∀ w', Below w4.heap.size w4 w' → w'.cell? ⟨w.heap.size, 0, none⟩ = some (.slice An ns.length cn) ∧ w'.cell? ⟨w.heap.size, 1, none⟩ = some (.slice Ac cs.length cc) ∧ w'.cell? ⟨g, k * 3, none⟩ = some (.int .i64 (k : Int)) ∧ w'.cell? ⟨g, k * 3 + 1, none⟩ = some (dv k) ∧ w'.cell? ⟨g, k * 3 + 1 + 1, none⟩ = some (.map (some (mb k))) ∧ Below w4.heap.size w4 w') := by
        intro w' hb
        refine ⟨(hb.cell (by exact sz4)).trans u0, (hb.cell (by exact sz4)).trans u1, (hb.cell hgw).trans ?_, (hb.cell hgw).trans ?_, (hb.cell hgw).trans ?_, hb⟩
        · exact OK.out.row.cell (i := k) (j := 0) hkl (by omega)
        · exact OK.out.row.cell (i := k) (j := 1) hkl (by omega)
        · exact OK.out.row.cell (i := k) (j := 2) hkl (by omega)
      clear u0 u1
      have RT : Hid (Reads w4 w4.heap.size 3 (some ⟨g, 0, none⟩) k (((splitQ ⟨ns, cs⟩ ds r dv mb).take k).flatMap cQ)) := reads_of_rec cQ_length (rec_take RQ.out (by show k ≤ ns.length; omega))
      have a0 : (0 : Int) ≤ (k : Int) := by omega
      have a1 : (k : Int) ≤ (ns.length : Int) := by omega
      have a2 : IntKind.i64.wrap ((k : Int) + 1) = (k : Int) + 1 := wrap_small _ (by omega) (by omega)
      obtain ⟨i0, hi0, hz0, hz1, hz2⟩ := info_parts infoPart
      have RF : Hid (∀ w', Below w4.heap.size w4 w' → Reads w' w'.heap.size 3 (some ⟨g, 0, none⟩) ns.length ((splitQ ⟨ns, cs⟩ ds r dv mb).flatMap cQ)) := fun w' hb => ((reads_of_rec cQ_length RQ.out).below hb).more hb.size
      have H4 := Lib.hid (H1.out.below (Nat.le_refl _) B4.out)
      have V0 := Lib.hid (split0_inv HE0.out).1
      have SB : Hid (∀ q ∈ (splitQ ⟨ns, cs⟩ ds r dv mb).take k ++ (splitQ ⟨ns, cs⟩ ds r dv mb).drop (k + 1), q ∈ splitQ ⟨ns, cs⟩ ds r dv mb) := by
        intro q hq
        rcases List.mem_append.1 hq with hq | hq
        · exact List.mem_of_mem_take hq
        · exact List.mem_of_mem_drop hq
      have E7 : Hid (ptsQ ((splitQ ⟨ns, cs⟩ ds r dv mb).take k ++ (splitQ ⟨ns, cs⟩ ds r dv mb).drop (k + 1)) = (splitL ⟨ns, cs⟩ ds r).take k ++ (splitL ⟨ns, cs⟩ ds r).drop (k + 1)) := by
        show _ = _
        rw [← splitQ_pts ⟨ns, cs⟩ ds r dv mb]
        unfold ptsQ
        rw [List.map_append, List.map_take, List.map_drop]
      have A7 : Hid (agreeErr ⟨ns, cs⟩ (ptsQ ((splitQ ⟨ns, cs⟩ ds r dv mb).take k ++ (splitQ ⟨ns, cs⟩ ds r dv mb).drop (k + 1))) = 7) := by
        show _ = _
        rw [E7.out]
        exact change_none ⟨ns, cs⟩ ds r V0.out hkl
      have SM7 : Hid (smallMaps (ptsQ ((splitQ ⟨ns, cs⟩ ds r dv mb).take k ++ (splitQ ⟨ns, cs⟩ ds r dv mb).drop (k + 1)))) := by
        intro x hx
        rw [E7.out] at hx
        refine small_split ⟨ns, cs⟩ ds r (by show cs.length ≤ _; omega) x ?_
        rcases List.mem_append.1 hx with hx | hx
        · exact List.mem_of_mem_take hx
        · exact List.mem_of_mem_drop hx
      have E8 : Hid (ptsQ (splitQ ⟨ns, cs⟩ ds r dv mb ++ [((.int .i64 (k : Int), dv k, .map (some (mb k))), splitPt ⟨ns, cs⟩ ds r k)]) = splitL ⟨ns, cs⟩ ds r ++ [splitPt ⟨ns, cs⟩ ds r k]) := by
        show _ = _
        rw [← splitQ_pts ⟨ns, cs⟩ ds r dv mb]
        unfold ptsQ
        rw [List.map_append]
        rfl
      have A8 : Hid (agreeErr ⟨ns, cs⟩ (ptsQ (splitQ ⟨ns, cs⟩ ds r dv mb ++ [((.int .i64 (k : Int), dv k, .map (some (mb k))), splitPt ⟨ns, cs⟩ ds r k)])) = 8) := by
        show _ = _
        rw [E8.out]
        exact change_twice ⟨ns, cs⟩ ds r V0.out hkl
      have MK : Hid (((.int .i64 (k : Int), dv k, .map (some (mb k))), splitPt ⟨ns, cs⟩ ds r k) ∈ splitQ ⟨ns, cs⟩ ds r dv mb) := List.mem_map.2 ⟨k, List.mem_range.2 hkl, rfl⟩
      have SB8 : Hid (∀ q ∈ splitQ ⟨ns, cs⟩ ds r dv mb ++ [((.int .i64 (k : Int), dv k, .map (some (mb k))), splitPt ⟨ns, cs⟩ ds r k)], q ∈ splitQ ⟨ns, cs⟩ ds r dv mb) := by
        intro q hq
        rcases List.mem_append.1 hq with hq | hq
        · exact hq
        · rw [List.mem_singleton.1 hq]; exact MK.out
      have OQ1 : Hid (∀ u ∈ cQ (((.int .i64 (k : Int), dv k, .map (some (mb k))), splitPt ⟨ns, cs⟩ ds r k) : Q3), u.oneCell' = true) := fun u hu => OQ.out.one u (List.mem_flatMap.2 ⟨_, MK.out, hu⟩)
      have SM8 : Hid (smallMaps (ptsQ (splitQ ⟨ns, cs⟩ ds r dv mb ++ [((.int .i64 (k : Int), dv k, .map (some (mb k))), splitPt ⟨ns, cs⟩ ds r k)]))) := by
        intro x hx
        rw [E8.out] at hx
        refine small_split ⟨ns, cs⟩ ds r (by show cs.length ≤ _; omega) x ?_
        rcases List.mem_append.1 hx with hx | hx
        · exact hx
        · rw [List.mem_singleton.1 hx]; exact List.mem_map.2 ⟨k, List.mem_range.2 hkl, rfl⟩
      refine Code.wp_mono (Q := fun e a w9 => e = .normal ∧ ∃ s56 s60 s61 s67 s72 s73 : Value, a = { tmps := #[.agg #[.slice An ns.length cn, .slice Ac cs.length cc], .slice Ad ds.length cd, .slice Ar r.length cr, .int .u8 which, .int .u8 c, .pointer (some ⟨w.heap.size, 0, none⟩), undef, undef, undef, undef, .bool false, .slice (some ⟨g, 0, none⟩) ns.length ns.length, .int .i64 0, .int .i64 (k : Int), undef, undef, .bool true, .bool false, .agg #[.slice An ns.length cn, .slice Ac cs.length cc], .slice Ad ds.length cd, .bool false, .bool false, .slice Ar r.length cr, .int .i64 (r.length : Int), .bool false, .bool false, .tuple #[.slice (some ⟨g, 0, none⟩) ns.length ns.length, .int .i64 0], .agg #[.slice An ns.length cn, .slice Ac cs.length cc], .slice Ad ds.length cd, .slice Ar r.length cr, .tuple #[.slice (some ⟨g, 0, none⟩) ns.length ns.length, .int .i64 0], .slice (some ⟨g, 0, none⟩) ns.length ns.length, .int .i64 0, .int .i64 0, .bool false, .bool false, .pointer (some ⟨w.heap.size, 0, none⟩), .slice An ns.length cn, .int .i64 (ns.length : Int), .bool false, .bool false, .slice (some ⟨g, 0, none⟩) ns.length ns.length, .int .i64 (ns.length : Int), .pointer (some ⟨w.heap.size, 0, none⟩), .slice An ns.length cn, .int .i64 (ns.length : Int), .bool false, .int .u8 which, .int .i64 which, .slice (some ⟨g, 0, none⟩) ns.length ns.length, .int .i64 (ns.length : Int), .int .i64 (k : Int), .agg #[.slice An ns.length cn, .slice Ac cs.length cc], .slice (some ⟨g, 0, none⟩) ns.length ns.length, .int .i64 (k : Int), .slice (some ⟨g, 0, none⟩) k ns.length, s56, .slice (some ⟨g, 0, none⟩) ns.length ns.length, .int .i64 (k : Int), .int .i64 ((k : Int) + 1), s60, s61, .int .i64 7, .bool false, .bool false, .agg #[.slice An ns.length cn, .slice Ac cs.length cc], .slice (some ⟨g, 0, none⟩) ns.length ns.length, s67, .slice (some ⟨g, 0, none⟩) ns.length ns.length, .int .i64 (k : Int), .pointer (some ⟨g, k * 3, none⟩), .agg #[.int .i64 (k : Int), dv k, .map (some (mb k))], s72, s73, .int .i64 8, .bool false, .bool false, undef, undef, undef, undef, undef, undef, undef, undef, undef, undef, undef, undef, undef, undef, undef, undef, undef, undef, undef, undef, undef, undef, undef, undef, undef, undef, undef, undef, undef], defers := [] } ∧ Below w4.heap.size w4 w9) ?rest ?_
      case rest =>
        rintro e a w9 ⟨rfl, s56, s60, s61, s67, s72, s73, rfl, b9⟩
        have B9 := Lib.hid b9
        clear b9
        obtain ⟨x0, x1, x2, x3, x4, _⟩ := KP.out w9 B9.out
        have M9 : Hid (IM w9 (mb k) (ranksOf cs r k)) := (OK.out.maps k hkl).below B9.out (OK.out.maps k hkl).lt
        have SMk : (ranksOf cs r k).length ≤ 1000000 := small_split ⟨ns, cs⟩ ds r (by show cs.length ≤ _; omega) (splitPt ⟨ns, cs⟩ ds r k) (List.mem_map.2 ⟨k, List.mem_range.2 hkl, rfl⟩)
        go_wp2_with fail
        refine (channels_any (some (mb k)) (ranksOf cs r k) w9 (.inr ⟨_, rfl, M9.out⟩) SMk).mono ?_
        rintro e w10 ⟨v10, rfl, own10, bel10⟩
        rw [sortE_ranksOf] at own10
        have B10 : Hid (Below w4.heap.size w4 w10) := B9.out.trans (bel10.mono B9.out.size)
        have M10 : Hid (IM w10 (mb k) (ranksOf cs r k)) := M9.out.below bel10 M9.out.lt
        obtain ⟨ao, co, rfl, hco, ro, _⟩ := rec_of_own (m := 1) (c := cI) (d := 0) (fun _ => rfl) (by decide) own10
        have RO := Lib.hid ro
        clear own10 bel10 x0 x1 x2 x3 x4 ro
        obtain ⟨x0, x1, x2, x3, x4, _⟩ := KP.out w10 B10.out
        have BF := Lib.hid (BW4.out.trans (B10.out.mono (by have := BW4.out.size; omega)))
        by_cases hz2 : (chansAt cs k).length = 0
        · have q5 : (((chansAt cs k).length : Int) == 0) = true := by simp [hz2]
          go_wp2_with fail
          go_ret
          exact ⟨rfl, BF.out⟩
        have q5 : (((chansAt cs k).length : Int) == 0) = false := by simp; intro h; exact hz2 (by rw [h]; rfl)
        have hcb : 0 ≤ c ∧ c ≤ 255 := by
          have e1 : IntKind.u8.min = 0 := by decide
          have e2 : IntKind.u8.max = 255 := by decide
          simpa only [Lit.wf, Bool.and_eq_true, decide_eq_true_eq, e1, e2] using hwc
        obtain ⟨c0, c1⟩ := hcb
        obtain ⟨j, hj⟩ : ∃ j : Nat, c % ((chansAt cs k).length : Int) = j := ⟨(c % ((chansAt cs k).length : Int)).toNat, by have := Int.emod_nonneg c (b := (chansAt cs k).length) (by omega); omega⟩
        have hjl : j < (chansAt cs k).length := by have := Int.emod_lt_of_pos c (b := (chansAt cs k).length) (by omega); omega
        obtain ⟨bo, oo, rfl, hbo, hcell⟩ := RO.out.2 (by omega)
        obtain ⟨x, hx⟩ : ∃ x : Int, (chansAt cs k).getD j 0 = x := ⟨_, rfl⟩
        have y0 : w10.cell? ⟨bo, oo + j, none⟩ = some (.int .i64 x) := by have h := hcell j 0 hjl (by omega); rw [hx] at h; simpa [cI] using h
        have hxm : x ∈ chansAt cs k := by rw [← hx]; simp [List.getD, hjl]
        have HX := Lib.hid (mem_chansAt.1 hxm)
        have hxw : (Lit.int .i64 x).wf = true := by
          have h := M10.out.wfk (x, r.getD x.toNat 0)
          exact h (lookE_mem (by rw [lookE_ranksOf, if_pos hxm]))
        obtain ⟨rv, hrv⟩ : ∃ rv : Int, r.getD x.toNat 0 = rv := ⟨_, rfl⟩
        have hlr : (lookE (ranksOf cs r k) x).getD 0 = rv := by rw [lookE_ranksOf, if_pos hxm]; exact hrv
        have r1 : (Instr.lookup 39 (.map (some (mb k))) (.int .i64 x) false).run Try.prog w10 = .ok (.int .i64 rv) w10 := by
          rw [IMap.look M10.out Try.underlying3 Try.underlying3 Try.underlying39 (zeroInt _) hxw, hlr]
        obtain ⟨w12, hrun, m12, gr12⟩ := M10.out.store (t := 39) (x := x) (v := bits .xor .i64 rv 1) Try.underlying3 Try.underlying3 Try.underlying39 (by unfold maxLen; omega) hxw (xor1_wf _)
        have P12 := Lib.hid (OK.out.changed B10.out hkl gr12 m12)
        have B12 : Hid (Below w1.heap.size w1 w12) := (B4.out.trans (B10.out.mono B4.out.size)).grown gr12 (by have := B4.out.size; have := B10.out.size; omega) (by intro g' e; injection e with e; have := OK.out.later k hkl; have := OK.out.fresh; have := BB3.out.size; omega)
        have S12 := Lib.hid (small_chg (p := ⟨ns, cs⟩) (ds := ds) (r := r) hkl (v := bits .xor .i64 rv 1) hxm (by show cs.length ≤ _; omega))
        have A12 : Hid (agreeErr ⟨ns, cs⟩ (chgL ⟨ns, cs⟩ ds r k x (bits .xor .i64 rv 1)) = 9) := change_sum ⟨ns, cs⟩ ds r V0.out hkl hxm (by rw [hrv]; exact xor1_ne)
        obtain ⟨z0, z1, sz12, bw12⟩ := KC.out w12 B12.out
        have H12 := Lib.hid (H1.out.below (Nat.le_refl _) B12.out)
        have LC : Hid ((chgL ⟨ns, cs⟩ ds r k x (bits .xor .i64 rv 1)).length = ns.length) := chgL_length ⟨ns, cs⟩ ds r k x _
        have ca := agree_any ⟨ns, cs⟩ An Ac (some ⟨g, 0, none⟩) cn cc ns.length (chgL ⟨ns, cs⟩ ds r k x (bits .xor .i64 rv 1)) w12 (by show ns.length ≤ _; omega) (by show cs.length ≤ _; omega) HW.out (by rw [LC.out]; omega) S12.out H12.out (by rw [LC.out]; exact P12.out)
        rw [LC.out, A12.out] at ca
        have CA := Lib.hid ca
        have BW12 := Lib.hid bw12
        clear gr12 m12 hcell ca bw12
        go_wp2_with fail
        refine CA.out.mono ?_
        rintro e w13 ⟨rfl, bel13⟩
        have BF13 : Hid (Below w.heap.size w w13) := BW12.out.trans (bel13.mono (by omega))
        clear bel13
        go_wp2_with fail
        go_ret
        exact ⟨rfl, BF13.out⟩
      by_cases hlast : ns.length = k + 1
      · have a3 : ((k : Int) + 1) ≤ (ns.length : Int) := by omega
        have HL := Lib.hid hlast
        clear hlast
        have RD : Hid (∀ w', Below w4.heap.size w4 w' → Reads w' w4.heap.size 3 (some ⟨g, 0, none⟩) 0 (((splitQ ⟨ns, cs⟩ ds r dv mb).drop (k + 1)).flatMap cQ)) := by
          intro w' hb
          have e : (splitQ ⟨ns, cs⟩ ds r dv mb).drop (k + 1) = [] := List.drop_eq_nil_of_le (by rw [splitQ_length]; show ns.length ≤ k + 1; have := HL.out; omega)
          rw [e]; exact Reads.none_
        refine wp_region_held_drew (S := (fun w' => w'.cell? ⟨w.heap.size, 0, none⟩ = some (.slice An ns.length cn) ∧ w'.cell? ⟨w.heap.size, 1, none⟩ = some (.slice Ac cs.length cc) ∧ w'.cell? ⟨g, k * 3, none⟩ = some (.int .i64 (k : Int)) ∧ w'.cell? ⟨g, k * 3 + 1, none⟩ = some (dv k) ∧ w'.cell? ⟨g, k * 3 + 1 + 1, none⟩ = some (.map (some (mb k))) ∧ Below w4.heap.size w4 w')) (by kernel_rfl) (KP.out _ ((Below.refl _ _).drew)) (fun hHeld => ?_)
        refine wpAnyH_take (i := 0) (v := .agg #[.slice An ns.length cn, .slice Ac cs.length cc]) rfl (by kernel_rfl) (by kernel_rfl) (by kernel_rfl) (fun _ _ _ h => nomatch h.1) (Or.inl ⟨by rfl, fun w' hSw => by (obtain ⟨x0, x1, x2, x3, x4, x5⟩ := hSw; go_simp)⟩) hHeld ?_
        change wpAnyH Try.prog _ _ _ _ _ _ { tmps := #[_, _, _, _, _, .pointer (some ⟨w.heap.size, 0, none⟩), _, _, _, _, _, .slice (some ⟨g, 0, none⟩) ns.length ns.length, _, .int .i64 (k : Int), _, _, _, _, _, _, _, _, _, _, _, _, _, _, _, _, _, _, _, _, _, _, _, _, _, _, _, _, _, _, _, _, _, _, _, _, _, _, .agg #[.slice An ns.length cn, .slice Ac cs.length cc], undef, undef, undef, undef, undef, undef, undef, undef, undef, undef, undef, undef, undef, undef, undef, undef, undef, undef, undef, undef, undef, undef, undef, undef, undef, undef, undef, undef, undef, undef, undef, undef, undef, undef, undef, undef, undef, undef, undef, undef, undef, undef, undef, undef, undef, undef, undef, undef, undef, undef, undef, undef, undef], defers := [] } _
        refine wpAnyH_take (i := 1) (v := .slice (some ⟨g, 0, none⟩) ns.length ns.length) rfl (by kernel_rfl) (by kernel_rfl) (by kernel_rfl) (fun _ _ _ h => nomatch h.1) (Or.inl ⟨by rfl, fun w' hSw => by (obtain ⟨x0, x1, x2, x3, x4, x5⟩ := hSw; go_simp)⟩) hHeld ?_
        change wpAnyH Try.prog _ _ _ _ _ _ { tmps := #[_, _, _, _, _, .pointer (some ⟨w.heap.size, 0, none⟩), _, _, _, _, _, .slice (some ⟨g, 0, none⟩) ns.length ns.length, _, .int .i64 (k : Int), _, _, _, _, _, _, _, _, _, _, _, _, _, _, _, _, _, _, _, _, _, _, _, _, _, _, _, _, _, _, _, _, _, _, _, _, _, _, .agg #[.slice An ns.length cn, .slice Ac cs.length cc], .slice (some ⟨g, 0, none⟩) ns.length ns.length, undef, undef, undef, undef, undef, undef, undef, undef, undef, undef, undef, undef, undef, undef, undef, undef, undef, undef, undef, undef, undef, undef, undef, undef, undef, undef, undef, undef, undef, undef, undef, undef, undef, undef, undef, undef, undef, undef, undef, undef, undef, undef, undef, undef, undef, undef, undef, undef, undef, undef, undef, undef], defers := [] } _
        refine wpAnyH_take (i := 2) (v := .int .i64 (k : Int)) rfl (by kernel_rfl) (by kernel_rfl) (by kernel_rfl) (fun _ _ _ h => nomatch h.1) (Or.inl ⟨by rfl, fun w' hSw => by (obtain ⟨x0, x1, x2, x3, x4, x5⟩ := hSw; go_simp)⟩) hHeld ?_
        change wpAnyH Try.prog _ _ _ _ _ _ { tmps := #[_, _, _, _, _, .pointer (some ⟨w.heap.size, 0, none⟩), _, _, _, _, _, .slice (some ⟨g, 0, none⟩) ns.length ns.length, _, .int .i64 (k : Int), _, _, _, _, _, _, _, _, _, _, _, _, _, _, _, _, _, _, _, _, _, _, _, _, _, _, _, _, _, _, _, _, _, _, _, _, _, _, .agg #[.slice An ns.length cn, .slice Ac cs.length cc], .slice (some ⟨g, 0, none⟩) ns.length ns.length, .int .i64 (k : Int), undef, undef, undef, undef, undef, undef, undef, undef, undef, undef, undef, undef, undef, undef, undef, undef, undef, undef, undef, undef, undef, undef, undef, undef, undef, undef, undef, undef, undef, undef, undef, undef, undef, undef, undef, undef, undef, undef, undef, undef, undef, undef, undef, undef, undef, undef, undef, undef, undef, undef, undef], defers := [] } _
        refine wpAnyH_take (i := 3) (v := .slice (some ⟨g, 0, none⟩) k ns.length) rfl (by kernel_rfl) (by kernel_rfl) (by kernel_rfl) (fun _ _ _ h => nomatch h.1) (Or.inl ⟨by rfl, fun w' hSw => by (obtain ⟨x0, x1, x2, x3, x4, x5⟩ := hSw; go_simp)⟩) hHeld ?_
        change wpAnyH Try.prog _ _ _ _ _ _ { tmps := #[_, _, _, _, _, .pointer (some ⟨w.heap.size, 0, none⟩), _, _, _, _, _, .slice (some ⟨g, 0, none⟩) ns.length ns.length, _, .int .i64 (k : Int), _, _, _, _, _, _, _, _, _, _, _, _, _, _, _, _, _, _, _, _, _, _, _, _, _, _, _, _, _, _, _, _, _, _, _, _, _, _, .agg #[.slice An ns.length cn, .slice Ac cs.length cc], .slice (some ⟨g, 0, none⟩) ns.length ns.length, .int .i64 (k : Int), .slice (some ⟨g, 0, none⟩) k ns.length, undef, undef, undef, undef, undef, undef, undef, undef, undef, undef, undef, undef, undef, undef, undef, undef, undef, undef, undef, undef, undef, undef, undef, undef, undef, undef, undef, undef, undef, undef, undef, undef, undef, undef, undef, undef, undef, undef, undef, undef, undef, undef, undef, undef, undef, undef, undef, undef, undef, undef], defers := [] } _
        refine wpAnyH_take (i := 5) (v := .slice (some ⟨g, 0, none⟩) ns.length ns.length) rfl (by kernel_rfl) (by kernel_rfl) (by kernel_rfl) (fun _ _ _ h => nomatch h.1) (Or.inl ⟨by rfl, fun w' hSw => by (obtain ⟨x0, x1, x2, x3, x4, x5⟩ := hSw; go_simp)⟩) hHeld ?_
        change wpAnyH Try.prog _ _ _ _ _ _ { tmps := #[_, _, _, _, _, .pointer (some ⟨w.heap.size, 0, none⟩), _, _, _, _, _, .slice (some ⟨g, 0, none⟩) ns.length ns.length, _, .int .i64 (k : Int), _, _, _, _, _, _, _, _, _, _, _, _, _, _, _, _, _, _, _, _, _, _, _, _, _, _, _, _, _, _, _, _, _, _, _, _, _, _, .agg #[.slice An ns.length cn, .slice Ac cs.length cc], .slice (some ⟨g, 0, none⟩) ns.length ns.length, .int .i64 (k : Int), .slice (some ⟨g, 0, none⟩) k ns.length, undef, .slice (some ⟨g, 0, none⟩) ns.length ns.length, undef, undef, undef, undef, undef, undef, undef, undef, undef, undef, undef, undef, undef, undef, undef, undef, undef, undef, undef, undef, undef, undef, undef, undef, undef, undef, undef, undef, undef, undef, undef, undef, undef, undef, undef, undef, undef, undef, undef, undef, undef, undef, undef, undef, undef, undef, undef, undef], defers := [] } _
        refine wpAnyH_take (i := 6) (v := .int .i64 (k : Int)) rfl (by kernel_rfl) (by kernel_rfl) (by kernel_rfl) (fun _ _ _ h => nomatch h.1) (Or.inl ⟨by rfl, fun w' hSw => by (obtain ⟨x0, x1, x2, x3, x4, x5⟩ := hSw; go_simp)⟩) hHeld ?_
        change wpAnyH Try.prog _ _ _ _ _ _ { tmps := #[_, _, _, _, _, .pointer (some ⟨w.heap.size, 0, none⟩), _, _, _, _, _, .slice (some ⟨g, 0, none⟩) ns.length ns.length, _, .int .i64 (k : Int), _, _, _, _, _, _, _, _, _, _, _, _, _, _, _, _, _, _, _, _, _, _, _, _, _, _, _, _, _, _, _, _, _, _, _, _, _, _, .agg #[.slice An ns.length cn, .slice Ac cs.length cc], .slice (some ⟨g, 0, none⟩) ns.length ns.length, .int .i64 (k : Int), .slice (some ⟨g, 0, none⟩) k ns.length, undef, .slice (some ⟨g, 0, none⟩) ns.length ns.length, .int .i64 (k : Int), undef, undef, undef, undef, undef, undef, undef, undef, undef, undef, undef, undef, undef, undef, undef, undef, undef, undef, undef, undef, undef, undef, undef, undef, undef, undef, undef, undef, undef, undef, undef, undef, undef, undef, undef, undef, undef, undef, undef, undef, undef, undef, undef, undef, undef, undef, undef], defers := [] } _
        refine wpAnyH_take (i := 7) (v := .int .i64 ((k : Int) + 1)) rfl (by kernel_rfl) (by kernel_rfl) (by kernel_rfl) (fun _ _ _ h => nomatch h.1) (Or.inl ⟨by rfl, fun w' hSw => by (obtain ⟨x0, x1, x2, x3, x4, x5⟩ := hSw; go_simp)⟩) hHeld ?_
        change wpAnyH Try.prog _ _ _ _ _ _ { tmps := #[_, _, _, _, _, .pointer (some ⟨w.heap.size, 0, none⟩), _, _, _, _, _, .slice (some ⟨g, 0, none⟩) ns.length ns.length, _, .int .i64 (k : Int), _, _, _, _, _, _, _, _, _, _, _, _, _, _, _, _, _, _, _, _, _, _, _, _, _, _, _, _, _, _, _, _, _, _, _, _, _, _, .agg #[.slice An ns.length cn, .slice Ac cs.length cc], .slice (some ⟨g, 0, none⟩) ns.length ns.length, .int .i64 (k : Int), .slice (some ⟨g, 0, none⟩) k ns.length, undef, .slice (some ⟨g, 0, none⟩) ns.length ns.length, .int .i64 (k : Int), .int .i64 ((k : Int) + 1), undef, undef, undef, undef, undef, undef, undef, undef, undef, undef, undef, undef, undef, undef, undef, undef, undef, undef, undef, undef, undef, undef, undef, undef, undef, undef, undef, undef, undef, undef, undef, undef, undef, undef, undef, undef, undef, undef, undef, undef, undef, undef, undef, undef, undef, undef], defers := [] } _
        refine wpAnyH_take (i := 8) (v := .slice (some ⟨g, 0, none⟩) (0) (0)) rfl (by kernel_rfl) (by kernel_rfl) (by kernel_rfl) (fun _ _ _ h => nomatch h.1) (Or.inl ⟨by rfl, fun w' hSw => by (obtain ⟨x0, x1, x2, x3, x4, x5⟩ := hSw; (have hl := HL.out); go_simp; (try (intro h; omega)))⟩) hHeld ?_
        change wpAnyH Try.prog _ _ _ _ _ _ { tmps := #[_, _, _, _, _, .pointer (some ⟨w.heap.size, 0, none⟩), _, _, _, _, _, .slice (some ⟨g, 0, none⟩) ns.length ns.length, _, .int .i64 (k : Int), _, _, _, _, _, _, _, _, _, _, _, _, _, _, _, _, _, _, _, _, _, _, _, _, _, _, _, _, _, _, _, _, _, _, _, _, _, _, .agg #[.slice An ns.length cn, .slice Ac cs.length cc], .slice (some ⟨g, 0, none⟩) ns.length ns.length, .int .i64 (k : Int), .slice (some ⟨g, 0, none⟩) k ns.length, undef, .slice (some ⟨g, 0, none⟩) ns.length ns.length, .int .i64 (k : Int), .int .i64 ((k : Int) + 1), .slice (some ⟨g, 0, none⟩) (0) (0), undef, undef, undef, undef, undef, undef, undef, undef, undef, undef, undef, undef, undef, undef, undef, undef, undef, undef, undef, undef, undef, undef, undef, undef, undef, undef, undef, undef, undef, undef, undef, undef, undef, undef, undef, undef, undef, undef, undef, undef, undef, undef, undef, undef, undef], defers := [] } _
        refine wpAnyH_ready (rs := [4]) (by kernel_rfl) (by simp) ?_
        refine AllReadyH.cons rfl (fun K hK => ?_) AllReadyH.nil
        go_simp
        refine (cloneP_any g 0 ns.length k (((splitQ ⟨ns, cs⟩ ds r dv mb).take k).flatMap cQ) w4.drew (by omega) RT.out.drew (OQ.out.sub fun q hq => List.mem_of_mem_take hq).one).mono ?_
        rintro e w5 ⟨v5, rfl, own5, bel5⟩
        have B5 : Hid (Below w4.heap.size w4 w5) := ((Below.refl w4.heap.size w4).drew).trans bel5
        have O5 := Lib.hid own5
        clear bel5 own5
        refine hK.out _ _ (KP.out _ B5.out) (fun hHeld => ?_)
        clear hK
        change wpAnyH Try.prog _ _ _ _ _ _ { tmps := #[_, _, _, _, _, .pointer (some ⟨w.heap.size, 0, none⟩), _, _, _, _, _, .slice (some ⟨g, 0, none⟩) ns.length ns.length, _, .int .i64 (k : Int), _, _, _, _, _, _, _, _, _, _, _, _, _, _, _, _, _, _, _, _, _, _, _, _, _, _, _, _, _, _, _, _, _, _, _, _, _, _, .agg #[.slice An ns.length cn, .slice Ac cs.length cc], .slice (some ⟨g, 0, none⟩) ns.length ns.length, .int .i64 (k : Int), .slice (some ⟨g, 0, none⟩) k ns.length, v5, .slice (some ⟨g, 0, none⟩) ns.length ns.length, .int .i64 (k : Int), .int .i64 ((k : Int) + 1), .slice (some ⟨g, 0, none⟩) (0) (0), undef, undef, undef, undef, undef, undef, undef, undef, undef, undef, undef, undef, undef, undef, undef, undef, undef, undef, undef, undef, undef, undef, undef, undef, undef, undef, undef, undef, undef, undef, undef, undef, undef, undef, undef, undef, undef, undef, undef, undef, undef, undef, undef, undef, undef], defers := [] } _
        refine wpAnyH_ready (rs := [9]) (by kernel_rfl) (by simp) ?_
        refine AllReadyH.cons rfl (fun K hK => ?_) AllReadyH.nil
        refine step_append_any _ (by rfl) (.tmp 56) (.tmp 60) 30 (by rfl) w4.heap.size 41 i0 _ 3 40 Try.underlying30 hi0 hz0 hz1 hz2 rfl (by decide) _ k _ (by rfl) O5.out _ (some ⟨g, 0, none⟩) (0) (0) (((splitQ ⟨ns, cs⟩ ds r dv mb).drop (k + 1)).flatMap cQ) (by rfl) (RD.out _ B5.out) (OQ.out.sub fun q hq => List.mem_of_mem_drop hq).one (by unfold maxLen; omega) (by omega) B5.out.size ?_
        intro v6 w6 own6 gr6 _
        rw [← List.flatMap_append] at own6
        have B6 : Hid (Below w4.heap.size w4 w6) := B5.out.grown gr6 B5.out.size (fun g' e => (O5.out.lt g' e).1)
        have O6 := Lib.hid own6
        clear own6 gr6
        refine hK.out _ _ (KP.out _ B6.out) (fun hHeld => ?_)
        clear hK
        change wpAnyH Try.prog _ _ _ _ _ _ { tmps := #[_, _, _, _, _, .pointer (some ⟨w.heap.size, 0, none⟩), _, _, _, _, _, .slice (some ⟨g, 0, none⟩) ns.length ns.length, _, .int .i64 (k : Int), _, _, _, _, _, _, _, _, _, _, _, _, _, _, _, _, _, _, _, _, _, _, _, _, _, _, _, _, _, _, _, _, _, _, _, _, _, _, .agg #[.slice An ns.length cn, .slice Ac cs.length cc], .slice (some ⟨g, 0, none⟩) ns.length ns.length, .int .i64 (k : Int), .slice (some ⟨g, 0, none⟩) k ns.length, v5, .slice (some ⟨g, 0, none⟩) ns.length ns.length, .int .i64 (k : Int), .int .i64 ((k : Int) + 1), .slice (some ⟨g, 0, none⟩) (0) (0), v6, undef, undef, undef, undef, undef, undef, undef, undef, undef, undef, undef, undef, undef, undef, undef, undef, undef, undef, undef, undef, undef, undef, undef, undef, undef, undef, undef, undef, undef, undef, undef, undef, undef, undef, undef, undef, undef, undef, undef, undef, undef, undef, undef, undef], defers := [] } _
        refine wpAnyH_ready (rs := [10]) (by kernel_rfl) (by simp) ?_
        refine AllReadyH.cons rfl (fun K hK => ?_) AllReadyH.nil
        go_simp
        refine (agree_row ⟨ns, cs⟩ An Ac cn cc _ _ v6 _ 7 w6 (by show ns.length ≤ _; omega) (by show cs.length ≤ _; omega) HW.out (by omega) SM7.out (H4.out.below (Nat.le_refl _) B6.out) O6.out ((OQ.out.sub SB.out).below (Nat.le_refl _) B6.out) A7.out).mono ?_
        rintro e w7 ⟨rfl, bel7⟩
        have B7 : Hid (Below w4.heap.size w4 w7) := B6.out.trans (bel7.mono B6.out.size)
        clear bel7
        refine hK.out _ _ (KP.out _ B7.out) (fun hHeld => ?_)
        clear hK
        change wpAnyH Try.prog _ _ _ _ _ _ { tmps := #[_, _, _, _, _, .pointer (some ⟨w.heap.size, 0, none⟩), _, _, _, _, _, .slice (some ⟨g, 0, none⟩) ns.length ns.length, _, .int .i64 (k : Int), _, _, _, _, _, _, _, _, _, _, _, _, _, _, _, _, _, _, _, _, _, _, _, _, _, _, _, _, _, _, _, _, _, _, _, _, _, _, .agg #[.slice An ns.length cn, .slice Ac cs.length cc], .slice (some ⟨g, 0, none⟩) ns.length ns.length, .int .i64 (k : Int), .slice (some ⟨g, 0, none⟩) k ns.length, v5, .slice (some ⟨g, 0, none⟩) ns.length ns.length, .int .i64 (k : Int), .int .i64 ((k : Int) + 1), .slice (some ⟨g, 0, none⟩) (0) (0), v6, .int .i64 7, undef, undef, undef, undef, undef, undef, undef, undef, undef, undef, undef, undef, undef, undef, undef, undef, undef, undef, undef, undef, undef, undef, undef, undef, undef, undef, undef, undef, undef, undef, undef, undef, undef, undef, undef, undef, undef, undef, undef, undef, undef, undef, undef], defers := [] } _
        refine wpAnyH_take (i := 11) (v := .bool false) rfl (by kernel_rfl) (by kernel_rfl) (by kernel_rfl) (fun _ _ _ h => nomatch h.1) (Or.inl ⟨by rfl, fun w' hSw => by (obtain ⟨x0, x1, x2, x3, x4, x5⟩ := hSw; go_simp)⟩) hHeld ?_
        change wpAnyH Try.prog _ _ _ _ _ _ { tmps := #[_, _, _, _, _, .pointer (some ⟨w.heap.size, 0, none⟩), _, _, _, _, _, .slice (some ⟨g, 0, none⟩) ns.length ns.length, _, .int .i64 (k : Int), _, _, _, _, _, _, _, _, _, _, _, _, _, _, _, _, _, _, _, _, _, _, _, _, _, _, _, _, _, _, _, _, _, _, _, _, _, _, .agg #[.slice An ns.length cn, .slice Ac cs.length cc], .slice (some ⟨g, 0, none⟩) ns.length ns.length, .int .i64 (k : Int), .slice (some ⟨g, 0, none⟩) k ns.length, v5, .slice (some ⟨g, 0, none⟩) ns.length ns.length, .int .i64 (k : Int), .int .i64 ((k : Int) + 1), .slice (some ⟨g, 0, none⟩) (0) (0), v6, .int .i64 7, .bool false, undef, undef, undef, undef, undef, undef, undef, undef, undef, undef, undef, undef, undef, undef, undef, undef, undef, undef, undef, undef, undef, undef, undef, undef, undef, undef, undef, undef, undef, undef, undef, undef, undef, undef, undef, undef, undef, undef, undef, undef, undef, undef], defers := [] } _
        refine wpAnyH_take (i := 12) (v := .bool false) rfl (by kernel_rfl) (by kernel_rfl) (by kernel_rfl) (fun _ _ _ h => nomatch h.1) (Or.inl ⟨by rfl, fun w' hSw => by (obtain ⟨x0, x1, x2, x3, x4, x5⟩ := hSw; go_simp)⟩) hHeld ?_
        change wpAnyH Try.prog _ _ _ _ _ _ { tmps := #[_, _, _, _, _, .pointer (some ⟨w.heap.size, 0, none⟩), _, _, _, _, _, .slice (some ⟨g, 0, none⟩) ns.length ns.length, _, .int .i64 (k : Int), _, _, _, _, _, _, _, _, _, _, _, _, _, _, _, _, _, _, _, _, _, _, _, _, _, _, _, _, _, _, _, _, _, _, _, _, _, _, .agg #[.slice An ns.length cn, .slice Ac cs.length cc], .slice (some ⟨g, 0, none⟩) ns.length ns.length, .int .i64 (k : Int), .slice (some ⟨g, 0, none⟩) k ns.length, v5, .slice (some ⟨g, 0, none⟩) ns.length ns.length, .int .i64 (k : Int), .int .i64 ((k : Int) + 1), .slice (some ⟨g, 0, none⟩) (0) (0), v6, .int .i64 7, .bool false, .bool false, undef, undef, undef, undef, undef, undef, undef, undef, undef, undef, undef, undef, undef, undef, undef, undef, undef, undef, undef, undef, undef, undef, undef, undef, undef, undef, undef, undef, undef, undef, undef, undef, undef, undef, undef, undef, undef, undef, undef, undef, undef], defers := [] } _
        refine wpAnyH_take (i := 13) (v := .agg #[.slice An ns.length cn, .slice Ac cs.length cc]) rfl (by kernel_rfl) (by kernel_rfl) (by kernel_rfl) (fun _ _ _ h => nomatch h.1) (Or.inl ⟨by rfl, fun w' hSw => by (obtain ⟨x0, x1, x2, x3, x4, x5⟩ := hSw; go_simp)⟩) hHeld ?_
        change wpAnyH Try.prog _ _ _ _ _ _ { tmps := #[_, _, _, _, _, .pointer (some ⟨w.heap.size, 0, none⟩), _, _, _, _, _, .slice (some ⟨g, 0, none⟩) ns.length ns.length, _, .int .i64 (k : Int), _, _, _, _, _, _, _, _, _, _, _, _, _, _, _, _, _, _, _, _, _, _, _, _, _, _, _, _, _, _, _, _, _, _, _, _, _, _, .agg #[.slice An ns.length cn, .slice Ac cs.length cc], .slice (some ⟨g, 0, none⟩) ns.length ns.length, .int .i64 (k : Int), .slice (some ⟨g, 0, none⟩) k ns.length, v5, .slice (some ⟨g, 0, none⟩) ns.length ns.length, .int .i64 (k : Int), .int .i64 ((k : Int) + 1), .slice (some ⟨g, 0, none⟩) (0) (0), v6, .int .i64 7, .bool false, .bool false, .agg #[.slice An ns.length cn, .slice Ac cs.length cc], undef, undef, undef, undef, undef, undef, undef, undef, undef, undef, undef, undef, undef, undef, undef, undef, undef, undef, undef, undef, undef, undef, undef, undef, undef, undef, undef, undef, undef, undef, undef, undef, undef, undef, undef, undef, undef, undef, undef, undef], defers := [] } _
        refine wpAnyH_take (i := 14) (v := .slice (some ⟨g, 0, none⟩) ns.length ns.length) rfl (by kernel_rfl) (by kernel_rfl) (by kernel_rfl) (fun _ _ _ h => nomatch h.1) (Or.inl ⟨by rfl, fun w' hSw => by (obtain ⟨x0, x1, x2, x3, x4, x5⟩ := hSw; go_simp)⟩) hHeld ?_
        change wpAnyH Try.prog _ _ _ _ _ _ { tmps := #[_, _, _, _, _, .pointer (some ⟨w.heap.size, 0, none⟩), _, _, _, _, _, .slice (some ⟨g, 0, none⟩) ns.length ns.length, _, .int .i64 (k : Int), _, _, _, _, _, _, _, _, _, _, _, _, _, _, _, _, _, _, _, _, _, _, _, _, _, _, _, _, _, _, _, _, _, _, _, _, _, _, .agg #[.slice An ns.length cn, .slice Ac cs.length cc], .slice (some ⟨g, 0, none⟩) ns.length ns.length, .int .i64 (k : Int), .slice (some ⟨g, 0, none⟩) k ns.length, v5, .slice (some ⟨g, 0, none⟩) ns.length ns.length, .int .i64 (k : Int), .int .i64 ((k : Int) + 1), .slice (some ⟨g, 0, none⟩) (0) (0), v6, .int .i64 7, .bool false, .bool false, .agg #[.slice An ns.length cn, .slice Ac cs.length cc], .slice (some ⟨g, 0, none⟩) ns.length ns.length, undef, undef, undef, undef, undef, undef, undef, undef, undef, undef, undef, undef, undef, undef, undef, undef, undef, undef, undef, undef, undef, undef, undef, undef, undef, undef, undef, undef, undef, undef, undef, undef, undef, undef, undef, undef, undef, undef, undef], defers := [] } _
        refine wpAnyH_take (i := 16) (v := .slice (some ⟨g, 0, none⟩) ns.length ns.length) rfl (by kernel_rfl) (by kernel_rfl) (by kernel_rfl) (fun _ _ _ h => nomatch h.1) (Or.inl ⟨by rfl, fun w' hSw => by (obtain ⟨x0, x1, x2, x3, x4, x5⟩ := hSw; go_simp)⟩) hHeld ?_
        change wpAnyH Try.prog _ _ _ _ _ _ { tmps := #[_, _, _, _, _, .pointer (some ⟨w.heap.size, 0, none⟩), _, _, _, _, _, .slice (some ⟨g, 0, none⟩) ns.length ns.length, _, .int .i64 (k : Int), _, _, _, _, _, _, _, _, _, _, _, _, _, _, _, _, _, _, _, _, _, _, _, _, _, _, _, _, _, _, _, _, _, _, _, _, _, _, .agg #[.slice An ns.length cn, .slice Ac cs.length cc], .slice (some ⟨g, 0, none⟩) ns.length ns.length, .int .i64 (k : Int), .slice (some ⟨g, 0, none⟩) k ns.length, v5, .slice (some ⟨g, 0, none⟩) ns.length ns.length, .int .i64 (k : Int), .int .i64 ((k : Int) + 1), .slice (some ⟨g, 0, none⟩) (0) (0), v6, .int .i64 7, .bool false, .bool false, .agg #[.slice An ns.length cn, .slice Ac cs.length cc], .slice (some ⟨g, 0, none⟩) ns.length ns.length, undef, .slice (some ⟨g, 0, none⟩) ns.length ns.length, undef, undef, undef, undef, undef, undef, undef, undef, undef, undef, undef, undef, undef, undef, undef, undef, undef, undef, undef, undef, undef, undef, undef, undef, undef, undef, undef, undef, undef, undef, undef, undef, undef, undef, undef, undef, undef], defers := [] } _
        refine wpAnyH_take (i := 17) (v := .int .i64 (k : Int)) rfl (by kernel_rfl) (by kernel_rfl) (by kernel_rfl) (fun _ _ _ h => nomatch h.1) (Or.inl ⟨by rfl, fun w' hSw => by (obtain ⟨x0, x1, x2, x3, x4, x5⟩ := hSw; go_simp)⟩) hHeld ?_
        change wpAnyH Try.prog _ _ _ _ _ _ { tmps := #[_, _, _, _, _, .pointer (some ⟨w.heap.size, 0, none⟩), _, _, _, _, _, .slice (some ⟨g, 0, none⟩) ns.length ns.length, _, .int .i64 (k : Int), _, _, _, _, _, _, _, _, _, _, _, _, _, _, _, _, _, _, _, _, _, _, _, _, _, _, _, _, _, _, _, _, _, _, _, _, _, _, .agg #[.slice An ns.length cn, .slice Ac cs.length cc], .slice (some ⟨g, 0, none⟩) ns.length ns.length, .int .i64 (k : Int), .slice (some ⟨g, 0, none⟩) k ns.length, v5, .slice (some ⟨g, 0, none⟩) ns.length ns.length, .int .i64 (k : Int), .int .i64 ((k : Int) + 1), .slice (some ⟨g, 0, none⟩) (0) (0), v6, .int .i64 7, .bool false, .bool false, .agg #[.slice An ns.length cn, .slice Ac cs.length cc], .slice (some ⟨g, 0, none⟩) ns.length ns.length, undef, .slice (some ⟨g, 0, none⟩) ns.length ns.length, .int .i64 (k : Int), undef, undef, undef, undef, undef, undef, undef, undef, undef, undef, undef, undef, undef, undef, undef, undef, undef, undef, undef, undef, undef, undef, undef, undef, undef, undef, undef, undef, undef, undef, undef, undef, undef, undef, undef, undef], defers := [] } _
        refine wpAnyH_take (i := 18) (v := .pointer (some ⟨g, k * 3, none⟩)) rfl (by kernel_rfl) (by kernel_rfl) (by kernel_rfl) (fun _ _ _ h => nomatch h.1) (Or.inl ⟨by rfl, fun w' hSw => by (obtain ⟨x0, x1, x2, x3, x4, x5⟩ := hSw; go_simp)⟩) hHeld ?_
        change wpAnyH Try.prog _ _ _ _ _ _ { tmps := #[_, _, _, _, _, .pointer (some ⟨w.heap.size, 0, none⟩), _, _, _, _, _, .slice (some ⟨g, 0, none⟩) ns.length ns.length, _, .int .i64 (k : Int), _, _, _, _, _, _, _, _, _, _, _, _, _, _, _, _, _, _, _, _, _, _, _, _, _, _, _, _, _, _, _, _, _, _, _, _, _, _, .agg #[.slice An ns.length cn, .slice Ac cs.length cc], .slice (some ⟨g, 0, none⟩) ns.length ns.length, .int .i64 (k : Int), .slice (some ⟨g, 0, none⟩) k ns.length, v5, .slice (some ⟨g, 0, none⟩) ns.length ns.length, .int .i64 (k : Int), .int .i64 ((k : Int) + 1), .slice (some ⟨g, 0, none⟩) (0) (0), v6, .int .i64 7, .bool false, .bool false, .agg #[.slice An ns.length cn, .slice Ac cs.length cc], .slice (some ⟨g, 0, none⟩) ns.length ns.length, undef, .slice (some ⟨g, 0, none⟩) ns.length ns.length, .int .i64 (k : Int), .pointer (some ⟨g, k * 3, none⟩), undef, undef, undef, undef, undef, undef, undef, undef, undef, undef, undef, undef, undef, undef, undef, undef, undef, undef, undef, undef, undef, undef, undef, undef, undef, undef, undef, undef, undef, undef, undef, undef, undef, undef, undef], defers := [] } _
        refine wpAnyH_take (i := 19) (v := .agg #[.int .i64 (k : Int), dv k, .map (some (mb k))]) rfl (by kernel_rfl) (by kernel_rfl) (by kernel_rfl) (fun _ _ _ h => nomatch h.1) (Or.inl ⟨by rfl, fun w' hSw => by (obtain ⟨x0, x1, x2, x3, x4, x5⟩ := hSw; go_simp)⟩) hHeld ?_
        change wpAnyH Try.prog _ _ _ _ _ _ { tmps := #[_, _, _, _, _, .pointer (some ⟨w.heap.size, 0, none⟩), _, _, _, _, _, .slice (some ⟨g, 0, none⟩) ns.length ns.length, _, .int .i64 (k : Int), _, _, _, _, _, _, _, _, _, _, _, _, _, _, _, _, _, _, _, _, _, _, _, _, _, _, _, _, _, _, _, _, _, _, _, _, _, _, .agg #[.slice An ns.length cn, .slice Ac cs.length cc], .slice (some ⟨g, 0, none⟩) ns.length ns.length, .int .i64 (k : Int), .slice (some ⟨g, 0, none⟩) k ns.length, v5, .slice (some ⟨g, 0, none⟩) ns.length ns.length, .int .i64 (k : Int), .int .i64 ((k : Int) + 1), .slice (some ⟨g, 0, none⟩) (0) (0), v6, .int .i64 7, .bool false, .bool false, .agg #[.slice An ns.length cn, .slice Ac cs.length cc], .slice (some ⟨g, 0, none⟩) ns.length ns.length, undef, .slice (some ⟨g, 0, none⟩) ns.length ns.length, .int .i64 (k : Int), .pointer (some ⟨g, k * 3, none⟩), .agg #[.int .i64 (k : Int), dv k, .map (some (mb k))], undef, undef, undef, undef, undef, undef, undef, undef, undef, undef, undef, undef, undef, undef, undef, undef, undef, undef, undef, undef, undef, undef, undef, undef, undef, undef, undef, undef, undef, undef, undef, undef, undef, undef], defers := [] } _
        refine wpAnyH_ready (rs := [15, 20]) (by kernel_rfl) (by simp) ?_
        refine AllReadyH.cons rfl (fun K hK => ?_) (AllReadyH.cons rfl (fun K hK => ?_) AllReadyH.nil)
        · go_simp
          refine (cloneP_any g 0 ns.length ns.length ((splitQ ⟨ns, cs⟩ ds r dv mb).flatMap cQ) w7 (by omega) (RF.out _ B7.out) OQ.out.one).mono ?_
          rintro e w8 ⟨v8, rfl, own8, bel8⟩
          have B8 : Hid (Below w4.heap.size w4 w8) := B7.out.trans (bel8.mono B7.out.size)
          have O8 : Hid (w8.ownsRow w4.heap.size 41 3 v8 ns.length ((splitQ ⟨ns, cs⟩ ds r dv mb).flatMap cQ)) := own_mono own8 B7.out.size
          clear own8 bel8
          refine hK.out _ _ (KP.out _ B8.out) (fun hHeld => ?_)
          clear hK
          change wpAnyH Try.prog _ _ _ _ _ _ { tmps := #[_, _, _, _, _, .pointer (some ⟨w.heap.size, 0, none⟩), _, _, _, _, _, .slice (some ⟨g, 0, none⟩) ns.length ns.length, _, .int .i64 (k : Int), _, _, _, _, _, _, _, _, _, _, _, _, _, _, _, _, _, _, _, _, _, _, _, _, _, _, _, _, _, _, _, _, _, _, _, _, _, _, .agg #[.slice An ns.length cn, .slice Ac cs.length cc], .slice (some ⟨g, 0, none⟩) ns.length ns.length, .int .i64 (k : Int), .slice (some ⟨g, 0, none⟩) k ns.length, v5, .slice (some ⟨g, 0, none⟩) ns.length ns.length, .int .i64 (k : Int), .int .i64 ((k : Int) + 1), .slice (some ⟨g, 0, none⟩) (0) (0), v6, .int .i64 7, .bool false, .bool false, .agg #[.slice An ns.length cn, .slice Ac cs.length cc], .slice (some ⟨g, 0, none⟩) ns.length ns.length, v8, .slice (some ⟨g, 0, none⟩) ns.length ns.length, .int .i64 (k : Int), .pointer (some ⟨g, k * 3, none⟩), .agg #[.int .i64 (k : Int), dv k, .map (some (mb k))], undef, undef, undef, undef, undef, undef, undef, undef, undef, undef, undef, undef, undef, undef, undef, undef, undef, undef, undef, undef, undef, undef, undef, undef, undef, undef, undef, undef, undef, undef, undef, undef, undef, undef], defers := [] } _
          refine wpAnyH_ready (rs := [20]) (by kernel_rfl) (by simp) ?_
          refine AllReadyH.cons rfl (fun K hK => ?_) AllReadyH.nil
          go_simp
          have RO := Lib.hid (reads_one w8 41 (((.int .i64 (k : Int), dv k, .map (some (mb k))), splitPt ⟨ns, cs⟩ ds r k) : Q3))
          have B9 := Lib.hid (B8.out.alloc B8.out.size (.cells #[.int .i64 (k : Int), dv k, .map (some (mb k))] 41))
          have O9 := Lib.hid (O8.out.alloc (.cells #[.int .i64 (k : Int), dv k, .map (some (mb k))] 41))
          obtain ⟨n9, hn9⟩ : ∃ n9 : Nat, w8.heap.size = n9 := ⟨_, rfl⟩
          obtain ⟨w9, hw9⟩ : ∃ w9 : World, w8.alloc (.cells #[.int .i64 (k : Int), dv k, .map (some (mb k))] 41) = w9 := ⟨_, rfl⟩
          rw [hn9] at RO ⊢
          simp only at RO
          rw [hw9] at RO B9 O9 ⊢
          refine hK.out _ _ (KP.out _ B9.out) (fun hHeld => ?_)
          clear hK
          change wpAnyH Try.prog _ _ _ _ _ _ { tmps := #[_, _, _, _, _, .pointer (some ⟨w.heap.size, 0, none⟩), _, _, _, _, _, .slice (some ⟨g, 0, none⟩) ns.length ns.length, _, .int .i64 (k : Int), _, _, _, _, _, _, _, _, _, _, _, _, _, _, _, _, _, _, _, _, _, _, _, _, _, _, _, _, _, _, _, _, _, _, _, _, _, _, .agg #[.slice An ns.length cn, .slice Ac cs.length cc], .slice (some ⟨g, 0, none⟩) ns.length ns.length, .int .i64 (k : Int), .slice (some ⟨g, 0, none⟩) k ns.length, v5, .slice (some ⟨g, 0, none⟩) ns.length ns.length, .int .i64 (k : Int), .int .i64 ((k : Int) + 1), .slice (some ⟨g, 0, none⟩) (0) (0), v6, .int .i64 7, .bool false, .bool false, .agg #[.slice An ns.length cn, .slice Ac cs.length cc], .slice (some ⟨g, 0, none⟩) ns.length ns.length, v8, .slice (some ⟨g, 0, none⟩) ns.length ns.length, .int .i64 (k : Int), .pointer (some ⟨g, k * 3, none⟩), .agg #[.int .i64 (k : Int), dv k, .map (some (mb k))], .slice (some ⟨n9, 0, none⟩) 1 1, undef, undef, undef, undef, undef, undef, undef, undef, undef, undef, undef, undef, undef, undef, undef, undef, undef, undef, undef, undef, undef, undef, undef, undef, undef, undef, undef, undef, undef, undef, undef, undef, undef], defers := [] } _
          refine wpAnyH_ready (rs := [21]) (by kernel_rfl) (by simp) ?_
          refine AllReadyH.cons rfl (fun K hK => ?_) AllReadyH.nil
          refine step_append_on (by kernel_rfl) (.tmp 67) (.tmp 72) 30 (by rfl) w4.heap.size 41 i0 _ 3 40 Try.underlying30 hi0 hz0 hz1 hz2 rfl (by decide) _ ns.length _ (by rfl) O9.out _ _ 1 1 (cQ (((.int .i64 (k : Int), dv k, .map (some (mb k))), splitPt ⟨ns, cs⟩ ds r k) : Q3)) (by rfl) RO.out (fun u hu => OQ1.out u (by simpa using hu)) (by unfold maxLen; omega) (by omega) B9.out.size ?_
          intro v10 w10 own10 gr10 _
          have B10 : Hid (Below w4.heap.size w4 w10) := B9.out.grown gr10 B9.out.size (fun g' e => (O9.out.lt g' e).1)
          have O10 : Hid (w10.ownsRow w4.heap.size 41 3 v10 (ns.length + 1) ((splitQ ⟨ns, cs⟩ ds r dv mb ++ [(((.int .i64 (k : Int), dv k, .map (some (mb k))), splitPt ⟨ns, cs⟩ ds r k) : Q3)]).flatMap cQ)) := by
            show World.ownsRow ..
            rw [List.flatMap_append, List.flatMap_singleton]; exact own10
          clear own10 gr10
          refine hK.out _ _ (KP.out _ B10.out) (fun hHeld => ?_)
          clear hK
          change wpAnyH Try.prog _ _ _ _ _ _ { tmps := #[_, _, _, _, _, .pointer (some ⟨w.heap.size, 0, none⟩), _, _, _, _, _, .slice (some ⟨g, 0, none⟩) ns.length ns.length, _, .int .i64 (k : Int), _, _, _, _, _, _, _, _, _, _, _, _, _, _, _, _, _, _, _, _, _, _, _, _, _, _, _, _, _, _, _, _, _, _, _, _, _, _, .agg #[.slice An ns.length cn, .slice Ac cs.length cc], .slice (some ⟨g, 0, none⟩) ns.length ns.length, .int .i64 (k : Int), .slice (some ⟨g, 0, none⟩) k ns.length, v5, .slice (some ⟨g, 0, none⟩) ns.length ns.length, .int .i64 (k : Int), .int .i64 ((k : Int) + 1), .slice (some ⟨g, 0, none⟩) (0) (0), v6, .int .i64 7, .bool false, .bool false, .agg #[.slice An ns.length cn, .slice Ac cs.length cc], .slice (some ⟨g, 0, none⟩) ns.length ns.length, v8, .slice (some ⟨g, 0, none⟩) ns.length ns.length, .int .i64 (k : Int), .pointer (some ⟨g, k * 3, none⟩), .agg #[.int .i64 (k : Int), dv k, .map (some (mb k))], .slice (some ⟨n9, 0, none⟩) 1 1, v10, undef, undef, undef, undef, undef, undef, undef, undef, undef, undef, undef, undef, undef, undef, undef, undef, undef, undef, undef, undef, undef, undef, undef, undef, undef, undef, undef, undef, undef, undef, undef, undef], defers := [] } _
          refine wpAnyH_ready (rs := [22]) (by kernel_rfl) (by simp) ?_
          refine AllReadyH.cons rfl (fun K hK => ?_) AllReadyH.nil
          go_simp
          refine (agree_row ⟨ns, cs⟩ An Ac cn cc _ _ v10 _ 8 w10 (by show ns.length ≤ _; omega) (by show cs.length ≤ _; omega) HW.out (by omega) SM8.out (H4.out.below (Nat.le_refl _) B10.out) O10.out ((OQ.out.sub SB8.out).below (Nat.le_refl _) B10.out) A8.out).mono ?_
          rintro e w11 ⟨rfl, bel11⟩
          have B11 : Hid (Below w4.heap.size w4 w11) := B10.out.trans (bel11.mono B10.out.size)
          clear bel11
          refine hK.out _ _ (KP.out _ B11.out) (fun hHeld => ?_)
          clear hK
          change wpAnyH Try.prog _ _ _ _ _ _ { tmps := #[_, _, _, _, _, .pointer (some ⟨w.heap.size, 0, none⟩), _, _, _, _, _, .slice (some ⟨g, 0, none⟩) ns.length ns.length, _, .int .i64 (k : Int), _, _, _, _, _, _, _, _, _, _, _, _, _, _, _, _, _, _, _, _, _, _, _, _, _, _, _, _, _, _, _, _, _, _, _, _, _, _, .agg #[.slice An ns.length cn, .slice Ac cs.length cc], .slice (some ⟨g, 0, none⟩) ns.length ns.length, .int .i64 (k : Int), .slice (some ⟨g, 0, none⟩) k ns.length, v5, .slice (some ⟨g, 0, none⟩) ns.length ns.length, .int .i64 (k : Int), .int .i64 ((k : Int) + 1), .slice (some ⟨g, 0, none⟩) (0) (0), v6, .int .i64 7, .bool false, .bool false, .agg #[.slice An ns.length cn, .slice Ac cs.length cc], .slice (some ⟨g, 0, none⟩) ns.length ns.length, v8, .slice (some ⟨g, 0, none⟩) ns.length ns.length, .int .i64 (k : Int), .pointer (some ⟨g, k * 3, none⟩), .agg #[.int .i64 (k : Int), dv k, .map (some (mb k))], .slice (some ⟨n9, 0, none⟩) 1 1, v10, .int .i64 8, undef, undef, undef, undef, undef, undef, undef, undef, undef, undef, undef, undef, undef, undef, undef, undef, undef, undef, undef, undef, undef, undef, undef, undef, undef, undef, undef, undef, undef, undef, undef], defers := [] } _
          refine wpAnyH_take (i := 23) (v := .bool false) rfl (by kernel_rfl) (by kernel_rfl) (by kernel_rfl) (fun _ _ _ h => nomatch h.1) (Or.inl ⟨by rfl, fun w' hSw => by (obtain ⟨x0, x1, x2, x3, x4, x5⟩ := hSw; go_simp)⟩) hHeld ?_
          change wpAnyH Try.prog _ _ _ _ _ _ { tmps := #[_, _, _, _, _, .pointer (some ⟨w.heap.size, 0, none⟩), _, _, _, _, _, .slice (some ⟨g, 0, none⟩) ns.length ns.length, _, .int .i64 (k : Int), _, _, _, _, _, _, _, _, _, _, _, _, _, _, _, _, _, _, _, _, _, _, _, _, _, _, _, _, _, _, _, _, _, _, _, _, _, _, .agg #[.slice An ns.length cn, .slice Ac cs.length cc], .slice (some ⟨g, 0, none⟩) ns.length ns.length, .int .i64 (k : Int), .slice (some ⟨g, 0, none⟩) k ns.length, v5, .slice (some ⟨g, 0, none⟩) ns.length ns.length, .int .i64 (k : Int), .int .i64 ((k : Int) + 1), .slice (some ⟨g, 0, none⟩) (0) (0), v6, .int .i64 7, .bool false, .bool false, .agg #[.slice An ns.length cn, .slice Ac cs.length cc], .slice (some ⟨g, 0, none⟩) ns.length ns.length, v8, .slice (some ⟨g, 0, none⟩) ns.length ns.length, .int .i64 (k : Int), .pointer (some ⟨g, k * 3, none⟩), .agg #[.int .i64 (k : Int), dv k, .map (some (mb k))], .slice (some ⟨n9, 0, none⟩) 1 1, v10, .int .i64 8, .bool false, undef, undef, undef, undef, undef, undef, undef, undef, undef, undef, undef, undef, undef, undef, undef, undef, undef, undef, undef, undef, undef, undef, undef, undef, undef, undef, undef, undef, undef, undef], defers := [] } _
          refine wpAnyH_take (i := 24) (v := .bool false) rfl (by kernel_rfl) (by kernel_rfl) (by kernel_rfl) (fun _ _ _ h => nomatch h.1) (Or.inl ⟨by rfl, fun w' hSw => by (obtain ⟨x0, x1, x2, x3, x4, x5⟩ := hSw; go_simp)⟩) hHeld ?_
          change wpAnyH Try.prog _ _ _ _ _ _ { tmps := #[_, _, _, _, _, .pointer (some ⟨w.heap.size, 0, none⟩), _, _, _, _, _, .slice (some ⟨g, 0, none⟩) ns.length ns.length, _, .int .i64 (k : Int), _, _, _, _, _, _, _, _, _, _, _, _, _, _, _, _, _, _, _, _, _, _, _, _, _, _, _, _, _, _, _, _, _, _, _, _, _, _, .agg #[.slice An ns.length cn, .slice Ac cs.length cc], .slice (some ⟨g, 0, none⟩) ns.length ns.length, .int .i64 (k : Int), .slice (some ⟨g, 0, none⟩) k ns.length, v5, .slice (some ⟨g, 0, none⟩) ns.length ns.length, .int .i64 (k : Int), .int .i64 ((k : Int) + 1), .slice (some ⟨g, 0, none⟩) (0) (0), v6, .int .i64 7, .bool false, .bool false, .agg #[.slice An ns.length cn, .slice Ac cs.length cc], .slice (some ⟨g, 0, none⟩) ns.length ns.length, v8, .slice (some ⟨g, 0, none⟩) ns.length ns.length, .int .i64 (k : Int), .pointer (some ⟨g, k * 3, none⟩), .agg #[.int .i64 (k : Int), dv k, .map (some (mb k))], .slice (some ⟨n9, 0, none⟩) 1 1, v10, .int .i64 8, .bool false, .bool false, undef, undef, undef, undef, undef, undef, undef, undef, undef, undef, undef, undef, undef, undef, undef, undef, undef, undef, undef, undef, undef, undef, undef, undef, undef, undef, undef, undef, undef], defers := [] } _
          refine wpAnyH_done (by kernel_rfl) ?_ _
          exact ⟨rfl, _, _, _, _, _, _, rfl, B11.out⟩
        · go_simp
          have RO7 := Lib.hid (reads_one w7 41 (((.int .i64 (k : Int), dv k, .map (some (mb k))), splitPt ⟨ns, cs⟩ ds r k) : Q3))
          have B8 := Lib.hid (B7.out.alloc B7.out.size (.cells #[.int .i64 (k : Int), dv k, .map (some (mb k))] 41))
          obtain ⟨n9, hn9⟩ : ∃ n9 : Nat, w7.heap.size = n9 := ⟨_, rfl⟩
          obtain ⟨w8, hw8⟩ : ∃ w8 : World, w7.alloc (.cells #[.int .i64 (k : Int), dv k, .map (some (mb k))] 41) = w8 := ⟨_, rfl⟩
          rw [hn9] at RO7 ⊢
          simp only at RO7
          rw [hw8] at RO7 B8 ⊢
          refine hK.out _ _ (KP.out _ B8.out) (fun hHeld => ?_)
          clear hK
          change wpAnyH Try.prog _ _ _ _ _ _ { tmps := #[_, _, _, _, _, .pointer (some ⟨w.heap.size, 0, none⟩), _, _, _, _, _, .slice (some ⟨g, 0, none⟩) ns.length ns.length, _, .int .i64 (k : Int), _, _, _, _, _, _, _, _, _, _, _, _, _, _, _, _, _, _, _, _, _, _, _, _, _, _, _, _, _, _, _, _, _, _, _, _, _, _, .agg #[.slice An ns.length cn, .slice Ac cs.length cc], .slice (some ⟨g, 0, none⟩) ns.length ns.length, .int .i64 (k : Int), .slice (some ⟨g, 0, none⟩) k ns.length, v5, .slice (some ⟨g, 0, none⟩) ns.length ns.length, .int .i64 (k : Int), .int .i64 ((k : Int) + 1), .slice (some ⟨g, 0, none⟩) (0) (0), v6, .int .i64 7, .bool false, .bool false, .agg #[.slice An ns.length cn, .slice Ac cs.length cc], .slice (some ⟨g, 0, none⟩) ns.length ns.length, undef, .slice (some ⟨g, 0, none⟩) ns.length ns.length, .int .i64 (k : Int), .pointer (some ⟨g, k * 3, none⟩), .agg #[.int .i64 (k : Int), dv k, .map (some (mb k))], .slice (some ⟨n9, 0, none⟩) 1 1, undef, undef, undef, undef, undef, undef, undef, undef, undef, undef, undef, undef, undef, undef, undef, undef, undef, undef, undef, undef, undef, undef, undef, undef, undef, undef, undef, undef, undef, undef, undef, undef, undef], defers := [] } _
          refine wpAnyH_ready (rs := [15]) (by kernel_rfl) (by simp) ?_
          refine AllReadyH.cons rfl (fun K hK => ?_) AllReadyH.nil
          go_simp
          refine (cloneP_any g 0 ns.length ns.length ((splitQ ⟨ns, cs⟩ ds r dv mb).flatMap cQ) w8 (by omega) (RF.out _ B8.out) OQ.out.one).mono ?_
          rintro e w9 ⟨v8, rfl, own8, bel8⟩
          have B9 : Hid (Below w4.heap.size w4 w9) := B8.out.trans (bel8.mono B8.out.size)
          have O9 : Hid (w9.ownsRow w4.heap.size 41 3 v8 ns.length ((splitQ ⟨ns, cs⟩ ds r dv mb).flatMap cQ)) := own_mono own8 B8.out.size
          have RO := Lib.hid (RO7.out.below bel8)
          clear own8 bel8
          refine hK.out _ _ (KP.out _ B9.out) (fun hHeld => ?_)
          clear hK
          change wpAnyH Try.prog _ _ _ _ _ _ { tmps := #[_, _, _, _, _, .pointer (some ⟨w.heap.size, 0, none⟩), _, _, _, _, _, .slice (some ⟨g, 0, none⟩) ns.length ns.length, _, .int .i64 (k : Int), _, _, _, _, _, _, _, _, _, _, _, _, _, _, _, _, _, _, _, _, _, _, _, _, _, _, _, _, _, _, _, _, _, _, _, _, _, _, .agg #[.slice An ns.length cn, .slice Ac cs.length cc], .slice (some ⟨g, 0, none⟩) ns.length ns.length, .int .i64 (k : Int), .slice (some ⟨g, 0, none⟩) k ns.length, v5, .slice (some ⟨g, 0, none⟩) ns.length ns.length, .int .i64 (k : Int), .int .i64 ((k : Int) + 1), .slice (some ⟨g, 0, none⟩) (0) (0), v6, .int .i64 7, .bool false, .bool false, .agg #[.slice An ns.length cn, .slice Ac cs.length cc], .slice (some ⟨g, 0, none⟩) ns.length ns.length, v8, .slice (some ⟨g, 0, none⟩) ns.length ns.length, .int .i64 (k : Int), .pointer (some ⟨g, k * 3, none⟩), .agg #[.int .i64 (k : Int), dv k, .map (some (mb k))], .slice (some ⟨n9, 0, none⟩) 1 1, undef, undef, undef, undef, undef, undef, undef, undef, undef, undef, undef, undef, undef, undef, undef, undef, undef, undef, undef, undef, undef, undef, undef, undef, undef, undef, undef, undef, undef, undef, undef, undef, undef], defers := [] } _
          refine wpAnyH_ready (rs := [21]) (by kernel_rfl) (by simp) ?_
          refine AllReadyH.cons rfl (fun K hK => ?_) AllReadyH.nil
          refine step_append_on (by kernel_rfl) (.tmp 67) (.tmp 72) 30 (by rfl) w4.heap.size 41 i0 _ 3 40 Try.underlying30 hi0 hz0 hz1 hz2 rfl (by decide) _ ns.length _ (by rfl) O9.out _ _ 1 1 (cQ (((.int .i64 (k : Int), dv k, .map (some (mb k))), splitPt ⟨ns, cs⟩ ds r k) : Q3)) (by rfl) RO.out (fun u hu => OQ1.out u (by simpa using hu)) (by unfold maxLen; omega) (by omega) B9.out.size ?_
          intro v10 w10 own10 gr10 _
          have B10 : Hid (Below w4.heap.size w4 w10) := B9.out.grown gr10 B9.out.size (fun g' e => (O9.out.lt g' e).1)
          have O10 : Hid (w10.ownsRow w4.heap.size 41 3 v10 (ns.length + 1) ((splitQ ⟨ns, cs⟩ ds r dv mb ++ [(((.int .i64 (k : Int), dv k, .map (some (mb k))), splitPt ⟨ns, cs⟩ ds r k) : Q3)]).flatMap cQ)) := by
            show World.ownsRow ..
            rw [List.flatMap_append, List.flatMap_singleton]; exact own10
          clear own10 gr10
          refine hK.out _ _ (KP.out _ B10.out) (fun hHeld => ?_)
          clear hK
          change wpAnyH Try.prog _ _ _ _ _ _ { tmps := #[_, _, _, _, _, .pointer (some ⟨w.heap.size, 0, none⟩), _, _, _, _, _, .slice (some ⟨g, 0, none⟩) ns.length ns.length, _, .int .i64 (k : Int), _, _, _, _, _, _, _, _, _, _, _, _, _, _, _, _, _, _, _, _, _, _, _, _, _, _, _, _, _, _, _, _, _, _, _, _, _, _, .agg #[.slice An ns.length cn, .slice Ac cs.length cc], .slice (some ⟨g, 0, none⟩) ns.length ns.length, .int .i64 (k : Int), .slice (some ⟨g, 0, none⟩) k ns.length, v5, .slice (some ⟨g, 0, none⟩) ns.length ns.length, .int .i64 (k : Int), .int .i64 ((k : Int) + 1), .slice (some ⟨g, 0, none⟩) (0) (0), v6, .int .i64 7, .bool false, .bool false, .agg #[.slice An ns.length cn, .slice Ac cs.length cc], .slice (some ⟨g, 0, none⟩) ns.length ns.length, v8, .slice (some ⟨g, 0, none⟩) ns.length ns.length, .int .i64 (k : Int), .pointer (some ⟨g, k * 3, none⟩), .agg #[.int .i64 (k : Int), dv k, .map (some (mb k))], .slice (some ⟨n9, 0, none⟩) 1 1, v10, undef, undef, undef, undef, undef, undef, undef, undef, undef, undef, undef, undef, undef, undef, undef, undef, undef, undef, undef, undef, undef, undef, undef, undef, undef, undef, undef, undef, undef, undef, undef, undef], defers := [] } _
          refine wpAnyH_ready (rs := [22]) (by kernel_rfl) (by simp) ?_
          refine AllReadyH.cons rfl (fun K hK => ?_) AllReadyH.nil
          go_simp
          refine (agree_row ⟨ns, cs⟩ An Ac cn cc _ _ v10 _ 8 w10 (by show ns.length ≤ _; omega) (by show cs.length ≤ _; omega) HW.out (by omega) SM8.out (H4.out.below (Nat.le_refl _) B10.out) O10.out ((OQ.out.sub SB8.out).below (Nat.le_refl _) B10.out) A8.out).mono ?_
          rintro e w11 ⟨rfl, bel11⟩
          have B11 : Hid (Below w4.heap.size w4 w11) := B10.out.trans (bel11.mono B10.out.size)
          clear bel11
          refine hK.out _ _ (KP.out _ B11.out) (fun hHeld => ?_)
          clear hK
          change wpAnyH Try.prog _ _ _ _ _ _ { tmps := #[_, _, _, _, _, .pointer (some ⟨w.heap.size, 0, none⟩), _, _, _, _, _, .slice (some ⟨g, 0, none⟩) ns.length ns.length, _, .int .i64 (k : Int), _, _, _, _, _, _, _, _, _, _, _, _, _, _, _, _, _, _, _, _, _, _, _, _, _, _, _, _, _, _, _, _, _, _, _, _, _, _, .agg #[.slice An ns.length cn, .slice Ac cs.length cc], .slice (some ⟨g, 0, none⟩) ns.length ns.length, .int .i64 (k : Int), .slice (some ⟨g, 0, none⟩) k ns.length, v5, .slice (some ⟨g, 0, none⟩) ns.length ns.length, .int .i64 (k : Int), .int .i64 ((k : Int) + 1), .slice (some ⟨g, 0, none⟩) (0) (0), v6, .int .i64 7, .bool false, .bool false, .agg #[.slice An ns.length cn, .slice Ac cs.length cc], .slice (some ⟨g, 0, none⟩) ns.length ns.length, v8, .slice (some ⟨g, 0, none⟩) ns.length ns.length, .int .i64 (k : Int), .pointer (some ⟨g, k * 3, none⟩), .agg #[.int .i64 (k : Int), dv k, .map (some (mb k))], .slice (some ⟨n9, 0, none⟩) 1 1, v10, .int .i64 8, undef, undef, undef, undef, undef, undef, undef, undef, undef, undef, undef, undef, undef, undef, undef, undef, undef, undef, undef, undef, undef, undef, undef, undef, undef, undef, undef, undef, undef, undef, undef], defers := [] } _
          refine wpAnyH_take (i := 23) (v := .bool false) rfl (by kernel_rfl) (by kernel_rfl) (by kernel_rfl) (fun _ _ _ h => nomatch h.1) (Or.inl ⟨by rfl, fun w' hSw => by (obtain ⟨x0, x1, x2, x3, x4, x5⟩ := hSw; go_simp)⟩) hHeld ?_
          change wpAnyH Try.prog _ _ _ _ _ _ { tmps := #[_, _, _, _, _, .pointer (some ⟨w.heap.size, 0, none⟩), _, _, _, _, _, .slice (some ⟨g, 0, none⟩) ns.length ns.length, _, .int .i64 (k : Int), _, _, _, _, _, _, _, _, _, _, _, _, _, _, _, _, _, _, _, _, _, _, _, _, _, _, _, _, _, _, _, _, _, _, _, _, _, _, .agg #[.slice An ns.length cn, .slice Ac cs.length cc], .slice (some ⟨g, 0, none⟩) ns.length ns.length, .int .i64 (k : Int), .slice (some ⟨g, 0, none⟩) k ns.length, v5, .slice (some ⟨g, 0, none⟩) ns.length ns.length, .int .i64 (k : Int), .int .i64 ((k : Int) + 1), .slice (some ⟨g, 0, none⟩) (0) (0), v6, .int .i64 7, .bool false, .bool false, .agg #[.slice An ns.length cn, .slice Ac cs.length cc], .slice (some ⟨g, 0, none⟩) ns.length ns.length, v8, .slice (some ⟨g, 0, none⟩) ns.length ns.length, .int .i64 (k : Int), .pointer (some ⟨g, k * 3, none⟩), .agg #[.int .i64 (k : Int), dv k, .map (some (mb k))], .slice (some ⟨n9, 0, none⟩) 1 1, v10, .int .i64 8, .bool false, undef, undef, undef, undef, undef, undef, undef, undef, undef, undef, undef, undef, undef, undef, undef, undef, undef, undef, undef, undef, undef, undef, undef, undef, undef, undef, undef, undef, undef, undef], defers := [] } _
          refine wpAnyH_take (i := 24) (v := .bool false) rfl (by kernel_rfl) (by kernel_rfl) (by kernel_rfl) (fun _ _ _ h => nomatch h.1) (Or.inl ⟨by rfl, fun w' hSw => by (obtain ⟨x0, x1, x2, x3, x4, x5⟩ := hSw; go_simp)⟩) hHeld ?_
          change wpAnyH Try.prog _ _ _ _ _ _ { tmps := #[_, _, _, _, _, .pointer (some ⟨w.heap.size, 0, none⟩), _, _, _, _, _, .slice (some ⟨g, 0, none⟩) ns.length ns.length, _, .int .i64 (k : Int), _, _, _, _, _, _, _, _, _, _, _, _, _, _, _, _, _, _, _, _, _, _, _, _, _, _, _, _, _, _, _, _, _, _, _, _, _, _, .agg #[.slice An ns.length cn, .slice Ac cs.length cc], .slice (some ⟨g, 0, none⟩) ns.length ns.length, .int .i64 (k : Int), .slice (some ⟨g, 0, none⟩) k ns.length, v5, .slice (some ⟨g, 0, none⟩) ns.length ns.length, .int .i64 (k : Int), .int .i64 ((k : Int) + 1), .slice (some ⟨g, 0, none⟩) (0) (0), v6, .int .i64 7, .bool false, .bool false, .agg #[.slice An ns.length cn, .slice Ac cs.length cc], .slice (some ⟨g, 0, none⟩) ns.length ns.length, v8, .slice (some ⟨g, 0, none⟩) ns.length ns.length, .int .i64 (k : Int), .pointer (some ⟨g, k * 3, none⟩), .agg #[.int .i64 (k : Int), dv k, .map (some (mb k))], .slice (some ⟨n9, 0, none⟩) 1 1, v10, .int .i64 8, .bool false, .bool false, undef, undef, undef, undef, undef, undef, undef, undef, undef, undef, undef, undef, undef, undef, undef, undef, undef, undef, undef, undef, undef, undef, undef, undef, undef, undef, undef, undef, undef], defers := [] } _
          refine wpAnyH_done (by kernel_rfl) ?_ _
          exact ⟨rfl, _, _, _, _, _, _, rfl, B11.out⟩
      · have a3 : ((k : Int) + 1) ≤ (ns.length : Int) := by omega
        have HL := Lib.hid hlast
        clear hlast
        have RD : Hid (∀ w', Below w4.heap.size w4 w' → Reads w' w4.heap.size 3 (some ⟨g, (k + 1) * 3, none⟩) (ns.length - (k + 1)) (((splitQ ⟨ns, cs⟩ ds r dv mb).drop (k + 1)).flatMap cQ)) := by
          intro w' hb
          have h := (reads_of_rec cQ_length RQ.out).cut (k := k + 1) (cap := ns.length) (by show k + 1 ≤ ns.length; omega) (Nat.le_refl _)
          rw [if_neg HL.out, flat_drop] at h
          have e : (⟨g, 0, none⟩ : Addr).add ((k + 1) * 3) = ⟨g, (k + 1) * 3, none⟩ := by unfold Addr.add; split <;> simp_all
          rw [Option.map_some, e] at h
          exact h.below hb
        refine wp_region_held_drew (S := (fun w' => w'.cell? ⟨w.heap.size, 0, none⟩ = some (.slice An ns.length cn) ∧ w'.cell? ⟨w.heap.size, 1, none⟩ = some (.slice Ac cs.length cc) ∧ w'.cell? ⟨g, k * 3, none⟩ = some (.int .i64 (k : Int)) ∧ w'.cell? ⟨g, k * 3 + 1, none⟩ = some (dv k) ∧ w'.cell? ⟨g, k * 3 + 1 + 1, none⟩ = some (.map (some (mb k))) ∧ Below w4.heap.size w4 w')) (by kernel_rfl) (KP.out _ ((Below.refl _ _).drew)) (fun hHeld => ?_)
        refine wpAnyH_take (i := 0) (v := .agg #[.slice An ns.length cn, .slice Ac cs.length cc]) rfl (by kernel_rfl) (by kernel_rfl) (by kernel_rfl) (fun _ _ _ h => nomatch h.1) (Or.inl ⟨by rfl, fun w' hSw => by (obtain ⟨x0, x1, x2, x3, x4, x5⟩ := hSw; go_simp)⟩) hHeld ?_
        change wpAnyH Try.prog _ _ _ _ _ _ { tmps := #[_, _, _, _, _, .pointer (some ⟨w.heap.size, 0, none⟩), _, _, _, _, _, .slice (some ⟨g, 0, none⟩) ns.length ns.length, _, .int .i64 (k : Int), _, _, _, _, _, _, _, _, _, _, _, _, _, _, _, _, _, _, _, _, _, _, _, _, _, _, _, _, _, _, _, _, _, _, _, _, _, _, .agg #[.slice An ns.length cn, .slice Ac cs.length cc], undef, undef, undef, undef, undef, undef, undef, undef, undef, undef, undef, undef, undef, undef, undef, undef, undef, undef, undef, undef, undef, undef, undef, undef, undef, undef, undef, undef, undef, undef, undef, undef, undef, undef, undef, undef, undef, undef, undef, undef, undef, undef, undef, undef, undef, undef, undef, undef, undef, undef, undef, undef, undef], defers := [] } _
        refine wpAnyH_take (i := 1) (v := .slice (some ⟨g, 0, none⟩) ns.length ns.length) rfl (by kernel_rfl) (by kernel_rfl) (by kernel_rfl) (fun _ _ _ h => nomatch h.1) (Or.inl ⟨by rfl, fun w' hSw => by (obtain ⟨x0, x1, x2, x3, x4, x5⟩ := hSw; go_simp)⟩) hHeld ?_
        change wpAnyH Try.prog _ _ _ _ _ _ { tmps := #[_, _, _, _, _, .pointer (some ⟨w.heap.size, 0, none⟩), _, _, _, _, _, .slice (some ⟨g, 0, none⟩) ns.length ns.length, _, .int .i64 (k : Int), _, _, _, _, _, _, _, _, _, _, _, _, _, _, _, _, _, _, _, _, _, _, _, _, _, _, _, _, _, _, _, _, _, _, _, _, _, _, .agg #[.slice An ns.length cn, .slice Ac cs.length cc], .slice (some ⟨g, 0, none⟩) ns.length ns.length, undef, undef, undef, undef, undef, undef, undef, undef, undef, undef, undef, undef, undef, undef, undef, undef, undef, undef, undef, undef, undef, undef, undef, undef, undef, undef, undef, undef, undef, undef, undef, undef, undef, undef, undef, undef, undef, undef, undef, undef, undef, undef, undef, undef, undef, undef, undef, undef, undef, undef, undef, undef], defers := [] } _
        refine wpAnyH_take (i := 2) (v := .int .i64 (k : Int)) rfl (by kernel_rfl) (by kernel_rfl) (by kernel_rfl) (fun _ _ _ h => nomatch h.1) (Or.inl ⟨by rfl, fun w' hSw => by (obtain ⟨x0, x1, x2, x3, x4, x5⟩ := hSw; go_simp)⟩) hHeld ?_
        change wpAnyH Try.prog _ _ _ _ _ _ { tmps := #[_, _, _, _, _, .pointer (some ⟨w.heap.size, 0, none⟩), _, _, _, _, _, .slice (some ⟨g, 0, none⟩) ns.length ns.length, _, .int .i64 (k : Int), _, _, _, _, _, _, _, _, _, _, _, _, _, _, _, _, _, _, _, _, _, _, _, _, _, _, _, _, _, _, _, _, _, _, _, _, _, _, .agg #[.slice An ns.length cn, .slice Ac cs.length cc], .slice (some ⟨g, 0, none⟩) ns.length ns.length, .int .i64 (k : Int), undef, undef, undef, undef, undef, undef, undef, undef, undef, undef, undef, undef, undef, undef, undef, undef, undef, undef, undef, undef, undef, undef, undef, undef, undef, undef, undef, undef, undef, undef, undef, undef, undef, undef, undef, undef, undef, undef, undef, undef, undef, undef, undef, undef, undef, undef, undef, undef, undef, undef, undef], defers := [] } _
        refine wpAnyH_take (i := 3) (v := .slice (some ⟨g, 0, none⟩) k ns.length) rfl (by kernel_rfl) (by kernel_rfl) (by kernel_rfl) (fun _ _ _ h => nomatch h.1) (Or.inl ⟨by rfl, fun w' hSw => by (obtain ⟨x0, x1, x2, x3, x4, x5⟩ := hSw; go_simp)⟩) hHeld ?_
        change wpAnyH Try.prog _ _ _ _ _ _ { tmps := #[_, _, _, _, _, .pointer (some ⟨w.heap.size, 0, none⟩), _, _, _, _, _, .slice (some ⟨g, 0, none⟩) ns.length ns.length, _, .int .i64 (k : Int), _, _, _, _, _, _, _, _, _, _, _, _, _, _, _, _, _, _, _, _, _, _, _, _, _, _, _, _, _, _, _, _, _, _, _, _, _, _, .agg #[.slice An ns.length cn, .slice Ac cs.length cc], .slice (some ⟨g, 0, none⟩) ns.length ns.length, .int .i64 (k : Int), .slice (some ⟨g, 0, none⟩) k ns.length, undef, undef, undef, undef, undef, undef, undef, undef, undef, undef, undef, undef, undef, undef, undef, undef, undef, undef, undef, undef, undef, undef, undef, undef, undef, undef, undef, undef, undef, undef, undef, undef, undef, undef, undef, undef, undef, undef, undef, undef, undef, undef, undef, undef, undef, undef, undef, undef, undef, undef], defers := [] } _
        refine wpAnyH_take (i := 5) (v := .slice (some ⟨g, 0, none⟩) ns.length ns.length) rfl (by kernel_rfl) (by kernel_rfl) (by kernel_rfl) (fun _ _ _ h => nomatch h.1) (Or.inl ⟨by rfl, fun w' hSw => by (obtain ⟨x0, x1, x2, x3, x4, x5⟩ := hSw; go_simp)⟩) hHeld ?_
        change wpAnyH Try.prog _ _ _ _ _ _ { tmps := #[_, _, _, _, _, .pointer (some ⟨w.heap.size, 0, none⟩), _, _, _, _, _, .slice (some ⟨g, 0, none⟩) ns.length ns.length, _, .int .i64 (k : Int), _, _, _, _, _, _, _, _, _, _, _, _, _, _, _, _, _, _, _, _, _, _, _, _, _, _, _, _, _, _, _, _, _, _, _, _, _, _, .agg #[.slice An ns.length cn, .slice Ac cs.length cc], .slice (some ⟨g, 0, none⟩) ns.length ns.length, .int .i64 (k : Int), .slice (some ⟨g, 0, none⟩) k ns.length, undef, .slice (some ⟨g, 0, none⟩) ns.length ns.length, undef, undef, undef, undef, undef, undef, undef, undef, undef, undef, undef, undef, undef, undef, undef, undef, undef, undef, undef, undef, undef, undef, undef, undef, undef, undef, undef, undef, undef, undef, undef, undef, undef, undef, undef, undef, undef, undef, undef, undef, undef, undef, undef, undef, undef, undef, undef, undef], defers := [] } _
        refine wpAnyH_take (i := 6) (v := .int .i64 (k : Int)) rfl (by kernel_rfl) (by kernel_rfl) (by kernel_rfl) (fun _ _ _ h => nomatch h.1) (Or.inl ⟨by rfl, fun w' hSw => by (obtain ⟨x0, x1, x2, x3, x4, x5⟩ := hSw; go_simp)⟩) hHeld ?_
        change wpAnyH Try.prog _ _ _ _ _ _ { tmps := #[_, _, _, _, _, .pointer (some ⟨w.heap.size, 0, none⟩), _, _, _, _, _, .slice (some ⟨g, 0, none⟩) ns.length ns.length, _, .int .i64 (k : Int), _, _, _, _, _, _, _, _, _, _, _, _, _, _, _, _, _, _, _, _, _, _, _, _, _, _, _, _, _, _, _, _, _, _, _, _, _, _, .agg #[.slice An ns.length cn, .slice Ac cs.length cc], .slice (some ⟨g, 0, none⟩) ns.length ns.length, .int .i64 (k : Int), .slice (some ⟨g, 0, none⟩) k ns.length, undef, .slice (some ⟨g, 0, none⟩) ns.length ns.length, .int .i64 (k : Int), undef, undef, undef, undef, undef, undef, undef, undef, undef, undef, undef, undef, undef, undef, undef, undef, undef, undef, undef, undef, undef, undef, undef, undef, undef, undef, undef, undef, undef, undef, undef, undef, undef, undef, undef, undef, undef, undef, undef, undef, undef, undef, undef, undef, undef, undef, undef], defers := [] } _
        refine wpAnyH_take (i := 7) (v := .int .i64 ((k : Int) + 1)) rfl (by kernel_rfl) (by kernel_rfl) (by kernel_rfl) (fun _ _ _ h => nomatch h.1) (Or.inl ⟨by rfl, fun w' hSw => by (obtain ⟨x0, x1, x2, x3, x4, x5⟩ := hSw; go_simp)⟩) hHeld ?_
        change wpAnyH Try.prog _ _ _ _ _ _ { tmps := #[_, _, _, _, _, .pointer (some ⟨w.heap.size, 0, none⟩), _, _, _, _, _, .slice (some ⟨g, 0, none⟩) ns.length ns.length, _, .int .i64 (k : Int), _, _, _, _, _, _, _, _, _, _, _, _, _, _, _, _, _, _, _, _, _, _, _, _, _, _, _, _, _, _, _, _, _, _, _, _, _, _, .agg #[.slice An ns.length cn, .slice Ac cs.length cc], .slice (some ⟨g, 0, none⟩) ns.length ns.length, .int .i64 (k : Int), .slice (some ⟨g, 0, none⟩) k ns.length, undef, .slice (some ⟨g, 0, none⟩) ns.length ns.length, .int .i64 (k : Int), .int .i64 ((k : Int) + 1), undef, undef, undef, undef, undef, undef, undef, undef, undef, undef, undef, undef, undef, undef, undef, undef, undef, undef, undef, undef, undef, undef, undef, undef, undef, undef, undef, undef, undef, undef, undef, undef, undef, undef, undef, undef, undef, undef, undef, undef, undef, undef, undef, undef, undef, undef], defers := [] } _
        refine wpAnyH_take (i := 8) (v := .slice (some ⟨g, (k + 1) * 3, none⟩) (ns.length - (k + 1)) (ns.length - (k + 1))) rfl (by kernel_rfl) (by kernel_rfl) (by kernel_rfl) (fun _ _ _ h => nomatch h.1) (Or.inl ⟨by rfl, fun w' hSw => by (obtain ⟨x0, x1, x2, x3, x4, x5⟩ := hSw; (have hl := HL.out); go_simp; (try (intro h; omega)))⟩) hHeld ?_
        change wpAnyH Try.prog _ _ _ _ _ _ { tmps := #[_, _, _, _, _, .pointer (some ⟨w.heap.size, 0, none⟩), _, _, _, _, _, .slice (some ⟨g, 0, none⟩) ns.length ns.length, _, .int .i64 (k : Int), _, _, _, _, _, _, _, _, _, _, _, _, _, _, _, _, _, _, _, _, _, _, _, _, _, _, _, _, _, _, _, _, _, _, _, _, _, _, .agg #[.slice An ns.length cn, .slice Ac cs.length cc], .slice (some ⟨g, 0, none⟩) ns.length ns.length, .int .i64 (k : Int), .slice (some ⟨g, 0, none⟩) k ns.length, undef, .slice (some ⟨g, 0, none⟩) ns.length ns.length, .int .i64 (k : Int), .int .i64 ((k : Int) + 1), .slice (some ⟨g, (k + 1) * 3, none⟩) (ns.length - (k + 1)) (ns.length - (k + 1)), undef, undef, undef, undef, undef, undef, undef, undef, undef, undef, undef, undef, undef, undef, undef, undef, undef, undef, undef, undef, undef, undef, undef, undef, undef, undef, undef, undef, undef, undef, undef, undef, undef, undef, undef, undef, undef, undef, undef, undef, undef, undef, undef, undef, undef], defers := [] } _
        refine wpAnyH_ready (rs := [4]) (by kernel_rfl) (by simp) ?_
        refine AllReadyH.cons rfl (fun K hK => ?_) AllReadyH.nil
        go_simp
        refine (cloneP_any g 0 ns.length k (((splitQ ⟨ns, cs⟩ ds r dv mb).take k).flatMap cQ) w4.drew (by omega) RT.out.drew (OQ.out.sub fun q hq => List.mem_of_mem_take hq).one).mono ?_
        rintro e w5 ⟨v5, rfl, own5, bel5⟩
        have B5 : Hid (Below w4.heap.size w4 w5) := ((Below.refl w4.heap.size w4).drew).trans bel5
        have O5 := Lib.hid own5
        clear bel5 own5
        refine hK.out _ _ (KP.out _ B5.out) (fun hHeld => ?_)
        clear hK
        change wpAnyH Try.prog _ _ _ _ _ _ { tmps := #[_, _, _, _, _, .pointer (some ⟨w.heap.size, 0, none⟩), _, _, _, _, _, .slice (some ⟨g, 0, none⟩) ns.length ns.length, _, .int .i64 (k : Int), _, _, _, _, _, _, _, _, _, _, _, _, _, _, _, _, _, _, _, _, _, _, _, _, _, _, _, _, _, _, _, _, _, _, _, _, _, _, .agg #[.slice An ns.length cn, .slice Ac cs.length cc], .slice (some ⟨g, 0, none⟩) ns.length ns.length, .int .i64 (k : Int), .slice (some ⟨g, 0, none⟩) k ns.length, v5, .slice (some ⟨g, 0, none⟩) ns.length ns.length, .int .i64 (k : Int), .int .i64 ((k : Int) + 1), .slice (some ⟨g, (k + 1) * 3, none⟩) (ns.length - (k + 1)) (ns.length - (k + 1)), undef, undef, undef, undef, undef, undef, undef, undef, undef, undef, undef, undef, undef, undef, undef, undef, undef, undef, undef, undef, undef, undef, undef, undef, undef, undef, undef, undef, undef, undef, undef, undef, undef, undef, undef, undef, undef, undef, undef, undef, undef, undef, undef, undef, undef], defers := [] } _
        refine wpAnyH_ready (rs := [9]) (by kernel_rfl) (by simp) ?_
        refine AllReadyH.cons rfl (fun K hK => ?_) AllReadyH.nil
        refine step_append_any _ (by rfl) (.tmp 56) (.tmp 60) 30 (by rfl) w4.heap.size 41 i0 _ 3 40 Try.underlying30 hi0 hz0 hz1 hz2 rfl (by decide) _ k _ (by rfl) O5.out _ (some ⟨g, (k + 1) * 3, none⟩) (ns.length - (k + 1)) (ns.length - (k + 1)) (((splitQ ⟨ns, cs⟩ ds r dv mb).drop (k + 1)).flatMap cQ) (by rfl) (RD.out _ B5.out) (OQ.out.sub fun q hq => List.mem_of_mem_drop hq).one (by unfold maxLen; omega) (by omega) B5.out.size ?_
        intro v6 w6 own6 gr6 _
        rw [← List.flatMap_append] at own6
        have B6 : Hid (Below w4.heap.size w4 w6) := B5.out.grown gr6 B5.out.size (fun g' e => (O5.out.lt g' e).1)
        have O6 := Lib.hid own6
        clear own6 gr6
        refine hK.out _ _ (KP.out _ B6.out) (fun hHeld => ?_)
        clear hK
        change wpAnyH Try.prog _ _ _ _ _ _ { tmps := #[_, _, _, _, _, .pointer (some ⟨w.heap.size, 0, none⟩), _, _, _, _, _, .slice (some ⟨g, 0, none⟩) ns.length ns.length, _, .int .i64 (k : Int), _, _, _, _, _, _, _, _, _, _, _, _, _, _, _, _, _, _, _, _, _, _, _, _, _, _, _, _, _, _, _, _, _, _, _, _, _, _, .agg #[.slice An ns.length cn, .slice Ac cs.length cc], .slice (some ⟨g, 0, none⟩) ns.length ns.length, .int .i64 (k : Int), .slice (some ⟨g, 0, none⟩) k ns.length, v5, .slice (some ⟨g, 0, none⟩) ns.length ns.length, .int .i64 (k : Int), .int .i64 ((k : Int) + 1), .slice (some ⟨g, (k + 1) * 3, none⟩) (ns.length - (k + 1)) (ns.length - (k + 1)), v6, undef, undef, undef, undef, undef, undef, undef, undef, undef, undef, undef, undef, undef, undef, undef, undef, undef, undef, undef, undef, undef, undef, undef, undef, undef, undef, undef, undef, undef, undef, undef, undef, undef, undef, undef, undef, undef, undef, undef, undef, undef, undef, undef, undef], defers := [] } _
        refine wpAnyH_ready (rs := [10]) (by kernel_rfl) (by simp) ?_
        refine AllReadyH.cons rfl (fun K hK => ?_) AllReadyH.nil
        go_simp
        refine (agree_row ⟨ns, cs⟩ An Ac cn cc _ _ v6 _ 7 w6 (by show ns.length ≤ _; omega) (by show cs.length ≤ _; omega) HW.out (by omega) SM7.out (H4.out.below (Nat.le_refl _) B6.out) O6.out ((OQ.out.sub SB.out).below (Nat.le_refl _) B6.out) A7.out).mono ?_
        rintro e w7 ⟨rfl, bel7⟩
        have B7 : Hid (Below w4.heap.size w4 w7) := B6.out.trans (bel7.mono B6.out.size)
        clear bel7
        refine hK.out _ _ (KP.out _ B7.out) (fun hHeld => ?_)
        clear hK
        change wpAnyH Try.prog _ _ _ _ _ _ { tmps := #[_, _, _, _, _, .pointer (some ⟨w.heap.size, 0, none⟩), _, _, _, _, _, .slice (some ⟨g, 0, none⟩) ns.length ns.length, _, .int .i64 (k : Int), _, _, _, _, _, _, _, _, _, _, _, _, _, _, _, _, _, _, _, _, _, _, _, _, _, _, _, _, _, _, _, _, _, _, _, _, _, _, .agg #[.slice An ns.length cn, .slice Ac cs.length cc], .slice (some ⟨g, 0, none⟩) ns.length ns.length, .int .i64 (k : Int), .slice (some ⟨g, 0, none⟩) k ns.length, v5, .slice (some ⟨g, 0, none⟩) ns.length ns.length, .int .i64 (k : Int), .int .i64 ((k : Int) + 1), .slice (some ⟨g, (k + 1) * 3, none⟩) (ns.length - (k + 1)) (ns.length - (k + 1)), v6, .int .i64 7, undef, undef, undef, undef, undef, undef, undef, undef, undef, undef, undef, undef, undef, undef, undef, undef, undef, undef, undef, undef, undef, undef, undef, undef, undef, undef, undef, undef, undef, undef, undef, undef, undef, undef, undef, undef, undef, undef, undef, undef, undef, undef, undef], defers := [] } _
        refine wpAnyH_take (i := 11) (v := .bool false) rfl (by kernel_rfl) (by kernel_rfl) (by kernel_rfl) (fun _ _ _ h => nomatch h.1) (Or.inl ⟨by rfl, fun w' hSw => by (obtain ⟨x0, x1, x2, x3, x4, x5⟩ := hSw; go_simp)⟩) hHeld ?_
        change wpAnyH Try.prog _ _ _ _ _ _ { tmps := #[_, _, _, _, _, .pointer (some ⟨w.heap.size, 0, none⟩), _, _, _, _, _, .slice (some ⟨g, 0, none⟩) ns.length ns.length, _, .int .i64 (k : Int), _, _, _, _, _, _, _, _, _, _, _, _, _, _, _, _, _, _, _, _, _, _, _, _, _, _, _, _, _, _, _, _, _, _, _, _, _, _, .agg #[.slice An ns.length cn, .slice Ac cs.length cc], .slice (some ⟨g, 0, none⟩) ns.length ns.length, .int .i64 (k : Int), .slice (some ⟨g, 0, none⟩) k ns.length, v5, .slice (some ⟨g, 0, none⟩) ns.length ns.length, .int .i64 (k : Int), .int .i64 ((k : Int) + 1), .slice (some ⟨g, (k + 1) * 3, none⟩) (ns.length - (k + 1)) (ns.length - (k + 1)), v6, .int .i64 7, .bool false, undef, undef, undef, undef, undef, undef, undef, undef, undef, undef, undef, undef, undef, undef, undef, undef, undef, undef, undef, undef, undef, undef, undef, undef, undef, undef, undef, undef, undef, undef, undef, undef, undef, undef, undef, undef, undef, undef, undef, undef, undef, undef], defers := [] } _
        refine wpAnyH_take (i := 12) (v := .bool false) rfl (by kernel_rfl) (by kernel_rfl) (by kernel_rfl) (fun _ _ _ h => nomatch h.1) (Or.inl ⟨by rfl, fun w' hSw => by (obtain ⟨x0, x1, x2, x3, x4, x5⟩ := hSw; go_simp)⟩) hHeld ?_
        change wpAnyH Try.prog _ _ _ _ _ _ { tmps := #[_, _, _, _, _, .pointer (some ⟨w.heap.size, 0, none⟩), _, _, _, _, _, .slice (some ⟨g, 0, none⟩) ns.length ns.length, _, .int .i64 (k : Int), _, _, _, _, _, _, _, _, _, _, _, _, _, _, _, _, _, _, _, _, _, _, _, _, _, _, _, _, _, _, _, _, _, _, _, _, _, _, .agg #[.slice An ns.length cn, .slice Ac cs.length cc], .slice (some ⟨g, 0, none⟩) ns.length ns.length, .int .i64 (k : Int), .slice (some ⟨g, 0, none⟩) k ns.length, v5, .slice (some ⟨g, 0, none⟩) ns.length ns.length, .int .i64 (k : Int), .int .i64 ((k : Int) + 1), .slice (some ⟨g, (k + 1) * 3, none⟩) (ns.length - (k + 1)) (ns.length - (k + 1)), v6, .int .i64 7, .bool false, .bool false, undef, undef, undef, undef, undef, undef, undef, undef, undef, undef, undef, undef, undef, undef, undef, undef, undef, undef, undef, undef, undef, undef, undef, undef, undef, undef, undef, undef, undef, undef, undef, undef, undef, undef, undef, undef, undef, undef, undef, undef, undef], defers := [] } _
        refine wpAnyH_take (i := 13) (v := .agg #[.slice An ns.length cn, .slice Ac cs.length cc]) rfl (by kernel_rfl) (by kernel_rfl) (by kernel_rfl) (fun _ _ _ h => nomatch h.1) (Or.inl ⟨by rfl, fun w' hSw => by (obtain ⟨x0, x1, x2, x3, x4, x5⟩ := hSw; go_simp)⟩) hHeld ?_
        change wpAnyH Try.prog _ _ _ _ _ _ { tmps := #[_, _, _, _, _, .pointer (some ⟨w.heap.size, 0, none⟩), _, _, _, _, _, .slice (some ⟨g, 0, none⟩) ns.length ns.length, _, .int .i64 (k : Int), _, _, _, _, _, _, _, _, _, _, _, _, _, _, _, _, _, _, _, _, _, _, _, _, _, _, _, _, _, _, _, _, _, _, _, _, _, _, .agg #[.slice An ns.length cn, .slice Ac cs.length cc], .slice (some ⟨g, 0, none⟩) ns.length ns.length, .int .i64 (k : Int), .slice (some ⟨g, 0, none⟩) k ns.length, v5, .slice (some ⟨g, 0, none⟩) ns.length ns.length, .int .i64 (k : Int), .int .i64 ((k : Int) + 1), .slice (some ⟨g, (k + 1) * 3, none⟩) (ns.length - (k + 1)) (ns.length - (k + 1)), v6, .int .i64 7, .bool false, .bool false, .agg #[.slice An ns.length cn, .slice Ac cs.length cc], undef, undef, undef, undef, undef, undef, undef, undef, undef, undef, undef, undef, undef, undef, undef, undef, undef, undef, undef, undef, undef, undef, undef, undef, undef, undef, undef, undef, undef, undef, undef, undef, undef, undef, undef, undef, undef, undef, undef, undef], defers := [] } _
        refine wpAnyH_take (i := 14) (v := .slice (some ⟨g, 0, none⟩) ns.length ns.length) rfl (by kernel_rfl) (by kernel_rfl) (by kernel_rfl) (fun _ _ _ h => nomatch h.1) (Or.inl ⟨by rfl, fun w' hSw => by (obtain ⟨x0, x1, x2, x3, x4, x5⟩ := hSw; go_simp)⟩) hHeld ?_
        change wpAnyH Try.prog _ _ _ _ _ _ { tmps := #[_, _, _, _, _, .pointer (some ⟨w.heap.size, 0, none⟩), _, _, _, _, _, .slice (some ⟨g, 0, none⟩) ns.length ns.length, _, .int .i64 (k : Int), _, _, _, _, _, _, _, _, _, _, _, _, _, _, _, _, _, _, _, _, _, _, _, _, _, _, _, _, _, _, _, _, _, _, _, _, _, _, .agg #[.slice An ns.length cn, .slice Ac cs.length cc], .slice (some ⟨g, 0, none⟩) ns.length ns.length, .int .i64 (k : Int), .slice (some ⟨g, 0, none⟩) k ns.length, v5, .slice (some ⟨g, 0, none⟩) ns.length ns.length, .int .i64 (k : Int), .int .i64 ((k : Int) + 1), .slice (some ⟨g, (k + 1) * 3, none⟩) (ns.length - (k + 1)) (ns.length - (k + 1)), v6, .int .i64 7, .bool false, .bool false, .agg #[.slice An ns.length cn, .slice Ac cs.length cc], .slice (some ⟨g, 0, none⟩) ns.length ns.length, undef, undef, undef, undef, undef, undef, undef, undef, undef, undef, undef, undef, undef, undef, undef, undef, undef, undef, undef, undef, undef, undef, undef, undef, undef, undef, undef, undef, undef, undef, undef, undef, undef, undef, undef, undef, undef, undef, undef], defers := [] } _
        refine wpAnyH_take (i := 16) (v := .slice (some ⟨g, 0, none⟩) ns.length ns.length) rfl (by kernel_rfl) (by kernel_rfl) (by kernel_rfl) (fun _ _ _ h => nomatch h.1) (Or.inl ⟨by rfl, fun w' hSw => by (obtain ⟨x0, x1, x2, x3, x4, x5⟩ := hSw; go_simp)⟩) hHeld ?_
        change wpAnyH Try.prog _ _ _ _ _ _ { tmps := #[_, _, _, _, _, .pointer (some ⟨w.heap.size, 0, none⟩), _, _, _, _, _, .slice (some ⟨g, 0, none⟩) ns.length ns.length, _, .int .i64 (k : Int), _, _, _, _, _, _, _, _, _, _, _, _, _, _, _, _, _, _, _, _, _, _, _, _, _, _, _, _, _, _, _, _, _, _, _, _, _, _, .agg #[.slice An ns.length cn, .slice Ac cs.length cc], .slice (some ⟨g, 0, none⟩) ns.length ns.length, .int .i64 (k : Int), .slice (some ⟨g, 0, none⟩) k ns.length, v5, .slice (some ⟨g, 0, none⟩) ns.length ns.length, .int .i64 (k : Int), .int .i64 ((k : Int) + 1), .slice (some ⟨g, (k + 1) * 3, none⟩) (ns.length - (k + 1)) (ns.length - (k + 1)), v6, .int .i64 7, .bool false, .bool false, .agg #[.slice An ns.length cn, .slice Ac cs.length cc], .slice (some ⟨g, 0, none⟩) ns.length ns.length, undef, .slice (some ⟨g, 0, none⟩) ns.length ns.length, undef, undef, undef, undef, undef, undef, undef, undef, undef, undef, undef, undef, undef, undef, undef, undef, undef, undef, undef, undef, undef, undef, undef, undef, undef, undef, undef, undef, undef, undef, undef, undef, undef, undef, undef, undef, undef], defers := [] } _
        refine wpAnyH_take (i := 17) (v := .int .i64 (k : Int)) rfl (by kernel_rfl) (by kernel_rfl) (by kernel_rfl) (fun _ _ _ h => nomatch h.1) (Or.inl ⟨by rfl, fun w' hSw => by (obtain ⟨x0, x1, x2, x3, x4, x5⟩ := hSw; go_simp)⟩) hHeld ?_
        change wpAnyH Try.prog _ _ _ _ _ _ { tmps := #[_, _, _, _, _, .pointer (some ⟨w.heap.size, 0, none⟩), _, _, _, _, _, .slice (some ⟨g, 0, none⟩) ns.length ns.length, _, .int .i64 (k : Int), _, _, _, _, _, _, _, _, _, _, _, _, _, _, _, _, _, _, _, _, _, _, _, _, _, _, _, _, _, _, _, _, _, _, _, _, _, _, .agg #[.slice An ns.length cn, .slice Ac cs.length cc], .slice (some ⟨g, 0, none⟩) ns.length ns.length, .int .i64 (k : Int), .slice (some ⟨g, 0, none⟩) k ns.length, v5, .slice (some ⟨g, 0, none⟩) ns.length ns.length, .int .i64 (k : Int), .int .i64 ((k : Int) + 1), .slice (some ⟨g, (k + 1) * 3, none⟩) (ns.length - (k + 1)) (ns.length - (k + 1)), v6, .int .i64 7, .bool false, .bool false, .agg #[.slice An ns.length cn, .slice Ac cs.length cc], .slice (some ⟨g, 0, none⟩) ns.length ns.length, undef, .slice (some ⟨g, 0, none⟩) ns.length ns.length, .int .i64 (k : Int), undef, undef, undef, undef, undef, undef, undef, undef, undef, undef, undef, undef, undef, undef, undef, undef, undef, undef, undef, undef, undef, undef, undef, undef, undef, undef, undef, undef, undef, undef, undef, undef, undef, undef, undef, undef], defers := [] } _
        refine wpAnyH_take (i := 18) (v := .pointer (some ⟨g, k * 3, none⟩)) rfl (by kernel_rfl) (by kernel_rfl) (by kernel_rfl) (fun _ _ _ h => nomatch h.1) (Or.inl ⟨by rfl, fun w' hSw => by (obtain ⟨x0, x1, x2, x3, x4, x5⟩ := hSw; go_simp)⟩) hHeld ?_
        change wpAnyH Try.prog _ _ _ _ _ _ { tmps := #[_, _, _, _, _, .pointer (some ⟨w.heap.size, 0, none⟩), _, _, _, _, _, .slice (some ⟨g, 0, none⟩) ns.length ns.length, _, .int .i64 (k : Int), _, _, _, _, _, _, _, _, _, _, _, _, _, _, _, _, _, _, _, _, _, _, _, _, _, _, _, _, _, _, _, _, _, _, _, _, _, _, .agg #[.slice An ns.length cn, .slice Ac cs.length cc], .slice (some ⟨g, 0, none⟩) ns.length ns.length, .int .i64 (k : Int), .slice (some ⟨g, 0, none⟩) k ns.length, v5, .slice (some ⟨g, 0, none⟩) ns.length ns.length, .int .i64 (k : Int), .int .i64 ((k : Int) + 1), .slice (some ⟨g, (k + 1) * 3, none⟩) (ns.length - (k + 1)) (ns.length - (k + 1)), v6, .int .i64 7, .bool false, .bool false, .agg #[.slice An ns.length cn, .slice Ac cs.length cc], .slice (some ⟨g, 0, none⟩) ns.length ns.length, undef, .slice (some ⟨g, 0, none⟩) ns.length ns.length, .int .i64 (k : Int), .pointer (some ⟨g, k * 3, none⟩), undef, undef, undef, undef, undef, undef, undef, undef, undef, undef, undef, undef, undef, undef, undef, undef, undef, undef, undef, undef, undef, undef, undef, undef, undef, undef, undef, undef, undef, undef, undef, undef, undef, undef, undef], defers := [] } _
        refine wpAnyH_take (i := 19) (v := .agg #[.int .i64 (k : Int), dv k, .map (some (mb k))]) rfl (by kernel_rfl) (by kernel_rfl) (by kernel_rfl) (fun _ _ _ h => nomatch h.1) (Or.inl ⟨by rfl, fun w' hSw => by (obtain ⟨x0, x1, x2, x3, x4, x5⟩ := hSw; go_simp)⟩) hHeld ?_
        change wpAnyH Try.prog _ _ _ _ _ _ { tmps := #[_, _, _, _, _, .pointer (some ⟨w.heap.size, 0, none⟩), _, _, _, _, _, .slice (some ⟨g, 0, none⟩) ns.length ns.length, _, .int .i64 (k : Int), _, _, _, _, _, _, _, _, _, _, _, _, _, _, _, _, _, _, _, _, _, _, _, _, _, _, _, _, _, _, _, _, _, _, _, _, _, _, .agg #[.slice An ns.length cn, .slice Ac cs.length cc], .slice (some ⟨g, 0, none⟩) ns.length ns.length, .int .i64 (k : Int), .slice (some ⟨g, 0, none⟩) k ns.length, v5, .slice (some ⟨g, 0, none⟩) ns.length ns.length, .int .i64 (k : Int), .int .i64 ((k : Int) + 1), .slice (some ⟨g, (k + 1) * 3, none⟩) (ns.length - (k + 1)) (ns.length - (k + 1)), v6, .int .i64 7, .bool false, .bool false, .agg #[.slice An ns.length cn, .slice Ac cs.length cc], .slice (some ⟨g, 0, none⟩) ns.length ns.length, undef, .slice (some ⟨g, 0, none⟩) ns.length ns.length, .int .i64 (k : Int), .pointer (some ⟨g, k * 3, none⟩), .agg #[.int .i64 (k : Int), dv k, .map (some (mb k))], undef, undef, undef, undef, undef, undef, undef, undef, undef, undef, undef, undef, undef, undef, undef, undef, undef, undef, undef, undef, undef, undef, undef, undef, undef, undef, undef, undef, undef, undef, undef, undef, undef, undef], defers := [] } _
        refine wpAnyH_ready (rs := [15, 20]) (by kernel_rfl) (by simp) ?_
        refine AllReadyH.cons rfl (fun K hK => ?_) (AllReadyH.cons rfl (fun K hK => ?_) AllReadyH.nil)
        · go_simp
          refine (cloneP_any g 0 ns.length ns.length ((splitQ ⟨ns, cs⟩ ds r dv mb).flatMap cQ) w7 (by omega) (RF.out _ B7.out) OQ.out.one).mono ?_
          rintro e w8 ⟨v8, rfl, own8, bel8⟩
          have B8 : Hid (Below w4.heap.size w4 w8) := B7.out.trans (bel8.mono B7.out.size)
          have O8 : Hid (w8.ownsRow w4.heap.size 41 3 v8 ns.length ((splitQ ⟨ns, cs⟩ ds r dv mb).flatMap cQ)) := own_mono own8 B7.out.size
          clear own8 bel8
          refine hK.out _ _ (KP.out _ B8.out) (fun hHeld => ?_)
          clear hK
          change wpAnyH Try.prog _ _ _ _ _ _ { tmps := #[_, _, _, _, _, .pointer (some ⟨w.heap.size, 0, none⟩), _, _, _, _, _, .slice (some ⟨g, 0, none⟩) ns.length ns.length, _, .int .i64 (k : Int), _, _, _, _, _, _, _, _, _, _, _, _, _, _, _, _, _, _, _, _, _, _, _, _, _, _, _, _, _, _, _, _, _, _, _, _, _, _, .agg #[.slice An ns.length cn, .slice Ac cs.length cc], .slice (some ⟨g, 0, none⟩) ns.length ns.length, .int .i64 (k : Int), .slice (some ⟨g, 0, none⟩) k ns.length, v5, .slice (some ⟨g, 0, none⟩) ns.length ns.length, .int .i64 (k : Int), .int .i64 ((k : Int) + 1), .slice (some ⟨g, (k + 1) * 3, none⟩) (ns.length - (k + 1)) (ns.length - (k + 1)), v6, .int .i64 7, .bool false, .bool false, .agg #[.slice An ns.length cn, .slice Ac cs.length cc], .slice (some ⟨g, 0, none⟩) ns.length ns.length, v8, .slice (some ⟨g, 0, none⟩) ns.length ns.length, .int .i64 (k : Int), .pointer (some ⟨g, k * 3, none⟩), .agg #[.int .i64 (k : Int), dv k, .map (some (mb k))], undef, undef, undef, undef, undef, undef, undef, undef, undef, undef, undef, undef, undef, undef, undef, undef, undef, undef, undef, undef, undef, undef, undef, undef, undef, undef, undef, undef, undef, undef, undef, undef, undef, undef], defers := [] } _
          refine wpAnyH_ready (rs := [20]) (by kernel_rfl) (by simp) ?_
          refine AllReadyH.cons rfl (fun K hK => ?_) AllReadyH.nil
          go_simp
          have RO := Lib.hid (reads_one w8 41 (((.int .i64 (k : Int), dv k, .map (some (mb k))), splitPt ⟨ns, cs⟩ ds r k) : Q3))
          have B9 := Lib.hid (B8.out.alloc B8.out.size (.cells #[.int .i64 (k : Int), dv k, .map (some (mb k))] 41))
          have O9 := Lib.hid (O8.out.alloc (.cells #[.int .i64 (k : Int), dv k, .map (some (mb k))] 41))
          obtain ⟨n9, hn9⟩ : ∃ n9 : Nat, w8.heap.size = n9 := ⟨_, rfl⟩
          obtain ⟨w9, hw9⟩ : ∃ w9 : World, w8.alloc (.cells #[.int .i64 (k : Int), dv k, .map (some (mb k))] 41) = w9 := ⟨_, rfl⟩
          rw [hn9] at RO ⊢
          simp only at RO
          rw [hw9] at RO B9 O9 ⊢
          refine hK.out _ _ (KP.out _ B9.out) (fun hHeld => ?_)
          clear hK
          change wpAnyH Try.prog _ _ _ _ _ _ { tmps := #[_, _, _, _, _, .pointer (some ⟨w.heap.size, 0, none⟩), _, _, _, _, _, .slice (some ⟨g, 0, none⟩) ns.length ns.length, _, .int .i64 (k : Int), _, _, _, _, _, _, _, _, _, _, _, _, _, _, _, _, _, _, _, _, _, _, _, _, _, _, _, _, _, _, _, _, _, _, _, _, _, _, .agg #[.slice An ns.length cn, .slice Ac cs.length cc], .slice (some ⟨g, 0, none⟩) ns.length ns.length, .int .i64 (k : Int), .slice (some ⟨g, 0, none⟩) k ns.length, v5, .slice (some ⟨g, 0, none⟩) ns.length ns.length, .int .i64 (k : Int), .int .i64 ((k : Int) + 1), .slice (some ⟨g, (k + 1) * 3, none⟩) (ns.length - (k + 1)) (ns.length - (k + 1)), v6, .int .i64 7, .bool false, .bool false, .agg #[.slice An ns.length cn, .slice Ac cs.length cc], .slice (some ⟨g, 0, none⟩) ns.length ns.length, v8, .slice (some ⟨g, 0, none⟩) ns.length ns.length, .int .i64 (k : Int), .pointer (some ⟨g, k * 3, none⟩), .agg #[.int .i64 (k : Int), dv k, .map (some (mb k))], .slice (some ⟨n9, 0, none⟩) 1 1, undef, undef, undef, undef, undef, undef, undef, undef, undef, undef, undef, undef, undef, undef, undef, undef, undef, undef, undef, undef, undef, undef, undef, undef, undef, undef, undef, undef, undef, undef, undef, undef, undef], defers := [] } _
          refine wpAnyH_ready (rs := [21]) (by kernel_rfl) (by simp) ?_
          refine AllReadyH.cons rfl (fun K hK => ?_) AllReadyH.nil
          refine step_append_on (by kernel_rfl) (.tmp 67) (.tmp 72) 30 (by rfl) w4.heap.size 41 i0 _ 3 40 Try.underlying30 hi0 hz0 hz1 hz2 rfl (by decide) _ ns.length _ (by rfl) O9.out _ _ 1 1 (cQ (((.int .i64 (k : Int), dv k, .map (some (mb k))), splitPt ⟨ns, cs⟩ ds r k) : Q3)) (by rfl) RO.out (fun u hu => OQ1.out u (by simpa using hu)) (by unfold maxLen; omega) (by omega) B9.out.size ?_
          intro v10 w10 own10 gr10 _
          have B10 : Hid (Below w4.heap.size w4 w10) := B9.out.grown gr10 B9.out.size (fun g' e => (O9.out.lt g' e).1)
          have O10 : Hid (w10.ownsRow w4.heap.size 41 3 v10 (ns.length + 1) ((splitQ ⟨ns, cs⟩ ds r dv mb ++ [(((.int .i64 (k : Int), dv k, .map (some (mb k))), splitPt ⟨ns, cs⟩ ds r k) : Q3)]).flatMap cQ)) := by
            show World.ownsRow ..
            rw [List.flatMap_append, List.flatMap_singleton]; exact own10
          clear own10 gr10
          refine hK.out _ _ (KP.out _ B10.out) (fun hHeld => ?_)
          clear hK
          change wpAnyH Try.prog _ _ _ _ _ _ { tmps := #[_, _, _, _, _, .pointer (some ⟨w.heap.size, 0, none⟩), _, _, _, _, _, .slice (some ⟨g, 0, none⟩) ns.length ns.length, _, .int .i64 (k : Int), _, _, _, _, _, _, _, _, _, _, _, _, _, _, _, _, _, _, _, _, _, _, _, _, _, _, _, _, _, _, _, _, _, _, _, _, _, _, .agg #[.slice An ns.length cn, .slice Ac cs.length cc], .slice (some ⟨g, 0, none⟩) ns.length ns.length, .int .i64 (k : Int), .slice (some ⟨g, 0, none⟩) k ns.length, v5, .slice (some ⟨g, 0, none⟩) ns.length ns.length, .int .i64 (k : Int), .int .i64 ((k : Int) + 1), .slice (some ⟨g, (k + 1) * 3, none⟩) (ns.length - (k + 1)) (ns.length - (k + 1)), v6, .int .i64 7, .bool false, .bool false, .agg #[.slice An ns.length cn, .slice Ac cs.length cc], .slice (some ⟨g, 0, none⟩) ns.length ns.length, v8, .slice (some ⟨g, 0, none⟩) ns.length ns.length, .int .i64 (k : Int), .pointer (some ⟨g, k * 3, none⟩), .agg #[.int .i64 (k : Int), dv k, .map (some (mb k))], .slice (some ⟨n9, 0, none⟩) 1 1, v10, undef, undef, undef, undef, undef, undef, undef, undef, undef, undef, undef, undef, undef, undef, undef, undef, undef, undef, undef, undef, undef, undef, undef, undef, undef, undef, undef, undef, undef, undef, undef, undef], defers := [] } _
          refine wpAnyH_ready (rs := [22]) (by kernel_rfl) (by simp) ?_
          refine AllReadyH.cons rfl (fun K hK => ?_) AllReadyH.nil
          go_simp
          refine (agree_row ⟨ns, cs⟩ An Ac cn cc _ _ v10 _ 8 w10 (by show ns.length ≤ _; omega) (by show cs.length ≤ _; omega) HW.out (by omega) SM8.out (H4.out.below (Nat.le_refl _) B10.out) O10.out ((OQ.out.sub SB8.out).below (Nat.le_refl _) B10.out) A8.out).mono ?_
          rintro e w11 ⟨rfl, bel11⟩
          have B11 : Hid (Below w4.heap.size w4 w11) := B10.out.trans (bel11.mono B10.out.size)
          clear bel11
          refine hK.out _ _ (KP.out _ B11.out) (fun hHeld => ?_)
          clear hK
          change wpAnyH Try.prog _ _ _ _ _ _ { tmps := #[_, _, _, _, _, .pointer (some ⟨w.heap.size, 0, none⟩), _, _, _, _, _, .slice (some ⟨g, 0, none⟩) ns.length ns.length, _, .int .i64 (k : Int), _, _, _, _, _, _, _, _, _, _, _, _, _, _, _, _, _, _, _, _, _, _, _, _, _, _, _, _, _, _, _, _, _, _, _, _, _, _, .agg #[.slice An ns.length cn, .slice Ac cs.length cc], .slice (some ⟨g, 0, none⟩) ns.length ns.length, .int .i64 (k : Int), .slice (some ⟨g, 0, none⟩) k ns.length, v5, .slice (some ⟨g, 0, none⟩) ns.length ns.length, .int .i64 (k : Int), .int .i64 ((k : Int) + 1), .slice (some ⟨g, (k + 1) * 3, none⟩) (ns.length - (k + 1)) (ns.length - (k + 1)), v6, .int .i64 7, .bool false, .bool false, .agg #[.slice An ns.length cn, .slice Ac cs.length cc], .slice (some ⟨g, 0, none⟩) ns.length ns.length, v8, .slice (some ⟨g, 0, none⟩) ns.length ns.length, .int .i64 (k : Int), .pointer (some ⟨g, k * 3, none⟩), .agg #[.int .i64 (k : Int), dv k, .map (some (mb k))], .slice (some ⟨n9, 0, none⟩) 1 1, v10, .int .i64 8, undef, undef, undef, undef, undef, undef, undef, undef, undef, undef, undef, undef, undef, undef, undef, undef, undef, undef, undef, undef, undef, undef, undef, undef, undef, undef, undef, undef, undef, undef, undef], defers := [] } _
          refine wpAnyH_take (i := 23) (v := .bool false) rfl (by kernel_rfl) (by kernel_rfl) (by kernel_rfl) (fun _ _ _ h => nomatch h.1) (Or.inl ⟨by rfl, fun w' hSw => by (obtain ⟨x0, x1, x2, x3, x4, x5⟩ := hSw; go_simp)⟩) hHeld ?_
          change wpAnyH Try.prog _ _ _ _ _ _ { tmps := #[_, _, _, _, _, .pointer (some ⟨w.heap.size, 0, none⟩), _, _, _, _, _, .slice (some ⟨g, 0, none⟩) ns.length ns.length, _, .int .i64 (k : Int), _, _, _, _, _, _, _, _, _, _, _, _, _, _, _, _, _, _, _, _, _, _, _, _, _, _, _, _, _, _, _, _, _, _, _, _, _, _, .agg #[.slice An ns.length cn, .slice Ac cs.length cc], .slice (some ⟨g, 0, none⟩) ns.length ns.length, .int .i64 (k : Int), .slice (some ⟨g, 0, none⟩) k ns.length, v5, .slice (some ⟨g, 0, none⟩) ns.length ns.length, .int .i64 (k : Int), .int .i64 ((k : Int) + 1), .slice (some ⟨g, (k + 1) * 3, none⟩) (ns.length - (k + 1)) (ns.length - (k + 1)), v6, .int .i64 7, .bool false, .bool false, .agg #[.slice An ns.length cn, .slice Ac cs.length cc], .slice (some ⟨g, 0, none⟩) ns.length ns.length, v8, .slice (some ⟨g, 0, none⟩) ns.length ns.length, .int .i64 (k : Int), .pointer (some ⟨g, k * 3, none⟩), .agg #[.int .i64 (k : Int), dv k, .map (some (mb k))], .slice (some ⟨n9, 0, none⟩) 1 1, v10, .int .i64 8, .bool false, undef, undef, undef, undef, undef, undef, undef, undef, undef, undef, undef, undef, undef, undef, undef, undef, undef, undef, undef, undef, undef, undef, undef, undef, undef, undef, undef, undef, undef, undef], defers := [] } _
          refine wpAnyH_take (i := 24) (v := .bool false) rfl (by kernel_rfl) (by kernel_rfl) (by kernel_rfl) (fun _ _ _ h => nomatch h.1) (Or.inl ⟨by rfl, fun w' hSw => by (obtain ⟨x0, x1, x2, x3, x4, x5⟩ := hSw; go_simp)⟩) hHeld ?_
          change wpAnyH Try.prog _ _ _ _ _ _ { tmps := #[_, _, _, _, _, .pointer (some ⟨w.heap.size, 0, none⟩), _, _, _, _, _, .slice (some ⟨g, 0, none⟩) ns.length ns.length, _, .int .i64 (k : Int), _, _, _, _, _, _, _, _, _, _, _, _, _, _, _, _, _, _, _, _, _, _, _, _, _, _, _, _, _, _, _, _, _, _, _, _, _, _, .agg #[.slice An ns.length cn, .slice Ac cs.length cc], .slice (some ⟨g, 0, none⟩) ns.length ns.length, .int .i64 (k : Int), .slice (some ⟨g, 0, none⟩) k ns.length, v5, .slice (some ⟨g, 0, none⟩) ns.length ns.length, .int .i64 (k : Int), .int .i64 ((k : Int) + 1), .slice (some ⟨g, (k + 1) * 3, none⟩) (ns.length - (k + 1)) (ns.length - (k + 1)), v6, .int .i64 7, .bool false, .bool false, .agg #[.slice An ns.length cn, .slice Ac cs.length cc], .slice (some ⟨g, 0, none⟩) ns.length ns.length, v8, .slice (some ⟨g, 0, none⟩) ns.length ns.length, .int .i64 (k : Int), .pointer (some ⟨g, k * 3, none⟩), .agg #[.int .i64 (k : Int), dv k, .map (some (mb k))], .slice (some ⟨n9, 0, none⟩) 1 1, v10, .int .i64 8, .bool false, .bool false, undef, undef, undef, undef, undef, undef, undef, undef, undef, undef, undef, undef, undef, undef, undef, undef, undef, undef, undef, undef, undef, undef, undef, undef, undef, undef, undef, undef, undef], defers := [] } _
          refine wpAnyH_done (by kernel_rfl) ?_ _
          exact ⟨rfl, _, _, _, _, _, _, rfl, B11.out⟩
        · go_simp
          have RO7 := Lib.hid (reads_one w7 41 (((.int .i64 (k : Int), dv k, .map (some (mb k))), splitPt ⟨ns, cs⟩ ds r k) : Q3))
          have B8 := Lib.hid (B7.out.alloc B7.out.size (.cells #[.int .i64 (k : Int), dv k, .map (some (mb k))] 41))
          obtain ⟨n9, hn9⟩ : ∃ n9 : Nat, w7.heap.size = n9 := ⟨_, rfl⟩
          obtain ⟨w8, hw8⟩ : ∃ w8 : World, w7.alloc (.cells #[.int .i64 (k : Int), dv k, .map (some (mb k))] 41) = w8 := ⟨_, rfl⟩
          rw [hn9] at RO7 ⊢
          simp only at RO7
          rw [hw8] at RO7 B8 ⊢
          refine hK.out _ _ (KP.out _ B8.out) (fun hHeld => ?_)
          clear hK
          change wpAnyH Try.prog _ _ _ _ _ _ { tmps := #[_, _, _, _, _, .pointer (some ⟨w.heap.size, 0, none⟩), _, _, _, _, _, .slice (some ⟨g, 0, none⟩) ns.length ns.length, _, .int .i64 (k : Int), _, _, _, _, _, _, _, _, _, _, _, _, _, _, _, _, _, _, _, _, _, _, _, _, _, _, _, _, _, _, _, _, _, _, _, _, _, _, .agg #[.slice An ns.length cn, .slice Ac cs.length cc], .slice (some ⟨g, 0, none⟩) ns.length ns.length, .int .i64 (k : Int), .slice (some ⟨g, 0, none⟩) k ns.length, v5, .slice (some ⟨g, 0, none⟩) ns.length ns.length, .int .i64 (k : Int), .int .i64 ((k : Int) + 1), .slice (some ⟨g, (k + 1) * 3, none⟩) (ns.length - (k + 1)) (ns.length - (k + 1)), v6, .int .i64 7, .bool false, .bool false, .agg #[.slice An ns.length cn, .slice Ac cs.length cc], .slice (some ⟨g, 0, none⟩) ns.length ns.length, undef, .slice (some ⟨g, 0, none⟩) ns.length ns.length, .int .i64 (k : Int), .pointer (some ⟨g, k * 3, none⟩), .agg #[.int .i64 (k : Int), dv k, .map (some (mb k))], .slice (some ⟨n9, 0, none⟩) 1 1, undef, undef, undef, undef, undef, undef, undef, undef, undef, undef, undef, undef, undef, undef, undef, undef, undef, undef, undef, undef, undef, undef, undef, undef, undef, undef, undef, undef, undef, undef, undef, undef, undef], defers := [] } _
          refine wpAnyH_ready (rs := [15]) (by kernel_rfl) (by simp) ?_
          refine AllReadyH.cons rfl (fun K hK => ?_) AllReadyH.nil
          go_simp
          refine (cloneP_any g 0 ns.length ns.length ((splitQ ⟨ns, cs⟩ ds r dv mb).flatMap cQ) w8 (by omega) (RF.out _ B8.out) OQ.out.one).mono ?_
          rintro e w9 ⟨v8, rfl, own8, bel8⟩
          have B9 : Hid (Below w4.heap.size w4 w9) := B8.out.trans (bel8.mono B8.out.size)
          have O9 : Hid (w9.ownsRow w4.heap.size 41 3 v8 ns.length ((splitQ ⟨ns, cs⟩ ds r dv mb).flatMap cQ)) := own_mono own8 B8.out.size
          have RO := Lib.hid (RO7.out.below bel8)
          clear own8 bel8
          refine hK.out _ _ (KP.out _ B9.out) (fun hHeld => ?_)
          clear hK
          change wpAnyH Try.prog _ _ _ _ _ _ { tmps := #[_, _, _, _, _, .pointer (some ⟨w.heap.size, 0, none⟩), _, _, _, _, _, .slice (some ⟨g, 0, none⟩) ns.length ns.length, _, .int .i64 (k : Int), _, _, _, _, _, _, _, _, _, _, _, _, _, _, _, _, _, _, _, _, _, _, _, _, _, _, _, _, _, _, _, _, _, _, _, _, _, _, .agg #[.slice An ns.length cn, .slice Ac cs.length cc], .slice (some ⟨g, 0, none⟩) ns.length ns.length, .int .i64 (k : Int), .slice (some ⟨g, 0, none⟩) k ns.length, v5, .slice (some ⟨g, 0, none⟩) ns.length ns.length, .int .i64 (k : Int), .int .i64 ((k : Int) + 1), .slice (some ⟨g, (k + 1) * 3, none⟩) (ns.length - (k + 1)) (ns.length - (k + 1)), v6, .int .i64 7, .bool false, .bool false, .agg #[.slice An ns.length cn, .slice Ac cs.length cc], .slice (some ⟨g, 0, none⟩) ns.length ns.length, v8, .slice (some ⟨g, 0, none⟩) ns.length ns.length, .int .i64 (k : Int), .pointer (some ⟨g, k * 3, none⟩), .agg #[.int .i64 (k : Int), dv k, .map (some (mb k))], .slice (some ⟨n9, 0, none⟩) 1 1, undef, undef, undef, undef, undef, undef, undef, undef, undef, undef, undef, undef, undef, undef, undef, undef, undef, undef, undef, undef, undef, undef, undef, undef, undef, undef, undef, undef, undef, undef, undef, undef, undef], defers := [] } _
          refine wpAnyH_ready (rs := [21]) (by kernel_rfl) (by simp) ?_
          refine AllReadyH.cons rfl (fun K hK => ?_) AllReadyH.nil
          refine step_append_on (by kernel_rfl) (.tmp 67) (.tmp 72) 30 (by rfl) w4.heap.size 41 i0 _ 3 40 Try.underlying30 hi0 hz0 hz1 hz2 rfl (by decide) _ ns.length _ (by rfl) O9.out _ _ 1 1 (cQ (((.int .i64 (k : Int), dv k, .map (some (mb k))), splitPt ⟨ns, cs⟩ ds r k) : Q3)) (by rfl) RO.out (fun u hu => OQ1.out u (by simpa using hu)) (by unfold maxLen; omega) (by omega) B9.out.size ?_
          intro v10 w10 own10 gr10 _
          have B10 : Hid (Below w4.heap.size w4 w10) := B9.out.grown gr10 B9.out.size (fun g' e => (O9.out.lt g' e).1)
          have O10 : Hid (w10.ownsRow w4.heap.size 41 3 v10 (ns.length + 1) ((splitQ ⟨ns, cs⟩ ds r dv mb ++ [(((.int .i64 (k : Int), dv k, .map (some (mb k))), splitPt ⟨ns, cs⟩ ds r k) : Q3)]).flatMap cQ)) := by
            show World.ownsRow ..
            rw [List.flatMap_append, List.flatMap_singleton]; exact own10
          clear own10 gr10
          refine hK.out _ _ (KP.out _ B10.out) (fun hHeld => ?_)
          clear hK
          change wpAnyH Try.prog _ _ _ _ _ _ { tmps := #[_, _, _, _, _, .pointer (some ⟨w.heap.size, 0, none⟩), _, _, _, _, _, .slice (some ⟨g, 0, none⟩) ns.length ns.length, _, .int .i64 (k : Int), _, _, _, _, _, _, _, _, _, _, _, _, _, _, _, _, _, _, _, _, _, _, _, _, _, _, _, _, _, _, _, _, _, _, _, _, _, _, .agg #[.slice An ns.length cn, .slice Ac cs.length cc], .slice (some ⟨g, 0, none⟩) ns.length ns.length, .int .i64 (k : Int), .slice (some ⟨g, 0, none⟩) k ns.length, v5, .slice (some ⟨g, 0, none⟩) ns.length ns.length, .int .i64 (k : Int), .int .i64 ((k : Int) + 1), .slice (some ⟨g, (k + 1) * 3, none⟩) (ns.length - (k + 1)) (ns.length - (k + 1)), v6, .int .i64 7, .bool false, .bool false, .agg #[.slice An ns.length cn, .slice Ac cs.length cc], .slice (some ⟨g, 0, none⟩) ns.length ns.length, v8, .slice (some ⟨g, 0, none⟩) ns.length ns.length, .int .i64 (k : Int), .pointer (some ⟨g, k * 3, none⟩), .agg #[.int .i64 (k : Int), dv k, .map (some (mb k))], .slice (some ⟨n9, 0, none⟩) 1 1, v10, undef, undef, undef, undef, undef, undef, undef, undef, undef, undef, undef, undef, undef, undef, undef, undef, undef, undef, undef, undef, undef, undef, undef, undef, undef, undef, undef, undef, undef, undef, undef, undef], defers := [] } _
          refine wpAnyH_ready (rs := [22]) (by kernel_rfl) (by simp) ?_
          refine AllReadyH.cons rfl (fun K hK => ?_) AllReadyH.nil
          go_simp
          refine (agree_row ⟨ns, cs⟩ An Ac cn cc _ _ v10 _ 8 w10 (by show ns.length ≤ _; omega) (by show cs.length ≤ _; omega) HW.out (by omega) SM8.out (H4.out.below (Nat.le_refl _) B10.out) O10.out ((OQ.out.sub SB8.out).below (Nat.le_refl _) B10.out) A8.out).mono ?_
          rintro e w11 ⟨rfl, bel11⟩
          have B11 : Hid (Below w4.heap.size w4 w11) := B10.out.trans (bel11.mono B10.out.size)
          clear bel11
          refine hK.out _ _ (KP.out _ B11.out) (fun hHeld => ?_)
          clear hK
          change wpAnyH Try.prog _ _ _ _ _ _ { tmps := #[_, _, _, _, _, .pointer (some ⟨w.heap.size, 0, none⟩), _, _, _, _, _, .slice (some ⟨g, 0, none⟩) ns.length ns.length, _, .int .i64 (k : Int), _, _, _, _, _, _, _, _, _, _, _, _, _, _, _, _, _, _, _, _, _, _, _, _, _, _, _, _, _, _, _, _, _, _, _, _, _, _, .agg #[.slice An ns.length cn, .slice Ac cs.length cc], .slice (some ⟨g, 0, none⟩) ns.length ns.length, .int .i64 (k : Int), .slice (some ⟨g, 0, none⟩) k ns.length, v5, .slice (some ⟨g, 0, none⟩) ns.length ns.length, .int .i64 (k : Int), .int .i64 ((k : Int) + 1), .slice (some ⟨g, (k + 1) * 3, none⟩) (ns.length - (k + 1)) (ns.length - (k + 1)), v6, .int .i64 7, .bool false, .bool false, .agg #[.slice An ns.length cn, .slice Ac cs.length cc], .slice (some ⟨g, 0, none⟩) ns.length ns.length, v8, .slice (some ⟨g, 0, none⟩) ns.length ns.length, .int .i64 (k : Int), .pointer (some ⟨g, k * 3, none⟩), .agg #[.int .i64 (k : Int), dv k, .map (some (mb k))], .slice (some ⟨n9, 0, none⟩) 1 1, v10, .int .i64 8, undef, undef, undef, undef, undef, undef, undef, undef, undef, undef, undef, undef, undef, undef, undef, undef, undef, undef, undef, undef, undef, undef, undef, undef, undef, undef, undef, undef, undef, undef, undef], defers := [] } _
          refine wpAnyH_take (i := 23) (v := .bool false) rfl (by kernel_rfl) (by kernel_rfl) (by kernel_rfl) (fun _ _ _ h => nomatch h.1) (Or.inl ⟨by rfl, fun w' hSw => by (obtain ⟨x0, x1, x2, x3, x4, x5⟩ := hSw; go_simp)⟩) hHeld ?_
          change wpAnyH Try.prog _ _ _ _ _ _ { tmps := #[_, _, _, _, _, .pointer (some ⟨w.heap.size, 0, none⟩), _, _, _, _, _, .slice (some ⟨g, 0, none⟩) ns.length ns.length, _, .int .i64 (k : Int), _, _, _, _, _, _, _, _, _, _, _, _, _, _, _, _, _, _, _, _, _, _, _, _, _, _, _, _, _, _, _, _, _, _, _, _, _, _, .agg #[.slice An ns.length cn, .slice Ac cs.length cc], .slice (some ⟨g, 0, none⟩) ns.length ns.length, .int .i64 (k : Int), .slice (some ⟨g, 0, none⟩) k ns.length, v5, .slice (some ⟨g, 0, none⟩) ns.length ns.length, .int .i64 (k : Int), .int .i64 ((k : Int) + 1), .slice (some ⟨g, (k + 1) * 3, none⟩) (ns.length - (k + 1)) (ns.length - (k + 1)), v6, .int .i64 7, .bool false, .bool false, .agg #[.slice An ns.length cn, .slice Ac cs.length cc], .slice (some ⟨g, 0, none⟩) ns.length ns.length, v8, .slice (some ⟨g, 0, none⟩) ns.length ns.length, .int .i64 (k : Int), .pointer (some ⟨g, k * 3, none⟩), .agg #[.int .i64 (k : Int), dv k, .map (some (mb k))], .slice (some ⟨n9, 0, none⟩) 1 1, v10, .int .i64 8, .bool false, undef, undef, undef, undef, undef, undef, undef, undef, undef, undef, undef, undef, undef, undef, undef, undef, undef, undef, undef, undef, undef, undef, undef, undef, undef, undef, undef, undef, undef, undef], defers := [] } _
          refine wpAnyH_take (i := 24) (v := .bool false) rfl (by kernel_rfl) (by kernel_rfl) (by kernel_rfl) (fun _ _ _ h => nomatch h.1) (Or.inl ⟨by rfl, fun w' hSw => by (obtain ⟨x0, x1, x2, x3, x4, x5⟩ := hSw; go_simp)⟩) hHeld ?_
          change wpAnyH Try.prog _ _ _ _ _ _ { tmps := #[_, _, _, _, _, .pointer (some ⟨w.heap.size, 0, none⟩), _, _, _, _, _, .slice (some ⟨g, 0, none⟩) ns.length ns.length, _, .int .i64 (k : Int), _, _, _, _, _, _, _, _, _, _, _, _, _, _, _, _, _, _, _, _, _, _, _, _, _, _, _, _, _, _, _, _, _, _, _, _, _, _, .agg #[.slice An ns.length cn, .slice Ac cs.length cc], .slice (some ⟨g, 0, none⟩) ns.length ns.length, .int .i64 (k : Int), .slice (some ⟨g, 0, none⟩) k ns.length, v5, .slice (some ⟨g, 0, none⟩) ns.length ns.length, .int .i64 (k : Int), .int .i64 ((k : Int) + 1), .slice (some ⟨g, (k + 1) * 3, none⟩) (ns.length - (k + 1)) (ns.length - (k + 1)), v6, .int .i64 7, .bool false, .bool false, .agg #[.slice An ns.length cn, .slice Ac cs.length cc], .slice (some ⟨g, 0, none⟩) ns.length ns.length, v8, .slice (some ⟨g, 0, none⟩) ns.length ns.length, .int .i64 (k : Int), .pointer (some ⟨g, k * 3, none⟩), .agg #[.int .i64 (k : Int), dv k, .map (some (mb k))], .slice (some ⟨n9, 0, none⟩) 1 1, v10, .int .i64 8, .bool false, .bool false, undef, undef, undef, undef, undef, undef, undef, undef, undef, undef, undef, undef, undef, undef, undef, undef, undef, undef, undef, undef, undef, undef, undef, undef, undef, undef, undef, undef, undef], defers := [] } _
          refine wpAnyH_done (by kernel_rfl) ?_ _
          exact ⟨rfl, _, _, _, _, _, _, rfl, B11.out⟩
end Go.Proofs.Ytjhbjifhponciaa.localChangesW
