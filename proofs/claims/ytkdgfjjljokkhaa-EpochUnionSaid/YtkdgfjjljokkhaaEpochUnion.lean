/- The walk of the law EpochUnion. -/
import Derived.Test.YtkdgfjjljokkhaaAcyclic
namespace Go.Proofs.Ytkdgfjjljokkhaa.epochUnionW
open Go.RowKit Go.Maps
set_option linter.unusedVariables false

def Rel (ds : List (Int × Int × Int)) (w1 : World) (i : Value) (wr : World) : Prop :=
  ∃ k : Nat, k ≤ ds.length ∧ i = .int .i64 k ∧ (∀ d ∈ ds.take k, okD d = true) ∧ Below w1.heap.size w1 wr

theorem wf_of_ok {ds : List (Int × Int × Int)} (h : ∀ d ∈ ds, okD d = true) : WfD ds := by
  intro d hd
  have := h d hd
  simp only [okD, decide_eq_true_eq] at this
  exact ⟨WalkArith.wf_i64 (by omega), WalkArith.wf_i64 (by omega)⟩
theorem wf_lift {ds : List (Int × Int × Int)} {c : Int} (h : ∀ d ∈ ds, okD d = true) (h0 : 0 ≤ c) (h1 : c < 8) : WfD (ds.map (liftD c)) := by
  intro d hd
  obtain ⟨x, hx, rfl⟩ := List.mem_map.1 hd
  have := h x hx
  simp only [okD, decide_eq_true_eq] at this
  simp only [liftD]
  exact ⟨WalkArith.wf_i64 (by omega), WalkArith.wf_i64 (by omega)⟩
theorem wf_append {a b : List (Int × Int × Int)} (ha : WfD a) (hb : WfD b) : WfD (a ++ b) := fun d hd => (List.mem_append.1 hd).elim (ha d) (hb d)

theorem reads_all {w : World} {a : Option Addr} {len : Nat} {ds : List (Int × Int × Int)} (h : IsDeps w a len ds) : Reads w w.heap.size 3 a len (ds.flatMap cD) := reads_of_isDeps h

theorem liftAll_map {c : Int} {ds : List (Int × Int × Int)} (h : ∀ d ∈ ds, okD d = true) (h0 : 0 ≤ c) (h1 : c < 8) : liftAll c ds = ds.map (liftD c) := by
  unfold liftAll; rw [if_neg (by omega), liftL_all c ds h]

theorem class_two (n c e : Int) (hn0 : 1 ≤ n) (hn1 : n ≤ 4) (hc0 : 0 ≤ c) (hc1 : c < n) (he : 0 ≤ e) :
    0 ≤ c + n * (e % 2) ∧ c + n * (e % 2) < 8 ∧ 0 ≤ c + n * ((e + 1) % 2) ∧ c + n * ((e + 1) % 2) < 8 ∧ c + n * (e % 2) ≠ c + n * ((e + 1) % 2) := by
  rcases (by omega : (e % 2 = 0 ∧ (e + 1) % 2 = 1) ∨ (e % 2 = 1 ∧ (e + 1) % 2 = 0)) with ⟨h1, h2⟩ | ⟨h1, h2⟩ <;> rw [h1, h2] <;> omega

set_option maxRecDepth 100000 in
set_option maxHeartbeats 4000000 in
theorem walk (a0 : Option Addr) (len0 cap0 : Nat) (z0 : List (List Int)) (a1 : Option Addr) (len1 cap1 : Nat) (z1 : List (List Int)) (a2 a3 a4 : Int) (w : World)
    (w0 : IsStructs 3 w a0 len0 z0) (w1 : IsStructs 3 w a1 len1 z1) (w2 : (Lit.int .u16 a2).wf = true) (w3 : (Lit.int .u8 a3).wf = true) (w4 : (Lit.int .u8 a4).wf = true) :
    Calls Try.prog 10 #[.slice a0 len0 cap0, .slice a1 len1 cap1, .int .u16 a2, .int .u8 a3, .int .u8 a4] w fun e w' => e = .returned (.bool true) ∧ Below w.heap.size w w' := by
  have hd0 := isDeps_of_structs w0
  have hd1 := isDeps_of_structs w1
  have hm0 := w0.1
  have hm1 := w1.1
  unfold maxLen at hm0 hm1
  have k2 := bounds_u16 w2
  have k3 := bounds_u8 w3
  have k4 := bounds_u8 w4
  obtain ⟨k20, k21⟩ := k2
  obtain ⟨k30, k31⟩ := k3
  obtain ⟨k40, k41⟩ := k4
  clear w0 w1 w2 w3 w4
  generalize (z0.map fun z => (z.getD 0 0, z.getD 1 0, z.getD 2 0)) = ds0 at hd0
  generalize (z1.map fun z => (z.getD 0 0, z.getD 1 0, z.getD 2 0)) = ds1 at hd1
  by_cases hlen0 : 40 < len0
  · clear hd0 hd1
    go_enter Try.func10, Try.ntmps10
    go_wp2_with fail
    refine (awake_any _).mono ?_
    rintro r w1 ⟨rfl, l1⟩
    go_wp2
    go_ret
    exact ⟨rfl, l1⟩
  by_cases hlen1 : 40 < len1
  · clear hd0 hd1
    go_enter Try.func10, Try.ntmps10
    go_wp2_with fail
    refine (awake_any _).mono ?_
    rintro r w1 ⟨rfl, l1⟩
    go_wp2
    go_ret
    exact ⟨rfl, l1⟩
  have hl0 : len0 ≤ 40 := by omega
  have hl1 : len1 ≤ 40 := by omega
  have HD0 := Lib.hid hd0
  have HD1 := Lib.hid hd1
  clear hd0 hd1 hlen0 hlen1
  obtain ⟨i0, hi0, hz0, hz1, hz2⟩ := info_parts infoDep
  go_enter Try.func10, Try.ntmps10
  go_wp2_with fail
  refine (awake_any _).mono ?_
  rintro r w1 ⟨rfl, l1⟩
  have H0 := Lib.hid (HD0.out.below (Nat.le_refl _) l1)
  have H1 := Lib.hid (HD1.out.below (Nat.le_refl _) l1)
  have RA := Lib.hid ((reads_of_isDeps H0.out).alloc (Nat.le_refl _) (.cells #[] 61))
  have RB := Lib.hid ((reads_of_isDeps H1.out).alloc (Nat.le_refl _) (.cells #[] 61))
  have fo0 := Lib.hid (flat_one ds0)
  have fo1 := Lib.hid (flat_one ds1)
  go_wp2_with (at_builtin; refine wpList_append_any _ rfl (.tmp 29) (.tmp 30) 51 rfl w1.heap.size 61 i0 _ 3 24 Try.underlying51 hi0 hz0 hz1 hz2 rfl (by decide) _ 0 [] rfl (own_empty w1 61 3) w1.heap.size a0 len0 cap0 (ds0.flatMap cD) rfl RA.out fo0.out ?c3 ?c4 ?c5 ?_)
  case c3 => unfold maxLen; omega
  case c4 => omega
  case c5 => simp
  intro v2 w2 own2 gr2 _
  try simp only [Nat.zero_add, List.nil_append] at own2
  have bel2 : Below w1.heap.size w1 w2 := ((Below.refl w1.heap.size w1).alloc (Nat.le_refl _) _).grown gr2 (by simp) (by intro g e; simp [Value.ownBlock] at e; omega)
  have og2 : Hid (∀ g, v2.ownBlock = some g → w1.heap.size ≤ g) := fun g e => (own2.lt g e).1
  have RB2 := Lib.hid ((reads_of_isDeps H1.out).below bel2)
  clear gr2 RA RB
  go_wp2_with (at_builtin; refine wpList_append_any _ rfl (.tmp 31) (.tmp 32) 51 rfl w1.heap.size 61 i0 _ 3 24 Try.underlying51 hi0 hz0 hz1 hz2 rfl (by decide) _ len0 _ rfl own2 w1.heap.size a1 len1 cap1 (ds1.flatMap cD) rfl RB2.out fo1.out ?f3 ?f4 ?f5 ?_)
  case f3 => unfold maxLen; omega
  case f4 => omega
  case f5 => have := bel2.size; omega
  intro v3 w3 own3 gr3 _
  have bel3 : Below w1.heap.size w1 w3 := bel2.grown gr3 bel2.size og2.out
  rw [← List.flatMap_append] at own3
  obtain ⟨a5, cap5, hv3, hd5⟩ := isDeps_of_own own3
  rw [hv3]
  have D5 := Lib.hid hd5
  have belw3 : Below w.heap.size w w3 := l1.trans (bel3.mono l1.size)
  have G0 := Lib.hid (H0.out.below (Nat.le_refl _) bel3)
  have G1 := Lib.hid (H1.out.below (Nat.le_refl _) bel3)
  clear own3 own2 gr3 RB2 hd5 hv3 H0 H1 bel2 bel3 l1 og2 fo0 fo1
  go_wp2_with fail
  go_loopw [35] (fun i wr => Rel (ds0 ++ ds1) w3 i wr) (fun i _ => len0 + len1 - (intOf i).toNat)
  case atStart => exact ⟨0, Nat.zero_le _, rfl, by simp, Below.refl _ _⟩
  case round =>
    obtain ⟨k, hk, rfl, hok, bel⟩ := hrel
    rw [D5.out.1] at hk
    have HOK := Lib.hid hok
    clear hok
    by_cases hkr : k < len0 + len1
    · obtain ⟨bb, off, f, t, nd, ha, hbb, hget, hmem, c0, c1, c2⟩ := (D5.out.below (Nat.le_refl _) bel).at_ k hkr
      subst ha
      have hkl : k < (ds0 ++ ds1).length := by rw [D5.out.1]; exact hkr
      have hki : (k : Int) < (len0 : Int) + (len1 : Int) := by omega
      have R : Hid (okD (f, t, nd) = true → Rel (ds0 ++ ds1) w3 (.int .i64 ((k + 1 : Nat) : Int)) (wr.alloc (.cells #[.int .i64 f, .int .i64 t, .int .i64 nd] 61))) := by
        intro hq
        refine ⟨k + 1, hkl, rfl, ?_, bel.alloc bel.size _⟩
        rw [take_snocD _ k hkl, hget]
        intro d hd
        rcases List.mem_append.1 hd with h | h
        · exact HOK.out d h
        · rw [List.mem_singleton.1 h]; exact hq
      have belE : Below w.heap.size w (wr.alloc (.cells #[.int .i64 f, .int .i64 t, .int .i64 nd] 61)) := belw3.trans ((bel.alloc bel.size _).mono belw3.size)
      clear hget hmem hkl
      by_cases q1 : f < 0
      · go_wp2
        go_ret
        exact ⟨rfl, belE⟩
      by_cases q2 : t < 0
      · go_wp2
        go_ret
        exact ⟨rfl, belE⟩
      by_cases q3 : 64 ≤ f
      · go_wp2
        go_ret
        exact ⟨rfl, belE⟩
      by_cases q4 : 64 ≤ t
      · go_wp2
        go_ret
        exact ⟨rfl, belE⟩
      have RR := Lib.hid (R.out (by simp [okD]; omega))
      clear R
      go_wp2
      exact ⟨by simpa using RR.out, by simp [intOf]; omega⟩
    · have hall : ∀ d ∈ ds0 ++ ds1, okD d = true := by
        have h := HOK.out
        rw [List.take_of_length_le (by rw [D5.out.1]; omega)] at h
        exact h
      have ok0 : Hid (∀ d ∈ ds0, okD d = true) := fun d hd => hall d (List.mem_append_left _ hd)
      have ok1 : Hid (∀ d ∈ ds1, okD d = true) := fun d hd => hall d (List.mem_append_right _ hd)
      have E0 := Lib.hid (G0.out.below (Nat.le_refl _) bel)
      have E1 := Lib.hid (G1.out.below (Nat.le_refl _) bel)
      have belr : Below w.heap.size w wr := belw3.trans (bel.mono belw3.size)
      clear hall HOK G0 G1 D5 bel belw3
      have n4 : 0 ≤ a4 % 4 ∧ a4 % 4 < 4 := by omega
      go_wp2_with fail
      have m0 : 0 ≤ a3 % (1 + a4 % 4) := Int.emod_nonneg _ (by omega)
      have m1 : a3 % (1 + a4 % 4) < 1 + a4 % 4 := Int.emod_lt_of_pos _ (by omega)
      have nb : 1 ≤ 1 + a4 % 4 ∧ 1 + a4 % 4 ≤ 4 := by omega
      generalize 1 + a4 % 4 = n at *
      obtain ⟨n1, n4'⟩ := nb
      have CT := Lib.hid (class_two n (a3 % n) a2 n1 n4' m0 m1 k20)
      refine (class_ok a2 (a3 % n) n _ k20 n1 n4' m0 m1).mono ?_
      rintro r w4 ⟨rfl, rfl⟩
      go_wp2_with fail
      refine (class_ok (a2 + 1) (a3 % n) n _ (by omega) n1 n4' m0 m1).mono ?_
      rintro r w4 ⟨rfl, rfl⟩
      have ct := CT.out
      clear CT
      generalize a3 % n + n * (a2 % 2) = v at *
      generalize a3 % n + n * ((a2 + 1) % 2) = u at *
      obtain ⟨v0, v1, u0, u1, vu⟩ := ct
      have VU := Lib.hid vu
      clear vu
      have ownA := own_empty wr 61 3
      have belA : Below wr.heap.size wr (wr.alloc (.cells #[] 61)) := (Below.refl _ _).alloc (Nat.le_refl _) _
      have F0 := Lib.hid (E0.out.below (Nat.le_refl _) belA)
      have F1 := Lib.hid (E1.out.below (Nat.le_refl _) belA)
      have sA : (wr.alloc (.cells #[] 61)).heap.size = wr.heap.size + 1 := by simp
      have belwA : Below w.heap.size w (wr.alloc (.cells #[] 61)) := belr.trans (belA.mono belr.size)
      have hwA : w.heap.size ≤ wr.heap.size := belr.size
      go_wp2_with fail
      have LM0 := Lib.hid (liftAll_map ok0.out v0 v1)
      have LM1 := Lib.hid (liftAll_map ok1.out u0 u1)
      have ML0 : Hid ((ds0.map (liftD v)).length = len0) := by rw [Hid, List.length_map]; exact E0.out.1
      have ML1 : Hid ((ds1.map (liftD u)).length = len1) := by rw [Hid, List.length_map]; exact E1.out.1
      clear belr belA
      generalize wr.alloc (.cells #[] 61) = wA at *
      generalize wr.heap.size = g0 at *
      have SA := Lib.hid sA
      clear sA
      have hl := lift_any v a0 len0 cap0 ds0 wA (by omega) F0.out
      rw [LM0.out] at hl
      refine hl.mono ?_
      clear hl
      rintro r w5 ⟨a6, cap6, rfl, d6, l6⟩
      rw [ML0.out] at d6 ⊢
      have own5 := ownA.kept (only_of_below l6 none) (by simp [Value.ownBlock])
      have s5 : g0 + 1 ≤ w5.heap.size := by have := l6.size; have := SA.out; omega
      have R5 := Lib.hid (reads_of_isDeps d6)
      have F05 := Lib.hid (F0.out.below (Nat.le_refl _) l6)
      have F15 := Lib.hid (F1.out.below (Nat.le_refl _) l6)
      have bel5 : Below w.heap.size w w5 := belwA.trans (l6.mono belwA.size)
      have fo5 := Lib.hid (flat_one (ds0.map (liftD v)))
      clear ownA l6 F0 F1 d6 belwA
      go_wp2_with (at_builtin; refine wpList_append_any _ rfl (.tmp 85) (.tmp 88) 51 rfl g0 61 i0 _ 3 24 Try.underlying51 hi0 hz0 hz1 hz2 rfl (by decide) _ 0 [] rfl own5 w5.heap.size a6 len0 cap6 ((ds0.map (liftD v)).flatMap cD) rfl R5.out fo5.out ?g3 ?g4 ?g5 ?_)
      case g3 => unfold maxLen; omega
      case g4 => omega
      case g5 => omega
      intro v7 w6 own6 gr6 _
      try simp only [Nat.zero_add, List.nil_append] at own6
      have bel6 : Below w.heap.size w w6 := bel5.grown gr6 (by omega) (by intro g e; simp [Value.ownBlock] at e; omega)
      have og6 : Hid (∀ g, v7.ownBlock = some g → g0 ≤ g) := fun g e => (own6.lt g e).1
      have s6 : g0 + 1 ≤ w6.heap.size := Nat.le_trans s5 gr6.size
      have F06 := Lib.hid (HD0.out.below (Nat.le_refl _) bel6)
      have F16 := Lib.hid (HD1.out.below (Nat.le_refl _) bel6)
      clear gr6 own5 R5 fo5 bel5 F05 F15
      go_wp2_with fail
      have hl := lift_any u a1 len1 cap1 ds1 w6 (by omega) F16.out
      rw [LM1.out] at hl
      refine hl.mono ?_
      clear hl
      rintro r w7 ⟨a8, cap8, rfl, d8, l8⟩
      rw [ML1.out] at d8 ⊢
      have own7 := own6.kept (only_of_below l8 none) (by cases hv : v7.ownBlock <;> simp)
      have s7 : g0 + 1 ≤ w7.heap.size := Nat.le_trans s6 l8.size
      have R7 := Lib.hid (reads_of_isDeps d8)
      have bel7 : Below w.heap.size w w7 := bel6.trans (l8.mono bel6.size)
      have fo7 := Lib.hid (flat_one (ds1.map (liftD u)))
      clear own6 l8 d8 bel6 F06 F16
      go_wp2_with (at_builtin; refine wpList_append_any _ rfl (.tmp 89) (.tmp 92) 51 rfl g0 61 i0 _ 3 24 Try.underlying51 hi0 hz0 hz1 hz2 rfl (by decide) _ len0 _ rfl own7 w7.heap.size a8 len1 cap8 ((ds1.map (liftD u)).flatMap cD) rfl R7.out fo7.out ?j3 ?j4 ?j5 ?_)
      case j3 => unfold maxLen; omega
      case j4 => omega
      case j5 => omega
      intro v9 w8 own8 gr8 _
      have bel8 : Below w.heap.size w w8 := bel7.grown gr8 (by omega) (by intro g e; have := og6.out g e; omega)
      rw [← List.flatMap_append] at own8
      obtain ⟨a9, cap9, hv9, hd9⟩ := isDeps_of_own own8
      rw [hv9]
      have D9 := Lib.hid hd9
      have F08 := Lib.hid (HD0.out.below (Nat.le_refl _) bel8)
      have F18 := Lib.hid (HD1.out.below (Nat.le_refl _) bel8)
      have WA := Lib.hid (wf_append (wf_lift ok0.out v0 v1) (wf_lift ok1.out u0 u1))
      have W0 := Lib.hid (wf_of_ok ok0.out)
      have W1 := Lib.hid (wf_of_ok ok1.out)
      have UN := Lib.hid (acyc_union ds0 ds1 v u v0 v1 u0 u1 VU.out)
      clear own8 gr8 own7 R7 fo7 bel7 og6 hd9 hv9
      go_wp2_with fail
      refine (acyclic_any a9 (len0 + len1) cap9 _ _ (by omega) D9.out WA.out).mono ?_
      rintro r w9 ⟨rfl, l9⟩
      have bel9 : Below w.heap.size w w9 := bel8.trans (l9.mono bel8.size)
      have F09 := Lib.hid (HD0.out.below (Nat.le_refl _) bel9)
      clear l9 bel8 D9 WA F08 F18
      rw [UN.out]
      go_wp2_with fail
      refine (acyclic_any a0 len0 cap0 _ _ (by omega) F09.out W0.out).mono ?_
      rintro r w10 ⟨rfl, l10⟩
      have bel10 : Below w.heap.size w w10 := bel9.trans (l10.mono bel9.size)
      have F110 := Lib.hid (HD1.out.below (Nat.le_refl _) bel10)
      clear l10 bel9 F09
      cases hc0 : acyc ds0 with
      | false =>
        go_wp2
        go_ret
        exact ⟨rfl, bel10⟩
      | true =>
        go_wp2_with fail
        refine (acyclic_any a1 len1 cap1 _ _ (by omega) F110.out W1.out).mono ?_
        rintro r w11 ⟨rfl, l11⟩
        have bel11 : Below w.heap.size w w11 := bel10.trans (l11.mono bel10.size)
        cases hc1 : acyc ds1 with
        | false =>
          go_wp2
          go_ret
          exact ⟨rfl, bel11⟩
        | true =>
          go_wp2
          go_ret
          exact ⟨rfl, bel11⟩
end Go.Proofs.Ytkdgfjjljokkhaa.epochUnionW
