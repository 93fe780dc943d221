/- The contract of tree.check. -/
import Derived.Test.YtljojgpjgjfddaaTIdx
namespace Go.Proofs.Ytljojgpjgjfddaa
open Go.RowKit Go.Maps
set_option linter.unusedVariables false
set_option linter.unusedSimpArgs false

def sameI (a b : Int) : Bool := a == b
def lvB (lv : List Int) (m : Int) : Bool := decide (0 ≤ lvAt lv m)
/-- The error of the arguments of tree.Make. -/
def tErr (p : Pl) (lv ms : List Int) (s : Int) : Int :=
  if orderB p lv = false then 1 else if isNodeB p.ns s = false then 2 else if ms.all (isNodeB p.ns) = false then 2
  else if twTo sameI 0 ms ms.length = true then 8 else if ms.all (lvB lv) = false then 12 else if lvB lv s = false then 12 else 0
section
variable {p : Pl} {lv ms : List Int} {s : Int}
theorem te1 (h : orderB p lv = false) : tErr p lv ms s = 1 := by unfold tErr; rw [if_pos h]
theorem te2 (h1 : orderB p lv = true) (h : isNodeB p.ns s = false) : tErr p lv ms s = 2 := by unfold tErr; rw [if_neg (by rw [h1]; decide), if_pos h]
theorem te3 (h1 : orderB p lv = true) (h2 : isNodeB p.ns s = true) (h : ms.all (isNodeB p.ns) = false) : tErr p lv ms s = 2 := by unfold tErr; rw [if_neg (by rw [h1]; decide), if_neg (by rw [h2]; decide), if_pos h]
theorem te4 (h1 : orderB p lv = true) (h2 : isNodeB p.ns s = true) (h3 : ms.all (isNodeB p.ns) = true) (h : twTo sameI 0 ms ms.length = true) : tErr p lv ms s = 8 := by
  unfold tErr; rw [if_neg (by rw [h1]; decide), if_neg (by rw [h2]; decide), if_neg (by rw [h3]; decide), if_pos h]
theorem te5 (h1 : orderB p lv = true) (h2 : isNodeB p.ns s = true) (h3 : ms.all (isNodeB p.ns) = true) (h4 : twTo sameI 0 ms ms.length = false) (h : ms.all (lvB lv) = false) : tErr p lv ms s = 12 := by
  unfold tErr; rw [if_neg (by rw [h1]; decide), if_neg (by rw [h2]; decide), if_neg (by rw [h3]; decide), if_neg (by rw [h4]; decide), if_pos h]
theorem te6 (h1 : orderB p lv = true) (h2 : isNodeB p.ns s = true) (h3 : ms.all (isNodeB p.ns) = true) (h4 : twTo sameI 0 ms ms.length = false) (h5 : ms.all (lvB lv) = true) (h : lvB lv s = false) : tErr p lv ms s = 12 := by
  unfold tErr; rw [if_neg (by rw [h1]; decide), if_neg (by rw [h2]; decide), if_neg (by rw [h3]; decide), if_neg (by rw [h4]; decide), if_neg (by rw [h5]; decide), if_pos h]
theorem te0 (h1 : orderB p lv = true) (h2 : isNodeB p.ns s = true) (h3 : ms.all (isNodeB p.ns) = true) (h4 : twTo sameI 0 ms ms.length = false) (h5 : ms.all (lvB lv) = true) (h : lvB lv s = true) : tErr p lv ms s = 0 := by
  unfold tErr; rw [if_neg (by rw [h1]; decide), if_neg (by rw [h2]; decide), if_neg (by rw [h3]; decide), if_neg (by rw [h4]; decide), if_neg (by rw [h5]; decide), if_neg (by rw [h]; decide)]
end
def intLits (ms : List Int) (k : Nat) : List Lit := (ms.take k).map fun x => .int .i64 x
theorem intLits_snoc (ms : List Int) (k : Nat) (h : k < ms.length) : intLits ms (k + 1) = intLits ms k ++ [.int .i64 (ms.getD k 0)] := by
  unfold intLits; rw [take_snocG 0 ms k h, List.map_append]; rfl
theorem sameLit (x y : Int) : (Lit.int .i64 x).sameKey (.int .i64 y) = (y == x) := by rw [Bool.eq_iff_iff]; simp [Lit.sameKey]; exact eq_comm
theorem intLits_any (ms : List Int) (k : Nat) (x : Int) : ((intLits ms k).any fun b => (Lit.int .i64 x).sameKey b) = (ms.take k).any fun y => sameI y x := by
  unfold intLits
  rw [List.any_map]
  congr 1
  funext y
  exact sameLit x y
theorem orderB_spec {p : Pl} {lv : List Int} (h : orderB p lv = true) : validP p = 0 ∧ lv.length = p.ns.length ∧ lv.all (levelOk p.ns.length) = true ∧ lv.countP (· == 0) = 1 ∧ (List.range lv.length).all (nodeOk p.cs lv) = true := by
  unfold orderB at h
  simp only [Bool.and_eq_true, decide_eq_true_eq] at h
  exact ⟨h.1.1.1.1, h.1.1.1.2, h.1.1.2, h.1.2, h.2⟩
def RelA (pr : Int → Bool) (ms : List Int) (w1 : World) (i : Value) (wr : World) : Prop :=
  ∃ k : Nat, k ≤ ms.length ∧ i = .int .i64 k ∧ (ms.take k).all pr = true ∧ Below w1.heap.size w1 wr
def RelTw (ms : List Int) (w1 : World) (b : Nat) (i : Value) (wr : World) : Prop :=
  ∃ k : Nat, k ≤ ms.length ∧ i = .int .i64 k ∧ OMap wr Try.prog 3 b k (setM (intLits ms k)) ∧ twTo sameI 0 ms k = false ∧ Below b w1 wr

set_option maxRecDepth 100000 in
set_option maxHeartbeats 4000000 in
theorem tcheck_any (ns : List Nd) (cs : List Cb) (lv ms : List Int) (s : Int) (An Ac Al Am : Option Addr) (cn cc cl cm : Nat) (w : World) (hl : ns.length ≤ 1000000) (hl2 : cs.length ≤ 1000000) (hwf : WfP ⟨ns, cs⟩) (hlv : lv.length ≤ 1000000) (hwl : WfI lv) (hms : ms.length ≤ 1000000) (hwm : WfI ms)
    (h : IsPlan w An Ac ⟨ns, cs⟩) (h2 : IsRec 1 cI 0 w Al lv.length lv) (h3 : IsRec 1 cI 0 w Am ms.length ms) :
    Calls Try.prog 55 #[.agg #[.slice An ns.length cn, .slice Ac cs.length cc], .agg #[.slice Al lv.length cl], .int .i64 s, .slice Am ms.length cm] w fun e w' => e = .returned (.int .i64 (tErr ⟨ns, cs⟩ lv ms s)) ∧ Below w.heap.size w w' := by
  have HW := Lib.hid hwf
  have hmm := @run_makeMap Try.prog
  obtain ⟨w1, hw1⟩ : ∃ w1 : World, (w.alloc (.cells #[.slice An ns.length cn, .slice Ac cs.length cc] 25)).alloc (.cells #[.slice Al lv.length cl] 57) = w1 := ⟨_, rfl⟩
  have s0 : w1.cell? ⟨w.heap.size, 0, none⟩ = some (.slice An ns.length cn) := by rw [← hw1]; simp [go_sem]
  have s1 : w1.cell? ⟨w.heap.size, 1, none⟩ = some (.slice Ac cs.length cc) := by rw [← hw1]; simp [go_sem]
  have s2 : w1.cell? ⟨w.heap.size + 1, 0, none⟩ = some (.slice Al lv.length cl) := by rw [← hw1]; simp [go_sem]
  have sz1 : w.heap.size + 1 < w1.heap.size := by rw [← hw1]; simp
  have BW0 : Below w.heap.size w w1 := by rw [← hw1]; exact ((Below.refl _ _).alloc (Nat.le_refl _) _).alloc (by simp) _
  have H1 := Lib.hid (h.below (Nat.le_refl _) BW0)
  have L1 := Lib.hid (h2.below (Nat.le_refl _) BW0)
  have M1 := Lib.hid (h3.below (Nat.le_refl _) BW0)
  have HW1 := Lib.hid hw1
  have WL := Lib.hid hwl
  have WM := Lib.hid hwm
  have KC : Hid (∀ w', Below w1.heap.size w1 w' → w'.cell? ⟨w.heap.size, 0, none⟩ = some (.slice An ns.length cn) ∧ w'.cell? ⟨w.heap.size, 1, none⟩ = some (.slice Ac cs.length cc) ∧ w'.cell? ⟨w.heap.size + 1, 0, none⟩ = some (.slice Al lv.length cl) ∧ w.heap.size + 1 < w'.heap.size ∧ Below w.heap.size w w') :=
    fun w' hb => ⟨(hb.cell (by show w.heap.size < _; omega)).trans s0, (hb.cell (by show w.heap.size < _; omega)).trans s1, (hb.cell (by exact sz1)).trans s2, by have := hb.size; omega, BW0.trans (hb.mono (by omega))⟩
  clear h h2 h3 hw1 hwf BW0 hwl hwm
  go_enter Try.func55, Try.ntmps55
  go_wp2_with fail
  rw [HW1.out]
  refine (order_any ⟨ns, cs⟩ lv An Ac Al cn cc cl _ hl hl2 HW.out hlv WL.out H1.out L1.out).mono ?_
  rintro e w2 ⟨rfl, bel2⟩
  have B2 := Lib.hid bel2
  clear s0 s1 s2
  obtain ⟨u0, u1, u2, sz2, bw2⟩ := KC.out w2 bel2
  have BF2 := Lib.hid bw2
  clear bel2 bw2
  cases ho : orderB ⟨ns, cs⟩ lv with
  | false =>
    have FIN : Hid (tErr ⟨ns, cs⟩ lv ms s = 1) := te1 ho
    clear ho
    go_wp2_with fail
    go_ret
    exact ⟨by rw [FIN.out]; rfl, BF2.out⟩
  | true =>
    have HO := Lib.hid ho
    clear ho
    go_wp2_with fail
    refine (tisnode_any ns An Ac cn cs.length cc s _ hl).mono ?_
    rintro e w3 ⟨rfl, e3⟩
    have B3 : Hid (Below w1.heap.size w1 w3) := by rw [Hid, ← e3]; exact B2.out.alloc B2.out.size _
    obtain ⟨v0, v1, v2, sz3, bw3⟩ := KC.out w3 B3.out
    have BF3 := Lib.hid bw3
    have E3 := Lib.hid e3
    clear bw3 u0 u1 u2 e3
    cases hs : isNodeB ns s with
    | false =>
      have FIN : Hid (tErr ⟨ns, cs⟩ lv ms s = 2) := te2 HO.out hs
      clear hs
      go_wp2_with fail
      go_ret
      exact ⟨by rw [FIN.out]; rfl, BF3.out⟩
    | true =>
      have HS := Lib.hid hs
      clear hs
      go_wp2_with fail
      go_loopw [26] (fun i wr => RelA (isNodeB ns) ms w3 i wr) (fun i _ => ms.length - (RowKit.intOf i).toNat)
      case atStart => exact ⟨0, Nat.zero_le _, rfl, rfl, Below.refl _ _⟩
      case round =>
        obtain ⟨k, hk, rfl, hall, bel⟩ := hrel
        have HA := Lib.hid hall
        have bs := bel.size
        have BE := Lib.hid bel
        clear hall
        obtain ⟨v0, v1, v2, sz4, bw4⟩ := KC.out wr (B3.out.trans (bel.mono B3.out.size))
        have BW4 := Lib.hid bw4
        clear bw4
        by_cases hkr : k < ms.length
        · obtain ⟨b1, o1, ha1, hb1, hm1, e1⟩ := int_at (M1.out.below (Nat.le_refl _) (B3.out.trans (bel.mono B3.out.size))) k hkr
          have AS := Lib.hid (all_snoc (isNodeB ns) 0 ms k hkr)
          have AB := Lib.hid (all_bad (isNodeB ns) 0 ms k hkr)
          generalize ms.getD k 0 = x at *
          subst ha1
          have ki : (k : Int) < (ms.length : Int) := by omega
          clear hm1 bel
          go_wp2_with fail
          refine (tisnode_any ns An Ac cn cs.length cc x _ hl).mono ?_
          rintro e w4 ⟨rfl, e4⟩
          have B4 : Hid (Below w3.heap.size w3 w4) := by rw [Hid, ← e4]; exact BE.out.alloc BE.out.size _
          have BW5 : Hid (Below w.heap.size w w4) := by rw [Hid, ← e4]; exact BW4.out.alloc (by omega) _
          clear e4 e1 v0 v1 v2
          cases hx : isNodeB ns x with
          | false =>
            have FIN : Hid (tErr ⟨ns, cs⟩ lv ms s = 2) := te3 HO.out HS.out (AB.out hx)
            clear hx
            go_wp2_with fail
            go_ret
            exact ⟨by rw [FIN.out]; rfl, BW5.out⟩
          | true =>
            have R : Hid (RelA (isNodeB ns) ms w3 (.int .i64 ((k + 1 : Nat) : Int)) w4) := ⟨k + 1, by omega, rfl, by rw [AS.out, HA.out, hx]; rfl, B4.out⟩
            clear hx
            go_wp2_with fail
            exact ⟨by simpa using R.out, by simp [RowKit.intOf]; omega⟩
        · obtain rfl : k = ms.length := by omega
          rw [List.take_length] at HA
          have bw4 := BW4.out.size
          have B4 := Lib.hid (B3.out.trans (bel.mono B3.out.size))
          obtain ⟨w4, rfl⟩ : ∃ w4 : World, w4 = wr := ⟨_, rfl⟩
          clear bel BE
          go_wp2_with fail
          clear hmm
          go_loopw [38] (fun i wr => RelTw ms w4 w4.heap.size i wr) (fun i _ => ms.length - (RowKit.intOf i).toNat)
          case atStart => exact ⟨0, Nat.zero_le _, rfl, OMap.made _ _ _, rfl, (Below.refl _ _).alloc (Nat.le_refl _) _⟩
          case round =>
            obtain ⟨k, hk, rfl, om, htw, bel⟩ := hrel
            have HTW := Lib.hid htw
            have OM := Lib.hid om
            have bs := bel.size
            have BE := Lib.hid bel
            have lt4 := om.lt
            have B5 := Lib.hid (B4.out.trans (bel.mono B4.out.size))
            obtain ⟨v0, v1, v2, sz5, bw5⟩ := KC.out wr B5.out
            have BW5 := Lib.hid bw5
            clear htw om bw5
            by_cases hkr : k < ms.length
            · obtain ⟨b1, o1, ha1, hb1, hm1, e1⟩ := int_at (M1.out.below (Nat.le_refl _) B5.out) k hkr
              have wfx := WM.out _ hm1
              have NS := Lib.hid (intLits_snoc ms k hkr)
              have NA := Lib.hid (intLits_any ms k (ms.getD k 0))
              have TS := Lib.hid (twTo_succ sameI 0 ms k)
              have SG := Lib.hid (setM_get (intLits ms k) (.int .i64 (ms.getD k 0)))
              generalize ms.getD k 0 = x at *
              have HK := Lib.hid (keyOf_int_mk (a := x) Try.underlying3 wfx)
              subst ha1
              have ki : (k : Int) < (ms.length : Int) := by omega
              clear hm1 bel
              cases hin : (ms.take k).any fun y => sameI y x with
              | true =>
                have TG : Hid ((setM (intLits ms k) (.int .i64 x)).getD (.bool false) = .bool true) := by rw [Hid, SG.out, NA.out, hin]
                have FIN : Hid (tErr ⟨ns, cs⟩ lv ms s = 8) := te4 HO.out HS.out HA.out (twTo_mono sameI 0 ms (k + 1) (by rw [TS.out, hin]; simp) ms.length (by omega))
                clear NS NA SG TS hin HTW
                go_wp2_with (at_lookup; refine wpList_look _ rfl _ _ 82 rfl 3 4 (int_keyed Try.underlying3) Try.underlying82 (.bool false) (zeroBool2 _) w4.heap.size _ _ rfl OM.out _ (.int .i64 x) rfl HK.out ?_; rw [TG.out])
                go_ret
                exact ⟨by rw [FIN.out]; rfl, BW5.out⟩
              | false =>
                have TG : Hid ((setM (intLits ms k) (.int .i64 x)).getD (.bool false) = .bool false) := by rw [Hid, SG.out, NA.out, hin]
                have TW : Hid (twTo sameI 0 ms (k + 1) = false) := by rw [Hid, TS.out, HTW.out, hin]; rfl
                clear SG NA TS hin HTW
                go_wp2_with (first | (at_lookup; refine wpList_look _ rfl _ _ 82 rfl 3 4 (int_keyed Try.underlying3) Try.underlying82 (.bool false) (zeroBool2 _) w4.heap.size _ _ rfl OM.out _ (.int .i64 x) rfl HK.out ?_; rw [TG.out]) | (at_mapUpdate; refine wpList_put _ rfl _ _ _ 82 rfl 3 4 (int_keyed Try.underlying3) Try.underlying82 w4.heap.size k _ rfl OM.out ?d1 _ _ (.int .i64 x) rfl rfl HK.out ?_))
                case d1 => unfold maxLen; omega
                intro w6 om2 gr2
                have R : RelTw ms w4 w4.heap.size (.int .i64 ((k + 1 : Nat) : Int)) w6 := by
                  refine ⟨k + 1, by omega, rfl, ?_, TW.out, ?_⟩
                  · rw [NS.out, ← setM_snoc]; exact om2
                  · exact BE.out.grown gr2 (by omega) (by intro g e; injection e with e; omega)
                clear om2 gr2
                go_wp2
                exact ⟨by simpa using R, by simp [RowKit.intOf]; omega⟩
            · obtain rfl : k = ms.length := by omega
              have bw5 := BW5.out.size
              obtain ⟨w5, rfl⟩ : ∃ w5 : World, w5 = wr := ⟨_, rfl⟩
              obtain ⟨ov1, ov2, ov3, ov4, ov5⟩ := orderB_spec HO.out
              have HLL : Hid (lv.length = ns.length) := ov2
              clear bel BE OM ov1 ov2 ov3 ov4 ov5
              go_wp2_with fail
              go_loopw [50] (fun i wr => RelA (lvB lv) ms w5 i wr) (fun i _ => ms.length - (RowKit.intOf i).toNat)
              case atStart => exact ⟨0, Nat.zero_le _, rfl, rfl, Below.refl _ _⟩
              case round =>
                obtain ⟨k, hk, rfl, hall, bel⟩ := hrel
                have HA5 := Lib.hid hall
                have bs := bel.size
                have BE := Lib.hid bel
                have B6 := Lib.hid (B5.out.trans (bel.mono B5.out.size))
                clear hall v0 v1 v2
                obtain ⟨v0, v1, v2, sz6, bw6⟩ := KC.out wr B6.out
                have BW6 := Lib.hid bw6
                clear bw6
                by_cases hkr : k < ms.length
                · obtain ⟨b1, o1, ha1, hb1, hm1, e1⟩ := int_at (M1.out.below (Nat.le_refl _) B6.out) k hkr
                  have AS := Lib.hid (all_snoc (lvB lv) 0 ms k hkr)
                  have AB := Lib.hid (all_bad (lvB lv) 0 ms k hkr)
                  have hn := List.all_eq_true.1 HA.out _ hm1
                  generalize ms.getD k 0 = x at *
                  subst ha1
                  have ki : (k : Int) < (ms.length : Int) := by omega
                  unfold isNodeB at hn
                  simp only [Bool.and_eq_true, decide_eq_true_eq] at hn
                  obtain ⟨n0, n1⟩ := hn
                  obtain ⟨j, rfl⟩ : ∃ j : Nat, x = j := ⟨x.toNat, by omega⟩
                  have hll := HLL.out
                  have jl : j < lv.length := by omega
                  have ji : (j : Int) < (lv.length : Int) := by omega
                  obtain ⟨b2, o2, ha2, hb2, hm2, e2⟩ := int_at (L1.out.below (Nat.le_refl _) B6.out) j jl
                  have E : Hid (lvB lv (j : Int) = decide (0 ≤ lv.getD j 0)) := by rw [Hid]; unfold lvB lvAt; simp only [Int.toNat_natCast]
                  generalize lv.getD j 0 = y at *
                  subst ha2
                  clear hm1 hm2 bel n0 n1 hll
                  by_cases hy : 0 ≤ y
                  · have R : Hid (RelA (lvB lv) ms w5 (.int .i64 ((k + 1 : Nat) : Int)) wr) := ⟨k + 1, by omega, rfl, by rw [AS.out, HA5.out, E.out, decide_eq_true hy]; rfl, BE.out⟩
                    have hy2 : ¬ y < 0 := by omega
                    clear E AS AB
                    go_wp2_with fail
                    exact ⟨by simpa using R.out, by simp [RowKit.intOf]; omega⟩
                  · have FIN : Hid (tErr ⟨ns, cs⟩ lv ms s = 12) := te5 HO.out HS.out HA.out HTW.out (AB.out (by rw [E.out]; exact decide_eq_false hy))
                    have hy2 : y < 0 := by omega
                    clear E AS AB
                    go_wp2_with fail
                    go_ret
                    exact ⟨by rw [FIN.out]; rfl, BW6.out⟩
                · obtain rfl : k = ms.length := by omega
                  rw [List.take_length] at HA5
                  have hs := HS.out
                  unfold isNodeB at hs
                  simp only [Bool.and_eq_true, decide_eq_true_eq] at hs
                  obtain ⟨n0, n1⟩ := hs
                  obtain ⟨j, rfl⟩ : ∃ j : Nat, s = j := ⟨s.toNat, by omega⟩
                  have hll := HLL.out
                  have jl : j < lv.length := by omega
                  have ji : (j : Int) < (lv.length : Int) := by omega
                  obtain ⟨b2, o2, ha2, hb2, hm2, e2⟩ := int_at (L1.out.below (Nat.le_refl _) B6.out) j jl
                  have E : Hid (lvB lv (j : Int) = decide (0 ≤ lv.getD j 0)) := by rw [Hid]; unfold lvB lvAt; simp only [Int.toNat_natCast]
                  generalize lv.getD j 0 = y at *
                  subst ha2
                  clear hm2 bel n0 n1 hll
                  by_cases hy : 0 ≤ y
                  · have FIN : Hid (tErr ⟨ns, cs⟩ lv ms j = 0) := te0 HO.out HS.out HA.out HTW.out HA5.out (by rw [E.out]; exact decide_eq_true hy)
                    have hy2 : ¬ y < 0 := by omega
                    clear E
                    go_wp2_with fail
                    go_ret
                    exact ⟨by rw [FIN.out]; rfl, BW6.out⟩
                  · have FIN : Hid (tErr ⟨ns, cs⟩ lv ms j = 12) := te6 HO.out HS.out HA.out HTW.out HA5.out (by rw [E.out]; exact decide_eq_false hy)
                    have hy2 : y < 0 := by omega
                    clear E
                    go_wp2_with fail
                    go_ret
                    exact ⟨by rw [FIN.out]; rfl, BW6.out⟩
end Go.Proofs.Ytljojgpjgjfddaa
