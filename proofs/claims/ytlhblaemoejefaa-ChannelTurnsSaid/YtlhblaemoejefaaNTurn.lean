/- The contracts of order.Upward, updown.across, updown.isCable, updown.Turn, and the law's own otherEnd, at turns that are as they may be. -/
import Derived.Test.YtlhblaemoejefaaNB
import Derived.Test.YtlhblaemoejefaaCEnds
import Derived.IntWalk
namespace Go.Proofs.Ytlhblaemoejefaa
open Go.RowKit Go.Maps
set_option linter.unusedVariables false
set_option linter.unusedSimpArgs false

set_option maxHeartbeats 1000000 in
theorem uacross_any (x : Cb) (node : Int) (w : World) :
    Calls Try.prog 69 #[.agg #[.int .i64 x.a, .int .i64 x.ap, .int .i64 x.b, .int .i64 x.bp, .int .i64 x.dl, .int .i64 x.cp], .int .i64 node] w fun e w' => e = .returned (.tuple #[.int .i64 (acrossV x node).1, .bool (acrossV x node).2]) ∧ Below w.heap.size w w' := by
  obtain ⟨xa, xap, xb, xbp, xd, xc⟩ := x
  simp only
  have B : Hid (Below w.heap.size w (w.alloc (.cells #[.int .i64 xa, .int .i64 xap, .int .i64 xb, .int .i64 xbp, .int .i64 xd, .int .i64 xc] 47))) := (Below.refl _ _).alloc (Nat.le_refl _) _
  cases h1 : node == xa with
  | true =>
    have F : Hid (acrossV ⟨xa, xap, xb, xbp, xd, xc⟩ node = (xb, true)) := by rw [Hid]; unfold acrossV; rw [if_pos (by simpa using h1)]
    go_enter Try.func69, Try.ntmps69
    go_wp2_with fail
    go_ret2
    exact ⟨by rw [F.out]; rfl, B.out⟩
  | false =>
    cases h2 : node == xb with
    | true =>
      have F : Hid (acrossV ⟨xa, xap, xb, xbp, xd, xc⟩ node = (xa, true)) := by rw [Hid]; unfold acrossV; rw [if_neg (by simpa using h1), if_pos (by simpa using h2)]
      go_enter Try.func69, Try.ntmps69
      go_wp2_with fail
      go_ret2
      exact ⟨by rw [F.out]; rfl, B.out⟩
    | false =>
      have F : Hid (acrossV ⟨xa, xap, xb, xbp, xd, xc⟩ node = (0, false)) := by rw [Hid]; unfold acrossV; rw [if_neg (by simpa using h1), if_neg (by simpa using h2)]
      go_enter Try.func69, Try.ntmps69
      go_wp2_with fail
      go_ret2
      exact ⟨by rw [F.out]; rfl, B.out⟩
set_option maxHeartbeats 1000000 in
theorem ucable_any (An Ac : Option Addr) (n cn m cc : Nat) (node : Int) (w : World) (hl : m ≤ 1000000) :
    Calls Try.prog 68 #[.agg #[.slice An n cn, .slice Ac m cc], .int .i64 node] w fun e w' => e = .returned (.bool (isnB m node)) ∧ Below w.heap.size w w' := by
  have B : Hid (Below w.heap.size w (w.alloc (.cells #[.slice An n cn, .slice Ac m cc] 40))) := (Below.refl _ _).alloc (Nat.le_refl _) _
  by_cases h1 : 0 ≤ node
  · by_cases h2 : node < m
    · have F : Hid (isnB m node = true) := decide_eq_true ⟨h1, h2⟩
      go_enter Try.func68, Try.ntmps68
      go_wp2_with fail
      go_ret
      exact ⟨by rw [F.out]; first | rfl | simp [h1, h2], B.out⟩
    · have F : Hid (isnB m node = false) := decide_eq_false (by omega)
      go_enter Try.func68, Try.ntmps68
      go_wp2_with fail
      go_ret
      exact ⟨by rw [F.out]; first | rfl | simp [h1, h2], B.out⟩
  · have F : Hid (isnB m node = false) := decide_eq_false (by omega)
    go_enter Try.func68, Try.ntmps68
    go_wp2_with fail
    go_ret
    exact ⟨by rw [F.out]; first | rfl | simp [h1], B.out⟩
set_option maxHeartbeats 1000000 in
theorem otherEnd_any (p : Pl) (An Ac : Option Addr) (cn cc : Nat) (c : Int) (w : World) (hl : p.ns.length ≤ 1000000) (hl2 : p.cs.length ≤ 1000000) (hwf : WfP p) (h : IsPlan w An Ac p) :
    Calls Try.prog 38 #[.agg #[.slice An p.ns.length cn, .slice Ac p.cs.length cc], .int .i64 c] w fun e w' => e = .returned (.int .i64 (endsR p c).1) ∧ Below w.heap.size w w' := by
  obtain ⟨w1, hw1⟩ : ∃ w1 : World, w.alloc (.cells #[.slice An p.ns.length cn, .slice Ac p.cs.length cc] 40) = w1 := ⟨_, rfl⟩
  have BW : Hid (Below w.heap.size w w1) := by rw [← hw1]; exact (Below.refl _ _).alloc (Nat.le_refl _) _
  have HC := Lib.hid (Ends_any p An Ac cn cc c w1 hl hl2 hwf (h.below (Nat.le_refl _) BW.out))
  have HW1 := Lib.hid hw1
  clear hw1 h hwf
  go_enter Try.func38, Try.ntmps38
  go_wp2_with fail
  rw [HW1.out]
  refine HC.out.mono ?_
  rintro e w2 ⟨rfl, bel⟩
  have F : Hid (Below w.heap.size w w2) := BW.out.trans (bel.mono BW.out.size)
  clear bel HC
  go_wp2_with fail
  go_ret
  exact ⟨rfl, F.out⟩
set_option maxRecDepth 100000 in
set_option maxHeartbeats 2000000 in
theorem upward_any (ns : List Nd) (cs : List Cb) (lv : List Int) (An Ac Al : Option Addr) (cn cc cl i u v : Nat) (w : World) (hob : orderB ⟨ns, cs⟩ lv = true) (hi : i < cs.length) (ht : touch (cs.getD i cb0) u v) (hu : u < ns.length) (hv : v < ns.length) (lu : 0 ≤ lv.getD u 0) (lw : 0 ≤ lv.getD v 0)
    (hwf : WfP ⟨ns, cs⟩) (hwl : WfI lv) (h : IsPlan w An Ac ⟨ns, cs⟩) (h3 : IsRec 1 cI 0 w Al lv.length lv) :
    Calls Try.prog 37 #[.agg #[.slice An ns.length cn, .slice Ac cs.length cc], .agg #[.slice Al lv.length cl], .int .i64 (i : Int), .int .i64 (u : Int)] w fun e w' => e = .returned (.tuple #[.bool (upB lv u v), .int .i64 0]) ∧ Below w.heap.size w w' := by
  obtain ⟨hvl, hll⟩ := orderB_len hob
  simp only at hll
  obtain ⟨n16, c32⟩ := valid_sizes hvl
  obtain ⟨w1, hw1⟩ : ∃ w1 : World, (w.alloc (.cells #[.slice An ns.length cn, .slice Ac cs.length cc] 40)).alloc (.cells #[.slice Al lv.length cl] 51) = w1 := ⟨_, rfl⟩
  have BW : Hid (Below w.heap.size w w1) := by rw [← hw1]; exact ((Below.refl _ _).alloc (Nat.le_refl _) _).alloc (by simp) _
  have P4 : Hid (Blk w1 w.heap.size 40 #[.slice An ns.length cn, .slice Ac cs.length cc]) := by
    rw [← hw1]; exact (Blk.new w 40 #[.slice An ns.length cn, .slice Ac cs.length cc]).alloc _
  have P5 : Hid (Blk w1 (w.heap.size + 1) 51 #[.slice Al lv.length cl]) := by
    rw [← hw1]
    have := Blk.new (w.alloc (.cells #[.slice An ns.length cn, .slice Ac cs.length cc] 40)) 51 #[.slice Al lv.length cl]
    rw [Hid]; simpa using this
  have HP := Lib.hid (h.below (Nat.le_refl _) BW.out)
  have HL := Lib.hid (h3.below (Nat.le_refl _) BW.out)
  have HO := order_any ⟨ns, cs⟩ lv An Ac Al cn cc cl w1 (by show ns.length ≤ _; omega) (by show cs.length ≤ _; omega) hwf (by omega) hwl HP.out HL.out
  rw [hob] at HO
  have HOO := Lib.hid HO
  have HLL := Lib.hid hll
  have HVL := Lib.hid hvl
  have HW1 := Lib.hid hw1
  clear hob hwf hwl h h3 HO hw1 hvl hll
  go_enter Try.func37, Try.ntmps37
  go_wp2_with fail
  rw [HW1.out]
  refine HOO.out.mono ?_
  rintro e w2 ⟨rfl, bel⟩
  have P42 := P4.out.below bel P4.out.lt
  have P52 := P5.out.below bel P5.out.lt
  have c40 : w2.cell? ⟨w.heap.size, 0, none⟩ = some (.slice An ns.length cn) := by rw [P42.cell]; rfl
  have c41 : w2.cell? ⟨w.heap.size, 1, none⟩ = some (.slice Ac cs.length cc) := by rw [P42.cell]; rfl
  have c50 := P52.one.1
  have l5 := P52.lt
  have BW2 : Hid (Below w.heap.size w w2) := BW.out.trans (bel.mono BW.out.size)
  have HL2 := Lib.hid (HL.out.below (Nat.le_refl _) bel)
  obtain ⟨bc, oc, hAc, hbc, hmem, ca, cap', cb, cbp, cd, ccp⟩ := cable_at (HP.out.below (Nat.le_refl _) bel).2 i hi
  obtain ⟨bl, ol, hAl, hbl, _, ela⟩ := int_at HL2.out u (by rw [HLL.out]; exact hu)
  obtain ⟨bl', ol', hAl', _, _, elb⟩ := int_at HL2.out v (by rw [HLL.out]; exact hv)
  rw [hAl] at hAl'
  injection hAl' with hAl'
  injection hAl' with hl1 hl2
  subst hl1
  subst hl2
  have hll := HLL.out
  have uw : (u : Int) < (lv.length : Int) := by omega
  have vw : (v : Int) < (lv.length : Int) := by omega
  have iw : (i : Int) < (cs.length : Int) := by omega
  have ub : (u : Int) ≤ 16 := by omega
  have vb : (v : Int) ≤ 16 := by omega
  have HU : Hid (aboveB lv (v : Int) (u : Int) = upB lv u v) := rfl
  have huv : ¬ u = v := fun e => by
    have hne := valid_abG HVL.out _ hmem
    rcases ht with ⟨h1, h2⟩ | ⟨h1, h2⟩ <;> (rw [h1, h2, e] at hne; exact hne rfl)
  have hvu : ¬ v = u := fun e => huv e.symm
  generalize cs.getD i cb0 = x at *
  obtain ⟨xa, xap, xb, xbp, xd, xc⟩ := x
  simp only at ca cap' cb cbp cd ccp
  subst hAc
  subst hAl
  clear hmem P42 P52 bel HOO hll
  obtain ⟨la, hla⟩ : ∃ la, lv.getD u 0 = la := ⟨_, rfl⟩
  obtain ⟨lb, hlb⟩ : ∃ lb, lv.getD v 0 = lb := ⟨_, rfl⟩
  rw [hla] at ela lu
  rw [hlb] at elb lw
  clear hla hlb
  obtain ⟨w3, hw3⟩ : ∃ w3 : World, w2.alloc (.cells #[.int .i64 xa, .int .i64 xap, .int .i64 xb, .int .i64 xbp, .int .i64 xd, .int .i64 xc] 47) = w3 := ⟨_, rfl⟩
  have BW3 : Hid (Below w.heap.size w w3) := by rw [← hw3]; exact BW2.out.alloc BW2.out.size _
  have HA := Lib.hid (above_any lv (some ⟨bl, ol, none⟩) cl (v : Int) (u : Int) w3 (by rw [HLL.out]; omega) (by rw [← hw3]; exact HL2.out.alloc _))
  have HW3 := Lib.hid hw3
  clear hw3
  rcases ht with ⟨h1, h2⟩ | ⟨h1, h2⟩
  all_goals
    simp only at h1 h2
    subst h1
    subst h2
    go_wp2_with fail
    rw [HW3.out]
    try rw [show (u : Int) + (v : Int) - (u : Int) = (v : Int) by omega]
    try rw [show (v : Int) + (u : Int) - (u : Int) = (v : Int) by omega]
    refine HA.out.mono ?_
    rintro e w4 ⟨rfl, bel4⟩
    have F : Hid (Below w.heap.size w w4) := BW3.out.trans (bel4.mono BW3.out.size)
    clear bel4
    go_wp2_with fail
    go_ret2
    exact ⟨by rw [← HU.out]; rfl, F.out⟩
set_option maxRecDepth 100000 in
set_option maxHeartbeats 4000000 in
theorem turn_any (ns : List Nd) (cs : List Cb) (lv : List Int) (An Ac Al : Option Addr) (cn cc cl i i2 u v x : Nat) (w : World) (hob : orderB ⟨ns, cs⟩ lv = true) (hi : i < cs.length) (hi2 : i2 < cs.length) (ht : touch (cs.getD i cb0) u v) (ht2 : touch (cs.getD i2 cb0) v x)
    (hu : u < ns.length) (hv : v < ns.length) (hx : x < ns.length) (lu : 0 ≤ lv.getD u 0) (lw : 0 ≤ lv.getD v 0) (lx : 0 ≤ lv.getD x 0) (hne : i ≠ i2) (hup : upB lv v x = true → upB lv u v = true)
    (hwf : WfP ⟨ns, cs⟩) (hwl : WfI lv) (h : IsPlan w An Ac ⟨ns, cs⟩) (h3 : IsRec 1 cI 0 w Al lv.length lv) :
    Calls Try.prog 39 #[.agg #[.slice An ns.length cn, .slice Ac cs.length cc], .agg #[.slice Al lv.length cl], .int .i64 (i : Int), .int .i64 (v : Int), .int .i64 (i2 : Int)] w fun e w' => e = .returned (.bool true) ∧ Below w.heap.size w w' := by
  obtain ⟨hvl, hll⟩ := orderB_len hob
  simp only at hll
  obtain ⟨n16, c32⟩ := valid_sizes hvl
  obtain ⟨w1, hw1⟩ : ∃ w1 : World, (w.alloc (.cells #[.slice An ns.length cn, .slice Ac cs.length cc] 40)).alloc (.cells #[.slice Al lv.length cl] 51) = w1 := ⟨_, rfl⟩
  have BW : Hid (Below w.heap.size w w1) := by rw [← hw1]; exact ((Below.refl _ _).alloc (Nat.le_refl _) _).alloc (by simp) _
  have P4 : Hid (Blk w1 w.heap.size 40 #[.slice An ns.length cn, .slice Ac cs.length cc]) := by
    rw [← hw1]; exact (Blk.new w 40 #[.slice An ns.length cn, .slice Ac cs.length cc]).alloc _
  have P5 : Hid (Blk w1 (w.heap.size + 1) 51 #[.slice Al lv.length cl]) := by
    rw [← hw1]
    have := Blk.new (w.alloc (.cells #[.slice An ns.length cn, .slice Ac cs.length cc] 40)) 51 #[.slice Al lv.length cl]
    rw [Hid]; simpa using this
  have HP := Lib.hid (h.below (Nat.le_refl _) BW.out)
  have HL := Lib.hid (h3.below (Nat.le_refl _) BW.out)
  have HO := order_any ⟨ns, cs⟩ lv An Ac Al cn cc cl w1 (by show ns.length ≤ _; omega) (by show cs.length ≤ _; omega) hwf (by omega) hwl HP.out HL.out
  rw [hob] at HO
  have HOO := Lib.hid HO
  have HLL := Lib.hid hll
  have HW1 := Lib.hid hw1
  have m1 : cs.getD i cb0 ∈ cs := by simp [List.getD, hi]
  have m2 : cs.getD i2 cb0 ∈ cs := by simp [List.getD, hi2]
  have ht' : touch (cs.getD i cb0) v u := by
    rcases ht with ⟨q1, q2⟩ | ⟨q1, q2⟩
    · exact .inr ⟨q2, q1⟩
    · exact .inl ⟨q2, q1⟩
  have AC1 := across_touch ht' (valid_abG hvl _ m1)
  have AC2 := across_touch ht2 (valid_abG hvl _ m2)
  have KC : Hid (∀ W, Below w1.heap.size w1 W → W.cell? ⟨w.heap.size, 0, none⟩ = some (.slice An ns.length cn) ∧ W.cell? ⟨w.heap.size, 1, none⟩ = some (.slice Ac cs.length cc) ∧ W.cell? ⟨w.heap.size + 1, 0, none⟩ = some (.slice Al lv.length cl) ∧ w.heap.size + 1 < W.heap.size ∧ Below w.heap.size w W ∧ IsPlan W An Ac ⟨ns, cs⟩ ∧ IsRec 1 cI 0 W Al lv.length lv) := fun W hW => by
    have p4 := P4.out.below hW P4.out.lt
    have p5 := P5.out.below hW P5.out.lt
    exact ⟨by rw [p4.cell]; rfl, by rw [p4.cell]; rfl, p5.one.1, p5.lt, BW.out.trans (hW.mono BW.out.size), HP.out.below (Nat.le_refl _) hW, HL.out.below (Nat.le_refl _) hW⟩
  have iN : isnB ns.length (v : Int) = true := decide_eq_true (by omega)
  have iC : isnB cs.length (i : Int) = true := decide_eq_true (by omega)
  have iC2 : isnB cs.length (i2 : Int) = true := decide_eq_true (by omega)
  have IN := Lib.hid iN
  have IC := Lib.hid iC
  have IC2 := Lib.hid iC2
  have HUP : Hid (upB lv v x = true → upB lv u v = true) := hup
  have AC1H := Lib.hid AC1
  have AC2H := Lib.hid AC2
  clear hob hwf hwl h h3 HO hw1 hvl hll m1 m2 ht ht' ht2 hup iN iC iC2 AC1 AC2
  go_enter Try.func39, Try.ntmps39
  go_wp2_with fail
  rw [HW1.out]
  refine HOO.out.mono ?_
  rintro e w2 ⟨rfl, bel⟩
  have B2 := Lib.hid bel
  obtain ⟨c0, c1, c2, l2, _⟩ := KC.out w2 B2.out
  have HN := unode_any An Ac ns.length cn cs.length cc (v : Int) w2 (by omega)
  rw [IN.out] at HN
  have HNN := Lib.hid HN
  clear bel HOO HN HW1
  go_wp2_with fail
  refine HNN.out.mono ?_
  rintro e w3 ⟨rfl, bel⟩
  have B3 : Hid (Below w1.heap.size w1 w3) := B2.out.trans (bel.mono B2.out.size)
  clear c0 c1 c2 l2 bel HNN
  obtain ⟨c0, c1, c2, l3, _⟩ := KC.out w3 B3.out
  have HN := ucable_any An Ac ns.length cn cs.length cc (i : Int) w3 (by omega)
  rw [IC.out] at HN
  have HNN := Lib.hid HN
  clear HN
  go_wp2_with fail
  refine HNN.out.mono ?_
  rintro e w4 ⟨rfl, bel⟩
  have B4 : Hid (Below w1.heap.size w1 w4) := B3.out.trans (bel.mono B3.out.size)
  clear c0 c1 c2 l3 bel HNN
  obtain ⟨c0, c1, c2, l4, _⟩ := KC.out w4 B4.out
  have HN := ucable_any An Ac ns.length cn cs.length cc (i2 : Int) w4 (by omega)
  rw [IC2.out] at HN
  have HNN := Lib.hid HN
  clear HN
  go_wp2_with fail
  refine HNN.out.mono ?_
  rintro e w5 ⟨rfl, bel⟩
  have B5 : Hid (Below w1.heap.size w1 w5) := B4.out.trans (bel.mono B4.out.size)
  clear c0 c1 c2 l4 bel HNN
  obtain ⟨c0, c1, c2, l5, _, pl5, rl5⟩ := KC.out w5 B5.out
  obtain ⟨bc, oc, hAc, hbc, _, ca, cap', cb, cbp, cd, ccp⟩ := cable_at pl5.2 i hi
  have HA := uacross_any (cs.getD i cb0) (v : Int) w5
  rw [AC1H.out] at HA
  obtain ⟨y1, hy1⟩ : ∃ y, cs.getD i cb0 = y := ⟨_, rfl⟩
  rw [hy1] at ca cap' cb cbp cd ccp HA
  clear hy1
  have HAA := Lib.hid HA
  subst hAc
  have hne2 : ¬ (i : Int) = (i2 : Int) := by omega
  have iw : (i : Int) < (cs.length : Int) := by omega
  have iw2 : (i2 : Int) < (cs.length : Int) := by omega
  clear pl5 rl5 HA
  go_wp2_with fail
  refine HAA.out.mono ?_
  rintro e w6 ⟨rfl, bel⟩
  have B6 : Hid (Below w1.heap.size w1 w6) := B5.out.trans (bel.mono B5.out.size)
  clear c0 c1 c2 l5 bel HAA ca cap' cb cbp cd ccp hbc
  obtain ⟨c0, c1, c2, l6, _, pl6, rl6⟩ := KC.out w6 B6.out
  obtain ⟨bc', oc', hAc, hbc, _, ca, cap', cb, cbp, cd, ccp⟩ := cable_at pl6.2 i2 hi2
  injection hAc with hAc
  injection hAc with q1 q2
  subst q1
  subst q2
  have HA := uacross_any (cs.getD i2 cb0) (v : Int) w6
  rw [AC2H.out] at HA
  obtain ⟨y2, hy2⟩ : ∃ y, cs.getD i2 cb0 = y := ⟨_, rfl⟩
  rw [hy2] at ca cap' cb cbp cd ccp HA
  clear hy2
  have HAA := Lib.hid HA
  clear pl6 rl6 HA
  go_wp2_with fail
  refine HAA.out.mono ?_
  rintro e w7 ⟨rfl, bel⟩
  have B7 : Hid (Below w1.heap.size w1 w7) := B6.out.trans (bel.mono B6.out.size)
  clear c0 c1 c2 l6 bel HAA ca cap' cb cbp cd ccp hbc
  obtain ⟨c0, c1, c2, l7, _, _, rl7⟩ := KC.out w7 B7.out
  have hll := HLL.out
  obtain ⟨bl, ol, hAl, hbl, _, ela⟩ := int_at rl7 u (by omega)
  obtain ⟨bl', ol', hAl', _, _, elb⟩ := int_at rl7 v (by omega)
  obtain ⟨bl'', ol'', hAl'', _, _, elc⟩ := int_at rl7 x (by omega)
  rw [hAl] at hAl' hAl''
  injection hAl' with hAl'
  injection hAl' with q1 q2
  subst q1
  subst q2
  injection hAl'' with hAl''
  injection hAl'' with q1 q2
  subst q1
  subst q2
  have HAB := Lib.hid (above_any lv Al cl (v : Int) (u : Int) w7 (by omega) rl7)
  subst hAl
  have uw : (u : Int) < (lv.length : Int) := by omega
  have vw : (v : Int) < (lv.length : Int) := by omega
  have xw : (x : Int) < (lv.length : Int) := by omega
  obtain ⟨la, hla⟩ : ∃ la, lv.getD u 0 = la := ⟨_, rfl⟩
  obtain ⟨lb, hlb⟩ : ∃ lb, lv.getD v 0 = lb := ⟨_, rfl⟩
  obtain ⟨lc, hlc⟩ : ∃ lc, lv.getD x 0 = lc := ⟨_, rfl⟩
  rw [hla] at ela lu
  rw [hlb] at elb lw
  rw [hlc] at elc lx
  clear hla hlb hlc hll rl7
  have E : Hid (aboveB lv (v : Int) (u : Int) = upB lv u v) := rfl
  go_wp2_with fail
  refine HAB.out.mono ?_
  rintro e w8 ⟨rfl, bel⟩
  rw [E.out]
  have B8 : Hid (Below w1.heap.size w1 w8) := B7.out.trans (bel.mono B7.out.size)
  clear c0 c1 c2 l7 bel HAB ela elb elc hbl
  obtain ⟨c0, c1, c2, l8, bw8, _, rl8⟩ := KC.out w8 B8.out
  have BW8 := Lib.hid bw8
  cases hq : upB lv u v with
  | true =>
    clear rl8
    go_wp2_with fail
    go_ret
    exact ⟨rfl, BW8.out⟩
  | false =>
    have hq2 : upB lv v x = false := by
      cases h : upB lv v x with
      | false => rfl
      | true => rw [HUP.out h] at hq; cases hq
    have HAB := above_any lv (some ⟨bl, ol, none⟩) cl (x : Int) (v : Int) w8 (by rw [HLL.out]; omega) rl8
    rw [show aboveB lv (x : Int) (v : Int) = false from hq2] at HAB
    have HABB := Lib.hid HAB
    clear rl8 HAB hq2 hq
    go_wp2_with fail
    refine HABB.out.mono ?_
    rintro e w9 ⟨rfl, bel⟩
    have F : Hid (Below w.heap.size w w9) := BW8.out.trans (bel.mono BW8.out.size)
    clear bel
    go_wp2_with fail
    go_ret
    exact ⟨rfl, F.out⟩
end Go.Proofs.Ytlhblaemoejefaa
