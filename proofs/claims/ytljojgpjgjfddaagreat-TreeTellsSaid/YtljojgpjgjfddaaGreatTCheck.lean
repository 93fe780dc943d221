/- Several texts in one: TSmall, TIdx, TCheck. -/
import Derived.Test.YtljojgpjgjfddaaGreatTPathP
import Derived.Test.YtljojgpjgjfddaaGreatCBase

/- The contracts of tree.isEnd and tree.other at cables that are there. -/
namespace Go.Proofs.YtljojgpjgjfddaaGreat
open Go.RowKit Go.Maps
set_option linter.unusedVariables false
set_option linter.unusedSimpArgs false

set_option maxHeartbeats 1000000 in
theorem tend_any (ns : List Nd) (cs : List Cb) (An Ac : Option Addr) (cn cc k : Nat) (u : Int) (w : World) (hl : cs.length ≤ 1000000) (hk : k < cs.length) (h : IsRec 6 cC cb0 w Ac cs.length cs) :
    Calls Tryz.prog 75 #[.agg #[.slice An ns.length cn, .slice Ac cs.length cc], .int .i64 (k : Int), .int .i64 u] w fun e w' => e = .returned (.bool (endT (cs.getD k cb0) u)) ∧ Below w.heap.size w w' := by
  have B : Hid (Below w.heap.size w (w.alloc (.cells #[.slice An ns.length cn, .slice Ac cs.length cc] 25))) := (Below.refl _ _).alloc (Nat.le_refl _) _
  obtain ⟨bc, oc, hAc, hbc, _, ca, cap', cb, cbp, cd, ccp⟩ := cable_at h k hk
  have kw : (k : Int) < (cs.length : Int) := by omega
  have k0 : (0 : Int) ≤ (k : Int) := by omega
  generalize cs.getD k cb0 = x at *
  obtain ⟨xa, xap, xb, xbp, xd, xc⟩ := x
  simp only at ca cap' cb cbp cd ccp
  have E : Hid (endT ⟨xa, xap, xb, xbp, xd, xc⟩ u = (xa == u || xb == u)) := rfl
  subst hAc
  clear h
  cases h1 : xa == u with
  | true =>
    rw [h1] at E
    go_enter Tryz.func75, Tryz.ntmps75
    go_wp2_with fail
    go_ret
    exact ⟨by rw [E.out]; rfl, B.out⟩
  | false =>
    rw [h1] at E
    cases h2 : xb == u with
    | true =>
      rw [h2] at E
      go_enter Tryz.func75, Tryz.ntmps75
      go_wp2_with fail
      go_ret
      exact ⟨by rw [E.out]; first | rfl | simp [h2], B.out⟩
    | false =>
      rw [h2] at E
      go_enter Tryz.func75, Tryz.ntmps75
      go_wp2_with fail
      go_ret
      exact ⟨by rw [E.out]; first | rfl | simp [h2], B.out⟩
set_option maxHeartbeats 1000000 in
theorem tother_any (ns : List Nd) (cs : List Cb) (An Ac : Option Addr) (cn cc k : Nat) (u : Int) (w : World) (hl : cs.length ≤ 1000000) (hk : k < cs.length) (h : IsRec 6 cC cb0 w Ac cs.length cs)
    (ha : 0 ≤ (cs.getD k cb0).a ∧ (cs.getD k cb0).a ≤ 1000000) (hb : 0 ≤ (cs.getD k cb0).b ∧ (cs.getD k cb0).b ≤ 1000000) (hu : 0 ≤ u ∧ u ≤ 1000000) :
    Calls Tryz.prog 52 #[.agg #[.slice An ns.length cn, .slice Ac cs.length cc], .int .i64 (k : Int), .int .i64 u] w fun e w' => e = .returned (.int .i64 (othZ (cs.getD k cb0) u)) ∧ Below w.heap.size w w' := by
  have B : Hid (Below w.heap.size w (w.alloc (.cells #[.slice An ns.length cn, .slice Ac cs.length cc] 25))) := (Below.refl _ _).alloc (Nat.le_refl _) _
  obtain ⟨bc, oc, hAc, hbc, _, ca, cap', cb, cbp, cd, ccp⟩ := cable_at h k hk
  have kw : (k : Int) < (cs.length : Int) := by omega
  have k0 : (0 : Int) ≤ (k : Int) := by omega
  generalize cs.getD k cb0 = x at *
  obtain ⟨xa, xap, xb, xbp, xd, xc⟩ := x
  simp only at ca cap' cb cbp cd ccp ha hb
  obtain ⟨a0, a1⟩ := ha
  obtain ⟨b0, b1⟩ := hb
  obtain ⟨u0, u1⟩ := hu
  have E : Hid (othZ ⟨xa, xap, xb, xbp, xd, xc⟩ u = xa + xb - u) := rfl
  subst hAc
  have q1 : IntKind.i64.wrap (xa + xb) = xa + xb := IntWalk.i64_in _ (by omega)
  have q2 : IntKind.i64.wrap (xa + xb - u) = xa + xb - u := IntWalk.i64_in _ (by omega)
  have B2 : Hid (∀ n, Below w.heap.size w ((w.alloc (.cells #[.slice An ns.length cn, .slice (some ⟨bc, oc, none⟩) cs.length cc] 25)).drewN n)) := fun n => below_drewN B.out n
  clear h
  go_enter Tryz.func52, Tryz.ntmps52
  go_wp2_with fail
  go_quiet (fail)
  clear q1 q2
  go_wp2_with fail
  go_ret
  exact ⟨by rw [E.out]; rfl, B2.out _⟩
end Go.Proofs.YtljojgpjgjfddaaGreat

/- The contracts of tree.parents, of slices.IndexFunc at cables with its predicate, and of tree.isNode. -/
namespace Go.Proofs.YtljojgpjgjfddaaGreat
open Go.RowKit Go.Maps
set_option linter.unusedVariables false
set_option linter.unusedSimpArgs false

theorem tisnode_any (ns : List Nd) (An Ac : Option Addr) (cn lc cc : Nat) (u : Int) (w : World) (hl : ns.length ≤ 1000000) :
    Calls Tryz.prog 100 #[.agg #[.slice An ns.length cn, .slice Ac lc cc], .int .i64 u] w fun e w' => e = .returned (.bool (isNodeB ns u)) ∧ w.alloc (.cells #[.slice An ns.length cn, .slice Ac lc cc] 25) = w' := by
  by_cases h1 : 0 ≤ u
  · have hf : Hid (isNodeB ns u = decide (u < ns.length)) := by simp [Hid, isNodeB, h1]
    go_enter Tryz.func100, Tryz.ntmps100
    go_wp2
    go_ret
    exact ⟨by rw [hf.out]; rfl, rfl⟩
  · have hf : Hid (isNodeB ns u = false) := by simp [Hid, isNodeB, h1]
    go_enter Tryz.func100, Tryz.ntmps100
    go_wp2
    go_ret
    exact ⟨by rw [hf.out]; rfl, rfl⟩
/-- Levels are small. -/
def SmallI (l : List Int) : Prop := ∀ x ∈ l, -1 ≤ x ∧ x ≤ 1000000
set_option maxHeartbeats 2000000 in
theorem par1_any (x : Cb) (ga gb u : Nat) (lv : List Int) (Al : Option Addr) (cl : Nat) (w : World) (hga : ga < w.heap.size) (hgb : gb < w.heap.size) (hl : lv.length ≤ 1000000) (hs : SmallI lv)
    (hx : w.cell? ⟨ga, 0, none⟩ = some (.slice Al lv.length cl)) (hy : w.cell? ⟨gb, 0, none⟩ = some (.int .i64 (u : Int))) (hu : u < lv.length) (h : IsRec 1 cI 0 w Al lv.length lv) (a0 : 0 ≤ x.a ∧ x.a < lv.length) (b0 : 0 ≤ x.b ∧ x.b < lv.length) :
    Calls Tryz.prog 113 #[.agg #[.int .i64 x.a, .int .i64 x.ap, .int .i64 x.b, .int .i64 x.bp, .int .i64 x.dl, .int .i64 x.cp], .pointer (some ⟨ga, 0, none⟩), .pointer (some ⟨gb, 0, none⟩)] w fun e w' => e = .returned (.bool (pOk lv u x)) ∧ Below w.heap.size w w' := by
  obtain ⟨xa, xap, xb, xbp, xd, xc⟩ := x
  simp only at a0 b0 ⊢
  obtain ⟨ia, rfl⟩ : ∃ i : Nat, xa = i := ⟨xa.toNat, by omega⟩
  obtain ⟨ib, rfl⟩ : ∃ i : Nat, xb = i := ⟨xb.toNat, by omega⟩
  obtain ⟨w1, hw1⟩ : ∃ w1 : World, w.alloc (.cells #[.int .i64 ia, .int .i64 xap, .int .i64 ib, .int .i64 xbp, .int .i64 xd, .int .i64 xc] 85) = w1 := ⟨_, rfl⟩
  have BW : Hid (Below w.heap.size w w1) := by rw [Hid, ← hw1]; exact (Below.refl _ _).alloc (Nat.le_refl _) _
  have k0 : w1.cell? ⟨w.heap.size, 0, none⟩ = some (.int .i64 ia) := by rw [← hw1]; simp [go_sem]
  have k2 : w1.cell? ⟨w.heap.size, 2, none⟩ = some (.int .i64 ib) := by rw [← hw1]; simp [go_sem]
  have kx : w1.cell? ⟨ga, 0, none⟩ = some (.slice Al lv.length cl) := (BW.out.cell (p := ⟨ga, 0, none⟩) hga).trans hx
  have ky : w1.cell? ⟨gb, 0, none⟩ = some (.int .i64 (u : Int)) := (BW.out.cell (p := ⟨gb, 0, none⟩) hgb).trans hy
  have H1 := h.below (Nat.le_refl _) BW.out
  obtain ⟨bl, ol, hal, hbl, mu, eu⟩ := int_at H1 u hu
  obtain ⟨_, _, hal2, _, ma, ea⟩ := int_at H1 ia (by omega)
  obtain ⟨_, _, hal3, _, mb, eb⟩ := int_at H1 ib (by omega)
  rw [hal] at hal2 hal3
  injection hal2 with hal2
  injection hal2 with q1 q2
  subst q1; subst q2
  injection hal3 with hal3
  injection hal3 with q1 q2
  subst q1; subst q2
  have su := hs _ mu
  have sa := hs _ ma
  have sb := hs _ mb
  have E : Hid (pOk lv u ⟨ia, xap, ib, xbp, xd, xc⟩ = (decide (0 < lv.getD u 0) && (((ia : Int) == (u : Int) && lv.getD ib 0 == lv.getD u 0 - 1) || ((ib : Int) == (u : Int) && lv.getD ia 0 == lv.getD u 0 - 1)))) := by
    rw [Hid]; unfold pOk lvAt; simp only [Int.toNat_natCast]
  have ja : (ia : Int) < (lv.length : Int) := by omega
  have jb : (ib : Int) < (lv.length : Int) := by omega
  have ju : (u : Int) < (lv.length : Int) := by omega
  have ja0 : (0 : Int) ≤ (ia : Int) := by omega
  have jb0 : (0 : Int) ≤ (ib : Int) := by omega
  have ju0 : (0 : Int) ≤ (u : Int) := by omega
  generalize lv.getD u 0 = lu at *
  generalize lv.getD ia 0 = la at *
  generalize lv.getD ib 0 = lb at *
  have qw : IntKind.i64.wrap (lu - 1) = lu - 1 := IntWalk.i64_in _ (by omega)
  subst hal
  have HW1 := Lib.hid hw1
  clear hx hy h H1 mu ma mb hs hw1 a0 b0
  go_enter Tryz.func113, Tryz.ntmps113
  go_wp2_with fail
  rw [HW1.out]
  cases c0 : decide (0 < lu) with
  | false =>
    have F : Hid (pOk lv u ⟨ia, xap, ib, xbp, xd, xc⟩ = false) := by rw [Hid, E.out, c0]; rfl
    have c0' : ¬ 0 < lu := by simpa using c0
    clear c0
    go_quiet (fail)
    go_wp2_with fail
    go_ret
    exact ⟨by rw [F.out]; rfl, below_drewN BW.out _⟩
  | true =>
    have c0' : 0 < lu := by simpa using c0
    rw [c0] at E
    simp only [Bool.true_and] at E
    clear c0
    have HL : Hid (∀ b, pOk lv u ⟨ia, xap, ib, xbp, xd, xc⟩ = b → ∀ n, Ending.returned (.bool b) = .returned (.bool (pOk lv u ⟨ia, xap, ib, xbp, xd, xc⟩)) ∧ Below w.heap.size w (w1.drewN n)) := fun b hb n => ⟨by rw [hb], below_drewN BW.out _⟩
    cases c1 : ((ia : Int) == (u : Int)) with
    | true =>
      cases c2 : (lb == lu - 1) with
      | true =>
        have F : Hid (pOk lv u ⟨ia, xap, ib, xbp, xd, xc⟩ = true) := by rw [Hid, E.out, c1, c2]; rfl
        clear E
        go_quiet (fail)
        go_wp2_with fail
        go_ret
        exact ⟨by rw [F.out]; rfl, below_drewN BW.out _⟩
      | false =>
        cases c3 : ((ib : Int) == (u : Int)) with
        | true =>
          have F : Hid (pOk lv u ⟨ia, xap, ib, xbp, xd, xc⟩ = (la == lu - 1)) := by rw [Hid, E.out, c1, c2, c3]; simp
          clear E
          go_quiet (fail)
          go_wp2_with fail
          go_ret
          exact ⟨by rw [F.out]; rfl, below_drewN BW.out _⟩
        | false =>
          have F : Hid (pOk lv u ⟨ia, xap, ib, xbp, xd, xc⟩ = false) := by rw [Hid, E.out, c1, c2, c3]; simp
          clear E
          go_quiet (fail)
          go_wp2_with fail
          go_ret
          exact ⟨by rw [F.out]; rfl, below_drewN BW.out _⟩
    | false =>
      cases c3 : ((ib : Int) == (u : Int)) with
      | true =>
        have F : Hid (pOk lv u ⟨ia, xap, ib, xbp, xd, xc⟩ = (la == lu - 1)) := by rw [Hid, E.out, c1, c3]; simp
        clear E
        go_quiet (fail)
        go_wp2_with fail
        go_ret
        exact ⟨by rw [F.out]; rfl, below_drewN BW.out _⟩
      | false =>
        have F : Hid (pOk lv u ⟨ia, xap, ib, xbp, xd, xc⟩ = false) := by rw [Hid, E.out, c1, c3]; simp
        clear E
        go_quiet (fail)
        go_wp2_with fail
        go_ret
        exact ⟨by rw [F.out]; rfl, below_drewN BW.out _⟩
end Go.Proofs.YtljojgpjgjfddaaGreat

/- The contract of tree.check. -/
namespace Go.Proofs.YtljojgpjgjfddaaGreat
open Go.RowKit Go.Maps
set_option linter.unusedVariables false
set_option linter.unusedSimpArgs false

def sameI (a b : Int) : Bool := a == b
def lvB (lv : List Int) (m : Int) : Bool := decide (0 ≤ lvAt lv m)
/-- The error of the arguments of tree.Make. -/
def tErr (p : Pl) (lv ms : List Int) (s : Int) : Int :=
  if orderB p lv = false then 1 else if isNodeB p.ns s = false then 2 else if ms.all (isNodeB p.ns) = false then 2
  else if twTo sameI 0 ms ms.length = true then 8 else if ms.all (lvB lv) = false then 12 else if lvB lv s = false then 12 else 0
section
variable {p : Pl} {lv ms : List Int} {s : Int}
theorem te1 (h : orderB p lv = false) : tErr p lv ms s = 1 := by unfold tErr; rw [if_pos h]
theorem te2 (h1 : orderB p lv = true) (h : isNodeB p.ns s = false) : tErr p lv ms s = 2 := by unfold tErr; rw [if_neg (by rw [h1]; decide), if_pos h]
theorem te3 (h1 : orderB p lv = true) (h2 : isNodeB p.ns s = true) (h : ms.all (isNodeB p.ns) = false) : tErr p lv ms s = 2 := by unfold tErr; rw [if_neg (by rw [h1]; decide), if_neg (by rw [h2]; decide), if_pos h]
theorem te4 (h1 : orderB p lv = true) (h2 : isNodeB p.ns s = true) (h3 : ms.all (isNodeB p.ns) = true) (h : twTo sameI 0 ms ms.length = true) : tErr p lv ms s = 8 := by
  unfold tErr; rw [if_neg (by rw [h1]; decide), if_neg (by rw [h2]; decide), if_neg (by rw [h3]; decide), if_pos h]
theorem te5 (h1 : orderB p lv = true) (h2 : isNodeB p.ns s = true) (h3 : ms.all (isNodeB p.ns) = true) (h4 : twTo sameI 0 ms ms.length = false) (h : ms.all (lvB lv) = false) : tErr p lv ms s = 12 := by
  unfold tErr; rw [if_neg (by rw [h1]; decide), if_neg (by rw [h2]; decide), if_neg (by rw [h3]; decide), if_neg (by rw [h4]; decide), if_pos h]
theorem te6 (h1 : orderB p lv = true) (h2 : isNodeB p.ns s = true) (h3 : ms.all (isNodeB p.ns) = true) (h4 : twTo sameI 0 ms ms.length = false) (h5 : ms.all (lvB lv) = true) (h : lvB lv s = false) : tErr p lv ms s = 12 := by
  unfold tErr; rw [if_neg (by rw [h1]; decide), if_neg (by rw [h2]; decide), if_neg (by rw [h3]; decide), if_neg (by rw [h4]; decide), if_neg (by rw [h5]; decide), if_pos h]
theorem te0 (h1 : orderB p lv = true) (h2 : isNodeB p.ns s = true) (h3 : ms.all (isNodeB p.ns) = true) (h4 : twTo sameI 0 ms ms.length = false) (h5 : ms.all (lvB lv) = true) (h : lvB lv s = true) : tErr p lv ms s = 0 := by
  unfold tErr; rw [if_neg (by rw [h1]; decide), if_neg (by rw [h2]; decide), if_neg (by rw [h3]; decide), if_neg (by rw [h4]; decide), if_neg (by rw [h5]; decide), if_neg (by rw [h]; decide)]
end
def intLits (ms : List Int) (k : Nat) : List Lit := (ms.take k).map fun x => .int .i64 x
theorem intLits_snoc (ms : List Int) (k : Nat) (h : k < ms.length) : intLits ms (k + 1) = intLits ms k ++ [.int .i64 (ms.getD k 0)] := by
  unfold intLits; rw [take_snocG 0 ms k h, List.map_append]; rfl
theorem sameLit (x y : Int) : (Lit.int .i64 x).sameKey (.int .i64 y) = (y == x) := by rw [Bool.eq_iff_iff]; simp [Lit.sameKey]; exact eq_comm
theorem intLits_any (ms : List Int) (k : Nat) (x : Int) : ((intLits ms k).any fun b => (Lit.int .i64 x).sameKey b) = (ms.take k).any fun y => sameI y x := by
  unfold intLits
  rw [List.any_map]
  congr 1
  funext y
  exact sameLit x y
theorem orderB_spec {p : Pl} {lv : List Int} (h : orderB p lv = true) : validP p = 0 ∧ lv.length = p.ns.length ∧ lv.all (levelOk p.ns.length) = true ∧ lv.countP (· == 0) = 1 ∧ (List.range lv.length).all (nodeOk p.cs lv) = true := by
  unfold orderB at h
  simp only [Bool.and_eq_true, decide_eq_true_eq] at h
  exact ⟨h.1.1.1.1, h.1.1.1.2, h.1.1.2, h.1.2, h.2⟩
def RelA (pr : Int → Bool) (ms : List Int) (w1 : World) (i : Value) (wr : World) : Prop :=
  ∃ k : Nat, k ≤ ms.length ∧ i = .int .i64 k ∧ (ms.take k).all pr = true ∧ Below w1.heap.size w1 wr
def RelTw (ms : List Int) (w1 : World) (b : Nat) (i : Value) (wr : World) : Prop :=
  ∃ k : Nat, k ≤ ms.length ∧ i = .int .i64 k ∧ OMap wr Tryz.prog 3 b k (setM (intLits ms k)) ∧ twTo sameI 0 ms k = false ∧ Below b w1 wr

set_option maxRecDepth 100000 in
set_option maxHeartbeats 4000000 in
theorem tcheck_any (ns : List Nd) (cs : List Cb) (lv ms : List Int) (s : Int) (An Ac Al Am : Option Addr) (cn cc cl cm : Nat) (w : World) (hl : ns.length ≤ 1000000) (hl2 : cs.length ≤ 1000000) (hwf : WfP ⟨ns, cs⟩) (hlv : lv.length ≤ 1000000) (hwl : WfI lv) (hms : ms.length ≤ 1000000) (hwm : WfI ms)
    (h : IsPlan w An Ac ⟨ns, cs⟩) (h2 : IsRec 1 cI 0 w Al lv.length lv) (h3 : IsRec 1 cI 0 w Am ms.length ms) :
    Calls Tryz.prog 70 #[.agg #[.slice An ns.length cn, .slice Ac cs.length cc], .agg #[.slice Al lv.length cl], .int .i64 s, .slice Am ms.length cm] w fun e w' => e = .returned (.int .i64 (tErr ⟨ns, cs⟩ lv ms s)) ∧ Below w.heap.size w w' := by
  have HW := Lib.hid hwf
  have hmm := @run_makeMap Tryz.prog
  obtain ⟨w1, hw1⟩ : ∃ w1 : World, (w.alloc (.cells #[.slice An ns.length cn, .slice Ac cs.length cc] 25)).alloc (.cells #[.slice Al lv.length cl] 30) = w1 := ⟨_, rfl⟩
  have s0 : w1.cell? ⟨w.heap.size, 0, none⟩ = some (.slice An ns.length cn) := by rw [← hw1]; simp [go_sem]
  have s1 : w1.cell? ⟨w.heap.size, 1, none⟩ = some (.slice Ac cs.length cc) := by rw [← hw1]; simp [go_sem]
  have s2 : w1.cell? ⟨w.heap.size + 1, 0, none⟩ = some (.slice Al lv.length cl) := by rw [← hw1]; simp [go_sem]
  have sz1 : w.heap.size + 1 < w1.heap.size := by rw [← hw1]; simp
  have BW0 : Below w.heap.size w w1 := by rw [← hw1]; exact ((Below.refl _ _).alloc (Nat.le_refl _) _).alloc (by simp) _
  have H1 := Lib.hid (h.below (Nat.le_refl _) BW0)
  have L1 := Lib.hid (h2.below (Nat.le_refl _) BW0)
  have M1 := Lib.hid (h3.below (Nat.le_refl _) BW0)
  have HW1 := Lib.hid hw1
  have WL := Lib.hid hwl
  have WM := Lib.hid hwm
  have KC : Hid (∀ w', Below w1.heap.size w1 w' → w'.cell? ⟨w.heap.size, 0, none⟩ = some (.slice An ns.length cn) ∧ w'.cell? ⟨w.heap.size, 1, none⟩ = some (.slice Ac cs.length cc) ∧ w'.cell? ⟨w.heap.size + 1, 0, none⟩ = some (.slice Al lv.length cl) ∧ w.heap.size + 1 < w'.heap.size ∧ Below w.heap.size w w') :=
    fun w' hb => ⟨(hb.cell (by show w.heap.size < _; omega)).trans s0, (hb.cell (by show w.heap.size < _; omega)).trans s1, (hb.cell (by exact sz1)).trans s2, by have := hb.size; omega, BW0.trans (hb.mono (by omega))⟩
  clear h h2 h3 hw1 hwf BW0 hwl hwm
  go_enter Tryz.func70, Tryz.ntmps70
  go_wp2_with fail
  rw [HW1.out]
  refine (order_any ⟨ns, cs⟩ lv An Ac Al cn cc cl _ hl hl2 HW.out hlv WL.out H1.out L1.out).mono ?_
  rintro e w2 ⟨rfl, bel2⟩
  have B2 := Lib.hid bel2
  clear s0 s1 s2
  obtain ⟨u0, u1, u2, sz2, bw2⟩ := KC.out w2 bel2
  have BF2 := Lib.hid bw2
  clear bel2 bw2
  cases ho : orderB ⟨ns, cs⟩ lv with
  | false =>
    have FIN : Hid (tErr ⟨ns, cs⟩ lv ms s = 1) := te1 ho
    clear ho
    go_wp2_with fail
    go_ret
    exact ⟨by rw [FIN.out]; rfl, BF2.out⟩
  | true =>
    have HO := Lib.hid ho
    clear ho
    go_wp2_with fail
    refine (tisnode_any ns An Ac cn cs.length cc s _ hl).mono ?_
    rintro e w3 ⟨rfl, e3⟩
    have B3 : Hid (Below w1.heap.size w1 w3) := by rw [Hid, ← e3]; exact B2.out.alloc B2.out.size _
    obtain ⟨v0, v1, v2, sz3, bw3⟩ := KC.out w3 B3.out
    have BF3 := Lib.hid bw3
    have E3 := Lib.hid e3
    clear bw3 u0 u1 u2 e3
    cases hs : isNodeB ns s with
    | false =>
      have FIN : Hid (tErr ⟨ns, cs⟩ lv ms s = 2) := te2 HO.out hs
      clear hs
      go_wp2_with fail
      go_ret
      exact ⟨by rw [FIN.out]; rfl, BF3.out⟩
    | true =>
      have HS := Lib.hid hs
      clear hs
      go_wp2_with fail
      go_loopw [26] (fun i wr => RelA (isNodeB ns) ms w3 i wr) (fun i _ => ms.length - (RowKit.intOf i).toNat)
      case atStart => exact ⟨0, Nat.zero_le _, rfl, rfl, Below.refl _ _⟩
      case round =>
        obtain ⟨k, hk, rfl, hall, bel⟩ := hrel
        have HA := Lib.hid hall
        have bs := bel.size
        have BE := Lib.hid bel
        clear hall
        obtain ⟨v0, v1, v2, sz4, bw4⟩ := KC.out wr (B3.out.trans (bel.mono B3.out.size))
        have BW4 := Lib.hid bw4
        clear bw4
        by_cases hkr : k < ms.length
        · obtain ⟨b1, o1, ha1, hb1, hm1, e1⟩ := int_at (M1.out.below (Nat.le_refl _) (B3.out.trans (bel.mono B3.out.size))) k hkr
          have AS := Lib.hid (all_snoc (isNodeB ns) 0 ms k hkr)
          have AB := Lib.hid (all_bad (isNodeB ns) 0 ms k hkr)
          generalize ms.getD k 0 = x at *
          subst ha1
          have ki : (k : Int) < (ms.length : Int) := by omega
          clear hm1 bel
          go_wp2_with fail
          refine (tisnode_any ns An Ac cn cs.length cc x _ hl).mono ?_
          rintro e w4 ⟨rfl, e4⟩
          have B4 : Hid (Below w3.heap.size w3 w4) := by rw [Hid, ← e4]; exact BE.out.alloc BE.out.size _
          have BW5 : Hid (Below w.heap.size w w4) := by rw [Hid, ← e4]; exact BW4.out.alloc (by omega) _
          clear e4 e1 v0 v1 v2
          cases hx : isNodeB ns x with
          | false =>
            have FIN : Hid (tErr ⟨ns, cs⟩ lv ms s = 2) := te3 HO.out HS.out (AB.out hx)
            clear hx
            go_wp2_with fail
            go_ret
            exact ⟨by rw [FIN.out]; rfl, BW5.out⟩
          | true =>
            have R : Hid (RelA (isNodeB ns) ms w3 (.int .i64 ((k + 1 : Nat) : Int)) w4) := ⟨k + 1, by omega, rfl, by rw [AS.out, HA.out, hx]; rfl, B4.out⟩
            clear hx
            go_wp2_with fail
            exact ⟨by simpa using R.out, by simp [RowKit.intOf]; omega⟩
        · obtain rfl : k = ms.length := by omega
          rw [List.take_length] at HA
          have bw4 := BW4.out.size
          have B4 := Lib.hid (B3.out.trans (bel.mono B3.out.size))
          obtain ⟨w4, rfl⟩ : ∃ w4 : World, w4 = wr := ⟨_, rfl⟩
          clear bel BE
          go_wp2_with fail
          clear hmm
          go_loopw [38] (fun i wr => RelTw ms w4 w4.heap.size i wr) (fun i _ => ms.length - (RowKit.intOf i).toNat)
          case atStart => exact ⟨0, Nat.zero_le _, rfl, OMap.made _ _ _, rfl, (Below.refl _ _).alloc (Nat.le_refl _) _⟩
          case round =>
            obtain ⟨k, hk, rfl, om, htw, bel⟩ := hrel
            have HTW := Lib.hid htw
            have OM := Lib.hid om
            have bs := bel.size
            have BE := Lib.hid bel
            have lt4 := om.lt
            have B5 := Lib.hid (B4.out.trans (bel.mono B4.out.size))
            obtain ⟨v0, v1, v2, sz5, bw5⟩ := KC.out wr B5.out
            have BW5 := Lib.hid bw5
            clear htw om bw5
            by_cases hkr : k < ms.length
            · obtain ⟨b1, o1, ha1, hb1, hm1, e1⟩ := int_at (M1.out.below (Nat.le_refl _) B5.out) k hkr
              have wfx := WM.out _ hm1
              have NS := Lib.hid (intLits_snoc ms k hkr)
              have NA := Lib.hid (intLits_any ms k (ms.getD k 0))
              have TS := Lib.hid (twTo_succ sameI 0 ms k)
              have SG := Lib.hid (setM_get (intLits ms k) (.int .i64 (ms.getD k 0)))
              generalize ms.getD k 0 = x at *
              have HK := Lib.hid (keyOf_int_mk (a := x) Tryz.underlying3 wfx)
              subst ha1
              have ki : (k : Int) < (ms.length : Int) := by omega
              clear hm1 bel
              cases hin : (ms.take k).any fun y => sameI y x with
              | true =>
                have TG : Hid ((setM (intLits ms k) (.int .i64 x)).getD (.bool false) = .bool true) := by rw [Hid, SG.out, NA.out, hin]
                have FIN : Hid (tErr ⟨ns, cs⟩ lv ms s = 8) := te4 HO.out HS.out HA.out (twTo_mono sameI 0 ms (k + 1) (by rw [TS.out, hin]; simp) ms.length (by omega))
                clear NS NA SG TS hin HTW
                go_wp2_with (at_lookup; refine wpList_look _ rfl _ _ 127 rfl 3 4 (int_keyed Tryz.underlying3) Tryz.underlying127 (.bool false) (zeroBool2 _) w4.heap.size _ _ rfl OM.out _ (.int .i64 x) rfl HK.out ?_; rw [TG.out])
                go_ret
                exact ⟨by rw [FIN.out]; rfl, BW5.out⟩
              | false =>
                have TG : Hid ((setM (intLits ms k) (.int .i64 x)).getD (.bool false) = .bool false) := by rw [Hid, SG.out, NA.out, hin]
                have TW : Hid (twTo sameI 0 ms (k + 1) = false) := by rw [Hid, TS.out, HTW.out, hin]; rfl
                clear SG NA TS hin HTW
                go_wp2_with (first | (at_lookup; refine wpList_look _ rfl _ _ 127 rfl 3 4 (int_keyed Tryz.underlying3) Tryz.underlying127 (.bool false) (zeroBool2 _) w4.heap.size _ _ rfl OM.out _ (.int .i64 x) rfl HK.out ?_; rw [TG.out]) | (at_mapUpdate; refine wpList_put _ rfl _ _ _ 127 rfl 3 4 (int_keyed Tryz.underlying3) Tryz.underlying127 w4.heap.size k _ rfl OM.out ?d1 _ _ (.int .i64 x) rfl rfl HK.out ?_))
                case d1 => unfold maxLen; omega
                intro w6 om2 gr2
                have R : RelTw ms w4 w4.heap.size (.int .i64 ((k + 1 : Nat) : Int)) w6 := by
                  refine ⟨k + 1, by omega, rfl, ?_, TW.out, ?_⟩
                  · rw [NS.out, ← setM_snoc]; exact om2
                  · exact BE.out.grown gr2 (by omega) (by intro g e; injection e with e; omega)
                clear om2 gr2
                go_wp2
                exact ⟨by simpa using R, by simp [RowKit.intOf]; omega⟩
            · obtain rfl : k = ms.length := by omega
              have bw5 := BW5.out.size
              obtain ⟨w5, rfl⟩ : ∃ w5 : World, w5 = wr := ⟨_, rfl⟩
              obtain ⟨ov1, ov2, ov3, ov4, ov5⟩ := orderB_spec HO.out
              have HLL : Hid (lv.length = ns.length) := ov2
              clear bel BE OM ov1 ov2 ov3 ov4 ov5
              go_wp2_with fail
              go_loopw [50] (fun i wr => RelA (lvB lv) ms w5 i wr) (fun i _ => ms.length - (RowKit.intOf i).toNat)
              case atStart => exact ⟨0, Nat.zero_le _, rfl, rfl, Below.refl _ _⟩
              case round =>
                obtain ⟨k, hk, rfl, hall, bel⟩ := hrel
                have HA5 := Lib.hid hall
                have bs := bel.size
                have BE := Lib.hid bel
                have B6 := Lib.hid (B5.out.trans (bel.mono B5.out.size))
                clear hall v0 v1 v2
                obtain ⟨v0, v1, v2, sz6, bw6⟩ := KC.out wr B6.out
                have BW6 := Lib.hid bw6
                clear bw6
                by_cases hkr : k < ms.length
                · obtain ⟨b1, o1, ha1, hb1, hm1, e1⟩ := int_at (M1.out.below (Nat.le_refl _) B6.out) k hkr
                  have AS := Lib.hid (all_snoc (lvB lv) 0 ms k hkr)
                  have AB := Lib.hid (all_bad (lvB lv) 0 ms k hkr)
                  have hn := List.all_eq_true.1 HA.out _ hm1
                  generalize ms.getD k 0 = x at *
                  subst ha1
                  have ki : (k : Int) < (ms.length : Int) := by omega
                  unfold isNodeB at hn
                  simp only [Bool.and_eq_true, decide_eq_true_eq] at hn
                  obtain ⟨n0, n1⟩ := hn
                  obtain ⟨j, rfl⟩ : ∃ j : Nat, x = j := ⟨x.toNat, by omega⟩
                  have hll := HLL.out
                  have jl : j < lv.length := by omega
                  have ji : (j : Int) < (lv.length : Int) := by omega
                  obtain ⟨b2, o2, ha2, hb2, hm2, e2⟩ := int_at (L1.out.below (Nat.le_refl _) B6.out) j jl
                  have E : Hid (lvB lv (j : Int) = decide (0 ≤ lv.getD j 0)) := by rw [Hid]; unfold lvB lvAt; simp only [Int.toNat_natCast]
                  generalize lv.getD j 0 = y at *
                  subst ha2
                  clear hm1 hm2 bel n0 n1 hll
                  by_cases hy : 0 ≤ y
                  · have R : Hid (RelA (lvB lv) ms w5 (.int .i64 ((k + 1 : Nat) : Int)) wr) := ⟨k + 1, by omega, rfl, by rw [AS.out, HA5.out, E.out, decide_eq_true hy]; rfl, BE.out⟩
                    have hy2 : ¬ y < 0 := by omega
                    clear E AS AB
                    go_wp2_with fail
                    exact ⟨by simpa using R.out, by simp [RowKit.intOf]; omega⟩
                  · have FIN : Hid (tErr ⟨ns, cs⟩ lv ms s = 12) := te5 HO.out HS.out HA.out HTW.out (AB.out (by rw [E.out]; exact decide_eq_false hy))
                    have hy2 : y < 0 := by omega
                    clear E AS AB
                    go_wp2_with fail
                    go_ret
                    exact ⟨by rw [FIN.out]; rfl, BW6.out⟩
                · obtain rfl : k = ms.length := by omega
                  rw [List.take_length] at HA5
                  have hs := HS.out
                  unfold isNodeB at hs
                  simp only [Bool.and_eq_true, decide_eq_true_eq] at hs
                  obtain ⟨n0, n1⟩ := hs
                  obtain ⟨j, rfl⟩ : ∃ j : Nat, s = j := ⟨s.toNat, by omega⟩
                  have hll := HLL.out
                  have jl : j < lv.length := by omega
                  have ji : (j : Int) < (lv.length : Int) := by omega
                  obtain ⟨b2, o2, ha2, hb2, hm2, e2⟩ := int_at (L1.out.below (Nat.le_refl _) B6.out) j jl
                  have E : Hid (lvB lv (j : Int) = decide (0 ≤ lv.getD j 0)) := by rw [Hid]; unfold lvB lvAt; simp only [Int.toNat_natCast]
                  generalize lv.getD j 0 = y at *
                  subst ha2
                  clear hm2 bel n0 n1 hll
                  by_cases hy : 0 ≤ y
                  · have FIN : Hid (tErr ⟨ns, cs⟩ lv ms j = 0) := te0 HO.out HS.out HA.out HTW.out HA5.out (by rw [E.out]; exact decide_eq_true hy)
                    have hy2 : ¬ y < 0 := by omega
                    clear E
                    go_wp2_with fail
                    go_ret
                    exact ⟨by rw [FIN.out]; rfl, BW6.out⟩
                  · have FIN : Hid (tErr ⟨ns, cs⟩ lv ms j = 12) := te6 HO.out HS.out HA.out HTW.out HA5.out (by rw [E.out]; exact decide_eq_false hy)
                    have hy2 : y < 0 := by omega
                    clear E
                    go_wp2_with fail
                    go_ret
                    exact ⟨by rw [FIN.out]; rfl, BW6.out⟩
end Go.Proofs.YtljojgpjgjfddaaGreat
