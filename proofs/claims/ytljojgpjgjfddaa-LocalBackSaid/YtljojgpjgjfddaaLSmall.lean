/- The small functions of package local: isNode, ends, fits, channelsAt. -/
import Derived.Test.YtljojgpjgjfddaaGValid
import Derived.Deep.QuietTactic
import Derived.BigQuiet
namespace Go.Proofs.Ytljojgpjgjfddaa
open Go.RowKit Go.Maps
set_option linter.unusedVariables false

abbrev Dp := Int × Int × Int
def d0 : Dp := (0, 0, 0)
def cD (d : Dp) : List Value := [.int .i64 d.1, .int .i64 d.2.1, .int .i64 d.2.2]
def chEnds (cs : List Cb) (c : Int) : Int × Int :=
  if c % 2 = 0 then ((cs.getD (c / 2).toNat cb0).a, (cs.getD (c / 2).toNat cb0).b) else ((cs.getD (c / 2).toNat cb0).b, (cs.getD (c / 2).toNat cb0).a)
def isNodeB (ns : List Nd) (node : Int) : Bool := decide (0 ≤ node) && decide (node < ns.length)
def existsB (cs : List Cb) (c : Int) : Bool := decide (0 ≤ c) && decide (c < 2 * cs.length)
def fitsB (p : Pl) (d : Dp) (node : Int) : Bool :=
  isNodeB p.ns node && decide (d.2.2 = node) && existsB p.cs d.1 && existsB p.cs d.2.1 && decide ((chEnds p.cs d.1).2 = node) && decide ((chEnds p.cs d.2.1).1 = node)
def atB (x : Cb) (node : Int) : Bool := decide (x.a = node) || decide (x.b = node)
def chTo (cs : List Cb) (node : Int) (k : Nat) : List Int := (List.range k).flatMap fun i => if atB (cs.getD i cb0) node then [2 * (i : Int), 2 * (i : Int) + 1] else []
def chansAt (cs : List Cb) (node : Int) : List Int := chTo cs node cs.length

theorem below_drewN {B : Nat} {a w : World} (h : Below B a w) (n : Nat) : Below B a (w.drewN n) := ⟨h.os, h.tape, h.output, h.size, h.block⟩

theorem isnode_any (ns : List Nd) (An Ac : Option Addr) (cn lc cc : Nat) (node : Int) (w : World) (hl : ns.length ≤ 1000000) :
    Calls Try.prog 44 #[.agg #[.slice An ns.length cn, .slice Ac lc cc], .int .i64 node] w fun e w' =>
      e = .returned (.bool (isNodeB ns node)) ∧ w.alloc (.cells #[.slice An ns.length cn, .slice Ac lc cc] 25) = w' := by
  by_cases h1 : 0 ≤ node
  · have hf : Hid (isNodeB ns node = decide (node < ns.length)) := by simp [Hid, isNodeB, h1]
    go_enter Try.func44, Try.ntmps44
    go_wp2
    go_ret
    exact ⟨by rw [hf.out]; rfl, rfl⟩
  · have hf : Hid (isNodeB ns node = false) := by simp [Hid, isNodeB, h1]
    go_enter Try.func44, Try.ntmps44
    go_wp2
    go_ret
    exact ⟨by rw [hf.out]; rfl, rfl⟩

theorem ends_any (cs : List Cb) (An Ac : Option Addr) (ln cn cc : Nat) (c : Int) (w : World) (hl : cs.length ≤ 1000000) (h : IsRec 6 cC cb0 w Ac cs.length cs) (h0 : 0 ≤ c) (h1 : c < 2 * cs.length) :
    Calls Try.prog 82 #[.agg #[.slice An ln cn, .slice Ac cs.length cc], .int .i64 c] w fun e w' =>
      e = .returned (.tuple #[.int .i64 (chEnds cs c).1, .int .i64 (chEnds cs c).2]) ∧ Below w.heap.size w w' := by
  obtain ⟨k, hk⟩ : ∃ k : Nat, c / 2 = k := ⟨(c / 2).toNat, by omega⟩
  have hkl : k < cs.length := by omega
  obtain ⟨bb, off, ha, hbb, hmem, c0, c1, c2, c3, c4, c5⟩ := cable_at (h.alloc (.cells #[.slice An ln cn, .slice Ac cs.length cc] 25)) k hkl
  have HE : Hid (chEnds cs c = if c % 2 = 0 then ((cs.getD k cb0).a, (cs.getD k cb0).b) else ((cs.getD k cb0).b, (cs.getD k cb0).a)) := by
    show _ = _; unfold chEnds; rw [hk]; rfl
  generalize cs.getD k cb0 = x at *
  subst ha
  obtain ⟨xa, xap, xb, xbp, xdl, xcp⟩ := x
  simp only at c0 c1 c2 c3 c4 c5 HE
  clear hmem h
  have BW : Hid (Below w.heap.size w ((w.alloc (.cells #[.slice An ln cn, .slice (some ⟨bb, off, none⟩) cs.length cc] 25)).alloc (.cells #[.int .i64 xa, .int .i64 xap, .int .i64 xb, .int .i64 xbp, .int .i64 xdl, .int .i64 xcp] 73))) :=
    ((Below.refl _ _).alloc (Nat.le_refl _) _).alloc (by simp) _
  by_cases hm : c % 2 = 0
  · rw [if_pos hm] at HE
    go_enter Try.func82, Try.ntmps82
    go_wp2_with fail
    go_quiet (fail)
    go_wp2_with fail
    go_ret2
    exact ⟨by rw [HE.out]; rfl, below_drewN BW.out _⟩
  · rw [if_neg hm] at HE
    have hm1 : c % 2 = 1 := by omega
    clear hm
    go_enter Try.func82, Try.ntmps82
    go_wp2_with fail
    go_quiet (fail)
    go_wp2_with fail
    go_ret2
    exact ⟨by rw [HE.out]; rfl, below_drewN BW.out _⟩

def existsN (lc : Nat) (c : Int) : Bool := decide (0 ≤ c) && decide (c < 2 * lc)
theorem exists1_any (g : Nat) (Ac : Option Addr) (lc cc : Nat) (c : Int) (w : World) (hl : lc ≤ 1000000) (hc : w.cell? ⟨g, 1, none⟩ = some (.slice Ac lc cc)) :
    Calls Try.prog 81 #[.int .i64 c, .pointer (some ⟨g, 0, none⟩)] w fun e w' => e = .returned (.bool (existsN lc c)) ∧ w = w' := by
  by_cases h1 : 0 ≤ c
  · have hf : Hid (existsN lc c = decide (c < 2 * lc)) := by simp [Hid, existsN, h1]
    go_enter Try.func81, Try.ntmps81
    go_wp2
    go_ret
    exact ⟨by rw [hf.out]; rfl, rfl⟩
  · have hf : Hid (existsN lc c = false) := by simp [Hid, existsN, h1]
    go_enter Try.func81, Try.ntmps81
    go_wp2
    go_ret
    exact ⟨by rw [hf.out]; rfl, rfl⟩

set_option maxRecDepth 100000 in
theorem fits_any (p : Pl) (An Ac : Option Addr) (cn cc : Nat) (df dt dn node : Int) (w : World) (hl : p.ns.length ≤ 1000000) (hl2 : p.cs.length ≤ 1000000) (h : IsPlan w An Ac p) :
    Calls Try.prog 46 #[.agg #[.slice An p.ns.length cn, .slice Ac p.cs.length cc], .agg #[.int .i64 df, .int .i64 dt, .int .i64 dn], .int .i64 node] w fun e w' =>
      e = .returned (.bool (fitsB p (df, dt, dn) node)) ∧ Below w.heap.size w w' := by
  obtain ⟨ns, cs⟩ := p
  simp only at hl hl2 ⊢
  cases hin : isNodeB ns node with
  | false =>
    have FIN : Hid (fitsB ⟨ns, cs⟩ (df, dt, dn) node = false) := by simp [Hid, fitsB, hin]
    have HIN := Lib.hid hin
    clear hin h
    go_enter Try.func46, Try.ntmps46
    go_wp2_with fail
    refine (isnode_any ns An Ac cn cs.length cc node _ hl).mono ?_
    rintro r w' ⟨rfl, rfl⟩
    rw [HIN.out]
    go_wp2_with fail
    go_ret
    exact ⟨by rw [FIN.out]; rfl, ((((Below.refl _ _).alloc (Nat.le_refl _) _).alloc (by simp) _).alloc (by simp; omega) _)⟩
  | true =>
    obtain ⟨W2, hW2⟩ : ∃ W2 : World, (((w.alloc (.cells #[.slice An ns.length cn, .slice Ac cs.length cc] 25)).alloc (.cells #[.int .i64 df, .int .i64 dt, .int .i64 dn] 49)).alloc (.cells #[.slice An ns.length cn, .slice Ac cs.length cc] 25)) = W2 := ⟨_, rfl⟩
    have BW : Hid (Below w.heap.size w W2) := by
      rw [Hid, ← hW2]; exact ((((Below.refl _ _).alloc (Nat.le_refl _) _).alloc (by simp) _).alloc (by simp; omega) _)
    have HP : Hid (IsPlan W2 An Ac ⟨ns, cs⟩) := by rw [Hid, ← hW2]; exact (((h.alloc _).alloc _).alloc _)
    have s0 : W2.cell? ⟨w.heap.size, 0, none⟩ = some (.slice An ns.length cn) := by rw [← hW2]; simp [go_sem]
    have s1 : W2.cell? ⟨w.heap.size, 1, none⟩ = some (.slice Ac cs.length cc) := by rw [← hW2]; simp [go_sem]
    have t0 : W2.cell? ⟨w.heap.size + 1, 0, none⟩ = some (.int .i64 df) := by rw [← hW2]; simp [go_sem]
    have t1 : W2.cell? ⟨w.heap.size + 1, 1, none⟩ = some (.int .i64 dt) := by rw [← hW2]; simp [go_sem]
    have t2 : W2.cell? ⟨w.heap.size + 1, 2, none⟩ = some (.int .i64 dn) := by rw [← hW2]; simp [go_sem]
    have sz : w.heap.size + 1 < W2.heap.size := by rw [← hW2]; simp
    have HW := Lib.hid hW2
    have HIN := Lib.hid hin
    clear hW2 h
    by_cases hdn : dn = node
    · obtain rfl := hdn
      have q2 : (dn != dn) = false := by simp
      cases he1 : existsN cs.length df with
      | false =>
        have FIN : Hid (fitsB ⟨ns, cs⟩ (df, dt, dn) dn = false) := by rw [Hid]; unfold fitsB; rw [show existsB (Pl.mk ns cs).cs df = existsN cs.length df from rfl, he1]; simp
        have HE1 := Lib.hid he1
        clear hin he1
        go_enter Try.func46, Try.ntmps46
        go_wp2_with fail
        refine (isnode_any ns An Ac cn cs.length cc dn _ hl).mono ?_
        rintro r w' ⟨rfl, rfl⟩
        rw [HIN.out, HW.out]
        go_wp2_with fail
        refine (exists1_any w.heap.size Ac cs.length cc df _ hl2 s1).mono ?_
        rintro r w' ⟨rfl, rfl⟩
        rw [HE1.out]
        go_wp2_with fail
        go_ret
        exact ⟨by rw [FIN.out]; rfl, BW.out⟩
      | true =>
        cases he2 : existsN cs.length dt with
        | false =>
          have FIN : Hid (fitsB ⟨ns, cs⟩ (df, dt, dn) dn = false) := by rw [Hid]; unfold fitsB; rw [show existsB (Pl.mk ns cs).cs dt = existsN cs.length dt from rfl, he2]; simp
          have HE1 := Lib.hid he1
          have HE2 := Lib.hid he2
          clear hin he1 he2
          go_enter Try.func46, Try.ntmps46
          go_wp2_with fail
          refine (isnode_any ns An Ac cn cs.length cc dn _ hl).mono ?_
          rintro r w' ⟨rfl, rfl⟩
          rw [HIN.out, HW.out]
          go_wp2_with fail
          refine (exists1_any w.heap.size Ac cs.length cc df _ hl2 s1).mono ?_
          rintro r w' ⟨rfl, rfl⟩
          rw [HE1.out]
          go_wp2_with fail
          refine (exists1_any w.heap.size Ac cs.length cc dt _ hl2 s1).mono ?_
          rintro r w' ⟨rfl, rfl⟩
          rw [HE2.out]
          go_wp2_with fail
          go_ret
          exact ⟨by rw [FIN.out]; rfl, BW.out⟩
        | true =>
          have FIN : Hid (fitsB ⟨ns, cs⟩ (df, dt, dn) dn = (decide ((chEnds cs df).2 = dn) && decide ((chEnds cs dt).1 = dn))) := by
            rw [Hid]; unfold fitsB; rw [show existsB (Pl.mk ns cs).cs dt = existsN cs.length dt from rfl, show existsB (Pl.mk ns cs).cs df = existsN cs.length df from rfl, he1, he2, hin]; simp
          have b1 : 0 ≤ df ∧ df < 2 * cs.length := by simpa [existsN] using he1
          have b2 : 0 ≤ dt ∧ dt < 2 * cs.length := by simpa [existsN] using he2
          obtain ⟨b11, b12⟩ := b1
          obtain ⟨b21, b22⟩ := b2
          have HE1 := Lib.hid he1
          have HE2 := Lib.hid he2
          clear hin he1 he2
          go_enter Try.func46, Try.ntmps46
          go_wp2_with fail
          refine (isnode_any ns An Ac cn cs.length cc dn _ hl).mono ?_
          rintro r w' ⟨rfl, rfl⟩
          rw [HIN.out, HW.out]
          go_wp2_with fail
          refine (exists1_any w.heap.size Ac cs.length cc df _ hl2 s1).mono ?_
          rintro r w' ⟨rfl, rfl⟩
          rw [HE1.out]
          go_wp2_with fail
          refine (exists1_any w.heap.size Ac cs.length cc dt _ hl2 s1).mono ?_
          rintro r w' ⟨rfl, rfl⟩
          rw [HE2.out]
          go_wp2_with fail
          refine (ends_any cs An Ac ns.length cn cc df _ hl2 HP.out.2 b11 b12).mono ?_
          rintro r w3 ⟨rfl, bel3⟩
          have HP3 := Lib.hid (HP.out.2.below (Nat.le_refl _) bel3)
          have BW3 := Lib.hid (BW.out.trans (bel3.mono (by omega)))
          have u0 : w3.cell? ⟨w.heap.size, 0, none⟩ = some (.slice An ns.length cn) := by rw [bel3.cell (by show w.heap.size < _; omega)]; exact s0
          have u1 : w3.cell? ⟨w.heap.size, 1, none⟩ = some (.slice Ac cs.length cc) := by rw [bel3.cell (by show w.heap.size < _; omega)]; exact s1
          have v1 : w3.cell? ⟨w.heap.size + 1, 1, none⟩ = some (.int .i64 dt) := by rw [bel3.cell (by exact sz)]; exact t1
          have sz3 : w.heap.size + 1 < w3.heap.size := by have := bel3.size; omega
          generalize (chEnds cs df).1 = ef at *
          generalize (chEnds cs df).2 = et at *
          clear s0 s1 t0 t1 t2 bel3 HP BW HW sz
          go_wp2_with fail
          refine (ends_any cs An Ac ns.length cn cc dt _ hl2 HP3.out b21 b22).mono ?_
          rintro r w4 ⟨rfl, bel4⟩
          have BW4 := Lib.hid (BW3.out.trans (bel4.mono (by omega)))
          generalize (chEnds cs dt).1 = gf at *
          generalize (chEnds cs dt).2 = gt at *
          clear bel4 u0 u1 v1
          by_cases h1 : et = dn
          · obtain rfl := h1
            go_wp2_with fail
            go_ret
            refine ⟨?_, BW4.out⟩
            show Ending.returned (.bool (gf == et)) = _
            rw [FIN.out]
            by_cases h2 : gf = et <;> simp [h2]
          · have hq : (et == dn) = false := by rw [beq_eq_false_iff_ne]; exact h1
            go_wp2_with fail
            go_ret
            refine ⟨?_, BW4.out⟩
            show Ending.returned (.bool false) = _
            rw [FIN.out]
            simp [h1]
    · have q2 : (dn != node) = true := by simp [hdn]
      have FIN : Hid (fitsB ⟨ns, cs⟩ (df, dt, dn) node = false) := by simp [Hid, fitsB, hdn]
      clear hin hdn
      go_enter Try.func46, Try.ntmps46
      go_wp2_with fail
      refine (isnode_any ns An Ac cn cs.length cc node _ hl).mono ?_
      rintro r w' ⟨rfl, rfl⟩
      rw [HIN.out, HW.out]
      go_wp2_with fail
      go_ret
      exact ⟨by rw [FIN.out]; rfl, BW.out⟩
end Go.Proofs.Ytljojgpjgjfddaa
