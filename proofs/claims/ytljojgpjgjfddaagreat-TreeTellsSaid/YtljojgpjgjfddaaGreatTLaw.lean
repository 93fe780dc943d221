/- Several texts in one: TSame, TFits, TLaw. -/
import Derived.Test.YtljojgpjgjfddaaGreatTVal
import Derived.Test.YtljojgpjgjfddaaGreatTCheck
import Derived.Test.YtljojgpjgjfddaaGreatTMkB
import Derived.Test.YtljojgpjgjfddaaGreatR14b

/- The contract of the reference's Same at trees. -/
namespace Go.Proofs.YtljojgpjgjfddaaGreat
open Go.RowKit Go.Maps
set_option linter.unusedVariables false
set_option linter.unusedSimpArgs false

theorem take_eq_snocT {α : Type} (d : α) {l1 l2 : List α} {k : Nat} (h : l1.take k = l2.take k) (h1 : k < l1.length) (h2 : k < l2.length) (e : l1.getD k d = l2.getD k d) : l1.take (k + 1) = l2.take (k + 1) := by
  rw [take_snocG d l1 k h1, take_snocG d l2 k h2, h, e]
def sameT (a b : Tr) : Bool := decide (a.src = b.src ∧ a.out = b.out ∧ a.del = b.del)
def RelS1 (a b : Tr) (w1 : World) (i : Value) (wr : World) : Prop := ∃ k : Nat, k ≤ a.out.length ∧ i = .int .i64 k ∧ a.out.take k = b.out.take k ∧ Below w1.heap.size w1 wr
def RelS2 (l1 l2 : List Int) (w1 : World) (i : Value) (wr : World) : Prop := ∃ k : Nat, k ≤ l1.length ∧ i = .int .i64 k ∧ l1.take k = l2.take k ∧ Below w1.heap.size w1 wr
set_option maxRecDepth 100000 in
set_option maxHeartbeats 4000000 in
theorem same_any (a b : Tr) (aO aD bO bD : Option Addr) (cO cD dO dD : Nat) (w : World) (ha : SmallT a) (hb : SmallT b) (h1 : IsTree w aO aD a) (h2 : IsTree w bO bD b) :
    Calls Tryz.prog 49 #[trV a aO aD cO cD, trV b bO bD dO dD] w fun e w' => e = .returned (.bool (sameT a b)) ∧ Below w.heap.size w w' := by
  unfold trV
  obtain ⟨sa, outa, dela⟩ := a
  obtain ⟨sb, outb, delb⟩ := b
  obtain ⟨oa, ra, da⟩ := ha
  obtain ⟨ob, rb, db⟩ := hb
  simp only at oa ra da ob rb db
  obtain ⟨w1, hw1⟩ : ∃ w1 : World, (w.alloc (.cells #[.int .i64 sa, .slice aO outa.length cO, .slice aD dela.length cD] 61)).alloc (.cells #[.int .i64 sb, .slice bO outb.length dO, .slice bD delb.length dD] 61) = w1 := ⟨_, rfl⟩
  have s0 : w1.cell? ⟨w.heap.size, 0, none⟩ = some (.int .i64 sa) := by rw [← hw1]; simp [go_sem]
  have s1 : w1.cell? ⟨w.heap.size, 1, none⟩ = some (.slice aO outa.length cO) := by rw [← hw1]; simp [go_sem]
  have s2 : w1.cell? ⟨w.heap.size, 2, none⟩ = some (.slice aD dela.length cD) := by rw [← hw1]; simp [go_sem]
  have t0 : w1.cell? ⟨w.heap.size + 1, 0, none⟩ = some (.int .i64 sb) := by rw [← hw1]; simp [go_sem]
  have t1 : w1.cell? ⟨w.heap.size + 1, 1, none⟩ = some (.slice bO outb.length dO) := by rw [← hw1]; simp [go_sem]
  have t2 : w1.cell? ⟨w.heap.size + 1, 2, none⟩ = some (.slice bD delb.length dD) := by rw [← hw1]; simp [go_sem]
  have sz1 : w.heap.size + 1 < w1.heap.size := by rw [← hw1]; simp
  have BW0 : Hid (Below w.heap.size w w1) := by rw [Hid, ← hw1]; exact ((Below.refl _ _).alloc (Nat.le_refl _) _).alloc (by simp) _
  have A1 := Lib.hid (h1.below (Nat.le_refl _) BW0.out)
  have B1 := Lib.hid (h2.below (Nat.le_refl _) BW0.out)
  have HW1 := Lib.hid hw1
  have RA := Lib.hid ra
  have RB := Lib.hid rb
  have KC : Hid (∀ w', Below w1.heap.size w1 w' → (w'.cell? ⟨w.heap.size, 0, none⟩ = some (.int .i64 sa) ∧ w'.cell? ⟨w.heap.size, 1, none⟩ = some (.slice aO outa.length cO) ∧ w'.cell? ⟨w.heap.size, 2, none⟩ = some (.slice aD dela.length cD)) ∧
      (w'.cell? ⟨w.heap.size + 1, 0, none⟩ = some (.int .i64 sb) ∧ w'.cell? ⟨w.heap.size + 1, 1, none⟩ = some (.slice bO outb.length dO) ∧ w'.cell? ⟨w.heap.size + 1, 2, none⟩ = some (.slice bD delb.length dD)) ∧ Below w.heap.size w w') :=
    fun w' hb => ⟨⟨(hb.cell (by show w.heap.size < _; omega)).trans s0, (hb.cell (by show w.heap.size < _; omega)).trans s1, (hb.cell (by show w.heap.size < _; omega)).trans s2⟩, ⟨(hb.cell (by exact sz1)).trans t0, (hb.cell (by exact sz1)).trans t1, (hb.cell (by exact sz1)).trans t2⟩, BW0.out.trans (hb.mono (by omega))⟩
  have NO : Hid (∀ w', Below w.heap.size w w' → ¬ (sa = sb ∧ outa = outb ∧ dela = delb) → (Ending.returned (.bool false) = .returned (.bool (sameT ⟨sa, outa, dela⟩ ⟨sb, outb, delb⟩)) ∧ Below w.heap.size w w')) := fun w' h1 h2 => ⟨by unfold sameT; rw [decide_eq_false h2], h1⟩
  clear h1 h2 hw1 ra rb
  have q0 : (sa != sb) = !(sa == sb) := rfl
  cases e0 : (sa == sb) with
  | false =>
    have N := Lib.hid (NO.out w1 BW0.out (fun h => by rw [h.1] at e0; simp at e0))
    rw [e0] at q0
    go_enter Tryz.func49, Tryz.ntmps49
    go_wp2_with fail
    rw [HW1.out]
    go_wp2_with fail
    go_ret
    exact N.out
  | true =>
    have E0 : Hid (sa = sb) := by rw [Hid]; simpa using e0
    rw [e0] at q0
    by_cases e1 : outa.length = outb.length
    · by_cases e2 : dela.length = delb.length
      · have q1 : ((outa.length : Int) != (outb.length : Int)) = false := by simp [e1]
        have q2 : ((dela.length : Int) != (delb.length : Int)) = false := by simp [e2]
        have E1 := Lib.hid e1
        have E2 := Lib.hid e2
        clear e1 e2
        go_enter Tryz.func49, Tryz.ntmps49
        go_wp2_with fail
        rw [HW1.out]
        clear q0 q1 q2 e0
        go_wp2_with fail
        go_loopw [5] (fun i wr => RelS1 ⟨sa, outa, dela⟩ ⟨sb, outb, delb⟩ w1 i wr) (fun i _ => outa.length - (RowKit.intOf i).toNat)
        case atStart => exact ⟨0, Nat.zero_le _, rfl, rfl, Below.refl _ _⟩
        case round =>
          clear s0 s1 s2 t0 t1 t2
          obtain ⟨k, hk, rfl, heq, bel⟩ := hrel
          simp only at hk heq
          have HEQ := Lib.hid heq
          have BE := Lib.hid bel
          obtain ⟨⟨s0, s1, s2⟩, ⟨t0, t1, t2⟩, bw⟩ := KC.out wr bel
          have BW := Lib.hid bw
          clear heq bw
          by_cases hkr : k < outa.length
          · have hkr2 : k < outb.length := by have := E1.out; omega
            obtain ⟨bo, oo, ar, capr, hao, hbo, hmr, hrr, cr0⟩ := A1.out.out.at_ k hkr
            obtain ⟨bo2, oo2, ar2, capr2, hao2, hbo2, hmr2, hrr2, cr2⟩ := B1.out.out.at_ k hkr2
            have ST : Hid (outa.getD k [] = outb.getD k [] → outa.take (k + 1) = outb.take (k + 1)) := fun e => take_eq_snocT ([] : List Int) HEQ.out hkr hkr2 e
            have NE : Hid (outa.getD k [] ≠ outb.getD k [] → ¬ (sa = sb ∧ outa = outb ∧ dela = delb)) := fun h e => h (by rw [e.2.1])
            have rl1 := RA.out _ hmr
            have rl2 := RB.out _ hmr2
            have RR1 := Lib.hid hrr
            have RR2 := Lib.hid hrr2
            have KR : Hid (∀ w', Below w1.heap.size w1 w' → w'.cell? ⟨bo, oo + k, none⟩ = some (.slice ar (outa.getD k []).length capr) ∧ w'.cell? ⟨bo2, oo2 + k, none⟩ = some (.slice ar2 (outb.getD k []).length capr2)) :=
              fun w' hb => ⟨(hb.cell (by exact hbo)).trans cr0, (hb.cell (by exact hbo2)).trans cr2⟩
            obtain ⟨cr0', cr2'⟩ := KR.out wr bel
            generalize outa.getD k [] = r1 at *
            generalize outb.getD k [] = r2 at *
            subst hao
            subst hao2
            have ki : (k : Int) < (outa.length : Int) := by omega
            have ki2 : (k : Int) < (outb.length : Int) := by omega
            clear hmr hmr2 hrr hrr2 bel cr0 cr2
            by_cases e3 : r1.length = r2.length
            · have q3 : ((r1.length : Int) != (r2.length : Int)) = false := by simp [e3]
              have E3 := Lib.hid e3
              clear e3
              go_wp2_with fail
              go_quiet (fail)
              clear q3
              go_wp2_with fail
              go_loopw [6] (fun i wq => RelS2 r1 r2 w1 i wq) (fun i _ => r1.length - (RowKit.intOf i).toNat)
              case atStart => exact ⟨0, Nat.zero_le _, rfl, rfl, below_drewN BE.out _⟩
              case round =>
                clear s0 s1 s2 t0 t1 t2 cr0' cr2'
                obtain ⟨j, hj, rfl, heqj, belj⟩ := hrel
                have HEJ := Lib.hid heqj
                have BJ := Lib.hid belj
                obtain ⟨⟨s0, s1, s2⟩, ⟨t0, t1, t2⟩, bwj⟩ := KC.out _ belj
                obtain ⟨cr0, cr2⟩ := KR.out _ belj
                have BWJ := Lib.hid bwj
                clear heqj bwj
                by_cases hjr : j < r1.length
                · have hjr2 : j < r2.length := by have := E3.out; omega
                  obtain ⟨b1, o1, ha1, hb1, hm1, e1⟩ := int_at RR1.out j hjr
                  obtain ⟨b2, o2, ha2, hb2, hm2, e2⟩ := int_at RR2.out j hjr2
                  have c1 := (belj.cell (p := ⟨b1, o1 + j, none⟩) hb1).trans e1
                  have c2 := (belj.cell (p := ⟨b2, o2 + j, none⟩) hb2).trans e2
                  have SJ : Hid (r1.getD j 0 = r2.getD j 0 → r1.take (j + 1) = r2.take (j + 1)) := fun e => take_eq_snocT (0 : Int) HEJ.out hjr hjr2 e
                  have NJ : Hid (r1.getD j 0 ≠ r2.getD j 0 → r1 ≠ r2) := fun h e => h (by rw [e])
                  generalize r1.getD j 0 = x at *
                  generalize r2.getD j 0 = y at *
                  subst ha1
                  subst ha2
                  have ji : (j : Int) < (r1.length : Int) := by omega
                  have ji2 : (j : Int) < (r2.length : Int) := by omega
                  clear hm1 hm2 e1 e2 belj
                  cases hq : x != y with
                  | false =>
                    have he : x = y := by simpa using hq
                    have R : Hid (∀ q, RelS2 r1 r2 w1 (.int .i64 ((j + 1 : Nat) : Int)) (World.drewN ‹World› q)) := fun q => ⟨j + 1, by omega, rfl, SJ.out he, below_drewN BJ.out q⟩
                    clear he SJ NJ
                    go_wp2_with fail
                    go_quiet (fail)
                    clear hq
                    go_wp2_with fail
                    exact ⟨by simpa using R.out _, by simp [RowKit.intOf]; omega⟩
                  | true =>
                    have he : x ≠ y := by simpa using hq
                    have N : Hid (∀ n, _) := fun n => NO.out (World.drewN _ n) (below_drewN BWJ.out n) (NE.out (NJ.out he))
                    clear he SJ NJ
                    go_wp2_with fail
                    go_quiet (fail)
                    clear hq
                    go_wp2_with fail
                    go_ret
                    exact N.out _
                · obtain rfl : j = r1.length := by omega
                  have he : r1 = r2 := by
                    have := HEJ.out
                    rw [List.take_length, E3.out, List.take_length] at this
                    exact this
                  have R : Hid (RelS1 ⟨sa, outa, dela⟩ ⟨sb, outb, delb⟩ w1 (.int .i64 ((k + 1 : Nat) : Int)) _) := ⟨k + 1, by show k + 1 ≤ outa.length; omega, rfl, ST.out he, BJ.out⟩
                  clear he belj
                  go_wp2_with fail
                  exact ⟨by simpa using R.out, by simp [RowKit.intOf]; omega⟩
            · have q3 : ((r1.length : Int) != (r2.length : Int)) = true := by simp; omega
              have N : Hid (∀ n, _) := fun n => NO.out (wr.drewN n) (below_drewN BW.out n) (NE.out (fun e => e3 (by rw [e])))
              clear e3 ST NE
              go_wp2_with fail
              go_quiet (fail)
              go_wp2_with fail
              go_ret
              exact N.out _
          · obtain rfl : k = outa.length := by omega
            have HO : Hid (outa = outb) := by
              have := HEQ.out
              rw [List.take_length, E1.out, List.take_length] at this
              exact this
            clear bel
            go_wp2_with fail
            go_loopw [7] (fun i wq => RelS2 dela delb w1 i wq) (fun i _ => dela.length - (RowKit.intOf i).toNat)
            case atStart => exact ⟨0, Nat.zero_le _, rfl, rfl, BE.out⟩
            case round =>
              clear s0 s1 s2 t0 t1 t2
              obtain ⟨j, hj, rfl, heqj, belj⟩ := hrel
              have HEJ := Lib.hid heqj
              have BJ := Lib.hid belj
              obtain ⟨⟨s0, s1, s2⟩, ⟨t0, t1, t2⟩, bwj⟩ := KC.out _ belj
              have BWJ := Lib.hid bwj
              clear heqj bwj
              by_cases hjr : j < dela.length
              · have hjr2 : j < delb.length := by have := E2.out; omega
                obtain ⟨b1, o1, ha1, hb1, hm1, e1⟩ := int_at A1.out.del j hjr
                obtain ⟨b2, o2, ha2, hb2, hm2, e2⟩ := int_at B1.out.del j hjr2
                have c1 := (belj.cell (p := ⟨b1, o1 + j, none⟩) hb1).trans e1
                have c2 := (belj.cell (p := ⟨b2, o2 + j, none⟩) hb2).trans e2
                have SJ : Hid (dela.getD j 0 = delb.getD j 0 → dela.take (j + 1) = delb.take (j + 1)) := fun e => take_eq_snocT (0 : Int) HEJ.out hjr hjr2 e
                have NJ : Hid (dela.getD j 0 ≠ delb.getD j 0 → ¬ (sa = sb ∧ outa = outb ∧ dela = delb)) := fun h e => h (by rw [e.2.2])
                generalize dela.getD j 0 = x at *
                generalize delb.getD j 0 = y at *
                subst ha1
                subst ha2
                have ji : (j : Int) < (dela.length : Int) := by omega
                have ji2 : (j : Int) < (delb.length : Int) := by omega
                clear hm1 hm2 e1 e2 belj
                cases hq : x != y with
                | false =>
                  have he : x = y := by simpa using hq
                  have R : Hid (∀ q, RelS2 dela delb w1 (.int .i64 ((j + 1 : Nat) : Int)) (World.drewN _ q)) := fun q => ⟨j + 1, by omega, rfl, SJ.out he, below_drewN BJ.out q⟩
                  clear he SJ NJ
                  go_wp2_with fail
                  go_quiet (fail)
                  clear hq
                  go_wp2_with fail
                  exact ⟨by simpa using R.out _, by simp [RowKit.intOf]; omega⟩
                | true =>
                  have he : x ≠ y := by simpa using hq
                  have N : Hid (∀ n, _) := fun n => NO.out (World.drewN _ n) (below_drewN BWJ.out n) (NJ.out he)
                  clear he SJ NJ
                  go_wp2_with fail
                  go_quiet (fail)
                  clear hq
                  go_wp2_with fail
                  go_ret
                  exact N.out _
              · obtain rfl : j = dela.length := by omega
                have he : dela = delb := by
                  have := HEJ.out
                  rw [List.take_length, E2.out, List.take_length] at this
                  exact this
                have FIN : Hid (sameT ⟨sa, outa, dela⟩ ⟨sb, outb, delb⟩ = true) := decide_eq_true ⟨E0.out, HO.out, he⟩
                clear he belj
                go_wp2_with fail
                go_ret
                exact ⟨by rw [FIN.out]; rfl, BWJ.out⟩
      · have q1 : ((outa.length : Int) != (outb.length : Int)) = false := by simp [e1]
        have q2 : ((dela.length : Int) != (delb.length : Int)) = true := by simp; omega
        have N := Lib.hid (NO.out w1 BW0.out (fun h => e2 (by rw [h.2.2])))
        clear e1 e2
        go_enter Tryz.func49, Tryz.ntmps49
        go_wp2_with fail
        rw [HW1.out]
        go_wp2_with fail
        go_ret
        exact N.out
    · have q1 : ((outa.length : Int) != (outb.length : Int)) = true := by simp; omega
      have N := Lib.hid (NO.out w1 BW0.out (fun h => e1 (by rw [h.2.1])))
      clear e1
      go_enter Tryz.func49, Tryz.ntmps49
      go_wp2_with fail
      rw [HW1.out]
      go_wp2_with fail
      go_ret
      exact N.out
end Go.Proofs.YtljojgpjgjfddaaGreat

/- The contracts of the reference's other, Other and Fits at a valid plan. -/
namespace Go.Proofs.YtljojgpjgjfddaaGreat
open Go.RowKit Go.Maps
set_option linter.unusedVariables false
set_option linter.unusedSimpArgs false

def otherV (x : Cb) (n : Int) : Int := if x.a = n then x.b else if x.b = n then x.a else -1
set_option maxHeartbeats 1000000 in
theorem other17c_any (x : Cb) (n : Int) (w : World) :
    Calls Tryz.prog 68 #[.agg #[.int .i64 x.a, .int .i64 x.ap, .int .i64 x.b, .int .i64 x.bp, .int .i64 x.dl, .int .i64 x.cp], .int .i64 n] w fun e w' => e = .returned (.int .i64 (otherV x n)) ∧ Below w.heap.size w w' := by
  obtain ⟨xa, xap, xb, xbp, xdl, xcp⟩ := x
  simp only
  have B : Hid (Below w.heap.size w (w.alloc (.cells #[.int .i64 xa, .int .i64 xap, .int .i64 xb, .int .i64 xbp, .int .i64 xdl, .int .i64 xcp] 85))) := (Below.refl _ _).alloc (Nat.le_refl _) _
  cases h1 : xa == n with
  | true =>
    have F : Hid (otherV ⟨xa, xap, xb, xbp, xdl, xcp⟩ n = xb) := by rw [Hid]; unfold otherV; rw [if_pos (by simpa using h1)]
    go_enter Tryz.func68, Tryz.ntmps68
    go_wp2_with fail
    go_ret
    exact ⟨by rw [F.out]; rfl, B.out⟩
  | false =>
    cases h2 : xb == n with
    | true =>
      have F : Hid (otherV ⟨xa, xap, xb, xbp, xdl, xcp⟩ n = xa) := by rw [Hid]; unfold otherV; rw [if_neg (by simpa using h1), if_pos (by simpa using h2)]
      go_enter Tryz.func68, Tryz.ntmps68
      go_wp2_with fail
      go_ret
      exact ⟨by rw [F.out]; rfl, B.out⟩
    | false =>
      have F : Hid (otherV ⟨xa, xap, xb, xbp, xdl, xcp⟩ n = -1) := by rw [Hid]; unfold otherV; rw [if_neg (by simpa using h1), if_neg (by simpa using h2)]
      go_enter Tryz.func68, Tryz.ntmps68
      go_wp2_with fail
      go_ret
      exact ⟨by rw [F.out]; rfl, B.out⟩
set_option maxHeartbeats 1000000 in
theorem Other17_any (cs : List Cb) (An Ac : Option Addr) (ln cn cc k : Nat) (n : Int) (w : World) (hl : cs.length ≤ 1000000) (h : IsRec 6 cC cb0 w Ac cs.length cs) (hk : k < cs.length) :
    Calls Tryz.prog 67 #[.agg #[.slice An ln cn, .slice Ac cs.length cc], .int .i64 k, .int .i64 n] w fun e w' => e = .returned (.int .i64 (otherV (cs.getD k cb0) n)) ∧ Below w.heap.size w w' := by
  obtain ⟨bb, off, ha, hbb, hmem, c0, c1, c2, c3, c4, c5⟩ := cable_at (h.alloc (.cells #[.slice An ln cn, .slice Ac cs.length cc] 25)) k hk
  have k1 : (k : Int) < (cs.length : Int) := by omega
  have BW : Hid (Below w.heap.size w (w.alloc (.cells #[.slice An ln cn, .slice Ac cs.length cc] 25))) := (Below.refl _ _).alloc (Nat.le_refl _) _
  generalize cs.getD k cb0 = x at *
  subst ha
  have HC := Lib.hid (other17c_any x n (w.alloc (.cells #[.slice An ln cn, .slice (some ⟨bb, off, none⟩) cs.length cc] 25)))
  clear hmem h
  go_enter Tryz.func67, Tryz.ntmps67
  go_wp2_with fail
  refine HC.out.mono ?_
  rintro e w2 ⟨rfl, bel⟩
  have F := Lib.hid (BW.out.trans (bel.mono (by simp)))
  clear bel
  go_wp2_with fail
  go_ret
  exact ⟨rfl, F.out⟩
/-- Cable x leads from node i to a node one level up, as the reference asks it. -/
def flB (lv : List Int) (i : Nat) (x : Cb) : Bool := decide (0 ≤ otherV x (i : Int)) && (lvAt lv (otherV x (i : Int)) == lv.getD i 0 - 1)
def foundK (cs : List Cb) (lv : List Int) (k i : Nat) : Bool := decide (lv.getD i 0 < 1) || (cs.take k).any (flB lv i)
theorem foundK_zero (cs : List Cb) (lv : List Int) (i : Nat) : foundK cs lv 0 i = decide (lv.getD i 0 < 1) := by unfold foundK; simp
theorem foundK_succ (cs : List Cb) (lv : List Int) {k : Nat} (i : Nat) (h : k < cs.length) : foundK cs lv (k + 1) i = (foundK cs lv k i || flB lv i (cs.getD k cb0)) := by
  unfold foundK; rw [take_snocG cb0 cs k h, List.any_append]; simp [Bool.or_assoc]
theorem valid_abF {ns : List Nd} {cs : List Cb} (h : validP ⟨ns, cs⟩ = 0) : ∀ y ∈ cs, y.a ≠ y.b := by
  intro y hy
  have hp : (cs.all fun x => decide (x.a ≠ x.b)) = true := by
    cases hq : (cs.all fun x => decide (x.a ≠ x.b)) with
    | true => rfl
    | false =>
      unfold validP at h
      simp only [hq] at h
      split at h
      · cases h
      · split at h
        · cases h
        · split at h
          · cases h
          · split at h
            · cases h
            · cases h
  have := List.all_eq_true.1 hp y hy
  simpa using this
theorem fl_leads {ns : List Nd} {cs : List Cb} {lv : List Int} (hv : validP ⟨ns, cs⟩ = 0) {x : Cb} (hx : x ∈ cs) (i : Nat) : flB lv i x = leads lv i x := by
  have hab := valid_abF hv x hx
  obtain ⟨⟨a0, _⟩, b0, _⟩ := cab_node hv hx
  obtain ⟨xa, xap, xb, xbp, xd, xc⟩ := x
  simp only at hab a0 b0
  unfold flB leads otherV lvAt
  simp only
  by_cases h1 : xa = (i : Int)
  · subst h1
    rw [if_pos rfl, decide_eq_true b0]
    simp only [Bool.true_and, Int.toNat_natCast]
    have nb : ¬ xb = (i : Int) := fun e => hab e.symm
    have e1 : (xb == (i : Int)) = false := by simpa using nb
    rw [e1]
    by_cases q : lv.getD xb.toNat 0 = lv.getD i 0 - 1
    · rw [if_neg (by omega), if_pos q, beq_self_eq_true, beq_iff_eq]; exact q
    · rw [if_neg q, ite_self, beq_eq_false_iff_ne]; exact q
  · rw [if_neg h1]
    have e0 : (xa == (i : Int)) = false := by simpa using h1
    by_cases h2 : xb = (i : Int)
    · subst h2
      rw [if_pos rfl, decide_eq_true a0, e0]
      simp only [Bool.true_and, Int.toNat_natCast]
      by_cases q : lv.getD xa.toNat 0 = lv.getD i 0 - 1
      · rw [if_pos q, beq_self_eq_true, beq_iff_eq]; exact q
      · rw [if_neg q, ite_self, beq_eq_false_iff_ne]; exact q
    · rw [if_neg h2]
      have e3 : (xb == (i : Int)) = false := by simpa using h2
      rw [e0, e3]
      simp
theorem found_node {ns : List Nd} {cs : List Cb} {lv : List Int} (hv : validP ⟨ns, cs⟩ = 0) (i : Nat) : foundK cs lv cs.length i = nodeOk cs lv i := by
  unfold foundK nodeOk ledTo
  rw [List.take_length]
  have e : cs.any (flB lv i) = cs.any (leads lv i) := by
    rw [Bool.eq_iff_iff, List.any_eq_true, List.any_eq_true]
    constructor
    · rintro ⟨x, hx, h⟩; exact ⟨x, hx, by rw [← fl_leads hv hx]; exact h⟩
    · rintro ⟨x, hx, h⟩; exact ⟨x, hx, by rw [fl_leads hv hx]; exact h⟩
  rw [e]
  congr 1
  rw [Bool.eq_iff_iff]; simp; omega
theorem otherV_range {ns : List Nd} {cs : List Cb} (hv : validP ⟨ns, cs⟩ = 0) {x : Cb} (hx : x ∈ cs) (n : Int) : otherV x n = -1 ∨ ∃ m : Nat, otherV x n = m ∧ m < ns.length := by
  obtain ⟨⟨a0, a1⟩, b0, b1⟩ := cab_node hv hx
  unfold otherV
  split
  · exact .inr ⟨x.b.toNat, by omega, by omega⟩
  · split
    · exact .inr ⟨x.a.toNat, by omega, by omega⟩
    · exact .inl rfl
def RelF1 (cs : List Cb) (lv : List Int) (n : Nat) (w1 : World) (r i : Value) (wr : World) : Prop :=
  ∃ k : Nat, k ≤ lv.length ∧ i = .int .i64 k ∧ r = .int .i64 (((lv.take k).countP (· == 0) : Nat) : Int) ∧ (∀ x ∈ lv.take k, levelOk n x = true) ∧ (List.range k).all (nodeOk cs lv) = true ∧ Below w1.heap.size w1 wr
def RelF2 (cs : List Cb) (lv : List Int) (i : Nat) (w1 : World) (f j : Value) (wr : World) : Prop :=
  ∃ k : Nat, k ≤ cs.length ∧ j = .int .i64 k ∧ f = .bool (foundK cs lv k i) ∧ Below w1.heap.size w1 wr
set_option maxRecDepth 100000 in
set_option maxHeartbeats 4000000 in
theorem fits17_any (ns : List Nd) (cs : List Cb) (lv : List Int) (An Ac Al : Option Addr) (cn cc cl : Nat) (w : World) (hv : validP ⟨ns, cs⟩ = 0) (hlv : lv.length ≤ 1000000) (hwl : WfI lv) (h : IsPlan w An Ac ⟨ns, cs⟩) (h2 : IsRec 1 cI 0 w Al lv.length lv) :
    Calls Tryz.prog 23 #[.agg #[.slice An ns.length cn, .slice Ac cs.length cc], .slice Al lv.length cl] w fun e w' => e = .returned (.bool (orderB ⟨ns, cs⟩ lv)) ∧ Below w.heap.size w w' := by
  obtain ⟨n16, c32⟩ := valid_sizes hv
  obtain ⟨w1, hw1⟩ : ∃ w1 : World, w.alloc (.cells #[.slice An ns.length cn, .slice Ac cs.length cc] 25) = w1 := ⟨_, rfl⟩
  have s0 : w1.cell? ⟨w.heap.size, 0, none⟩ = some (.slice An ns.length cn) := by rw [← hw1]; simp [go_sem]
  have s1 : w1.cell? ⟨w.heap.size, 1, none⟩ = some (.slice Ac cs.length cc) := by rw [← hw1]; simp [go_sem]
  have sz1 : w.heap.size < w1.heap.size := by rw [← hw1]; simp
  have BW0 : Hid (Below w.heap.size w w1) := by rw [Hid, ← hw1]; exact (Below.refl _ _).alloc (Nat.le_refl _) _
  have H1 := Lib.hid (h.below (Nat.le_refl _) BW0.out)
  have L1 := Lib.hid (h2.below (Nat.le_refl _) BW0.out)
  have HW1 := Lib.hid hw1
  have HV := Lib.hid hv
  have HWL := Lib.hid hwl
  have KC : Hid (∀ w', Below w1.heap.size w1 w' → w'.cell? ⟨w.heap.size, 0, none⟩ = some (.slice An ns.length cn) ∧ w'.cell? ⟨w.heap.size, 1, none⟩ = some (.slice Ac cs.length cc) ∧ Below w.heap.size w w') :=
    fun w' hb => ⟨(hb.cell (by exact sz1)).trans s0, (hb.cell (by exact sz1)).trans s1, BW0.out.trans (hb.mono (by omega))⟩
  clear h h2 hw1 hv hwl
  by_cases hll : lv.length = ns.length
  · have q1 : ((lv.length : Int) != (ns.length : Int)) = false := by simp [hll]
    have HLL := Lib.hid hll
    have hn16 : lv.length ≤ 16 := by omega
    clear hll
    go_enter Tryz.func23, Tryz.ntmps23
    go_wp2_with fail
    rw [HW1.out]
    go_wp2_with fail
    clear q1
    go_loopw [5, 6] (fun r i wr => RelF1 cs lv ns.length w1 r i wr) (fun _ i _ => lv.length - (RowKit.intOf i).toNat)
    case atStart => exact ⟨0, Nat.zero_le _, rfl, rfl, by simp, rfl, Below.refl _ _⟩
    case round =>
      clear s0 s1
      obtain ⟨k, hk, rfl, rfl, hall, hno, bel⟩ := hrel
      have HA := Lib.hid hall
      have HN := Lib.hid hno
      have BE := Lib.hid bel
      have LR := Lib.hid (L1.out.below (Nat.le_refl _) bel)
      obtain ⟨s0, s1, bw⟩ := KC.out wr bel
      have BW := Lib.hid bw
      clear hall hno bel bw
      have hcl : (lv.take k).countP (· == 0) ≤ 16 := Nat.le_trans List.countP_le_length (by rw [List.length_take]; omega)
      by_cases hkr : k < lv.length
      · obtain ⟨b1, o1, ha1, hb1, hm1, e1⟩ := int_at LR.out k hkr
        have CS := Lib.hid (countP_snoc lv k hkr)
        have HS : Hid (levelOk ns.length (lv.getD k 0) = true → ∀ x ∈ lv.take (k + 1), levelOk ns.length x = true) := fun h => mem_take_snoc (d := 0) (P := fun x => levelOk ns.length x = true) hkr HA.out h
        have HB : Hid (levelOk ns.length (lv.getD k 0) = false → lv.all (levelOk ns.length) = false) := fun h => by rw [List.all_eq_false]; exact ⟨_, hm1, by rw [h]; simp⟩
        have AB : Hid (nodeOk cs lv k = false → (List.range lv.length).all (nodeOk cs lv) = false) := fun h => by rw [List.all_eq_false]; exact ⟨k, List.mem_range.2 hkr, by rw [h]; simp⟩
        have AS : Hid ((List.range (k + 1)).all (nodeOk cs lv) = ((List.range k).all (nodeOk cs lv) && nodeOk cs lv k)) := by rw [Hid, List.range_succ, List.all_append]; simp
        have F0 : Hid (foundK cs lv 0 k = decide (lv.getD k 0 < 1)) := foundK_zero cs lv k
        have FL : Hid (∀ x, flB lv k x = (decide (0 ≤ otherV x (k : Int)) && (lvAt lv (otherV x (k : Int)) == lv.getD k 0 - 1))) := fun x => rfl
        have FN := Lib.hid (found_node (lv := lv) HV.out k)
        have wfx := HWL.out _ hm1
        have EK : Hid (∀ w', Below w1.heap.size w1 w' → ∃ b off, Al = some ⟨b, off, none⟩ ∧ w'.cell? ⟨b, off + k, none⟩ = some (.int .i64 (lv.getD k 0))) := fun w' hb => by
          obtain ⟨b, o, ha, _, _, e⟩ := int_at (L1.out.below (Nat.le_refl _) hb) k hkr
          exact ⟨b, o, ha, e⟩
        have hlen := HLL.out
        have kl : (k : Int) < (lv.length : Int) := by omega
        generalize lv.getD k 0 = x at *
        subst ha1
        clear hm1
        generalize hcc : (lv.take k).countP (· == 0) = cnt at *
        have HCC := Lib.hid hcc
        clear hcc
        cases hlo : levelOk ns.length x with
        | false =>
          have FIN := Lib.hid (ob3 (p := ⟨ns, cs⟩) (lv := lv) (HB.out hlo))
          have hb : x < -1 ∨ (-1 ≤ x ∧ (lv.length : Int) ≤ x) := by
            simp [levelOk] at hlo
            rcases Int.lt_or_le x (-1) with h | h
            · exact .inl h
            · exact .inr ⟨h, by have := hlo h; omega⟩
          clear hlo HB HS CS AB AS F0 FL FN hlen
          rcases hb with h1 | ⟨h1, h2⟩
          all_goals
            go_wp2_with fail
            go_ret
            exact ⟨by rw [FIN.out]; rfl, BW.out⟩
        | true =>
          have hb : -1 ≤ x ∧ x < lv.length := by rw [hlen]; simpa [levelOk] using hlo
          obtain ⟨x1, x2⟩ := hb
          have HS2 := Lib.hid (HS.out hlo)
          obtain ⟨rv, hrv⟩ : ∃ rv : Int, rv = if x == 0 then (cnt : Int) + 1 else (cnt : Int) := ⟨_, rfl⟩
          have R : Hid (nodeOk cs lv k = true → ∀ w', Below w1.heap.size w1 w' → RelF1 cs lv ns.length w1 (.int .i64 rv) (.int .i64 ((k + 1 : Nat) : Int)) w') := fun hnk w' hb => by
            refine ⟨k + 1, by omega, rfl, ?_, HS2.out, by rw [AS.out, HN.out, hnk]; rfl, hb⟩
            rw [CS.out, hrv]
            split <;> simp
          have BAD : Hid (nodeOk cs lv k = false → orderB ⟨ns, cs⟩ lv = false) := fun h => ob5 (AB.out h)
          have xw : IntKind.i64.wrap (x - 1) = x - 1 := IntWalk.i64_in _ (by omega)
          clear hlo HB HS CS AB AS HCC hlen
          cases hz : x == 0
          all_goals
            rw [hz] at hrv
            simp only [if_true, Bool.false_eq_true, if_false] at hrv
            subst hrv
            go_wp2_with fail
            go_loopw [7, 8] (fun f j wq => RelF2 cs lv k w1 f j wq) (fun _ j _ => cs.length - (RowKit.intOf j).toNat)
            case atStart => exact ⟨0, Nat.zero_le _, rfl, by rw [F0.out], BE.out⟩
            case round =>
              clear s0 s1 e1
              obtain ⟨j, hj, rfl, rfl, belj⟩ := hrel
              have BJ := Lib.hid belj
              obtain ⟨s0, s1, bwj⟩ := KC.out _ belj
              have BWJ := Lib.hid bwj
              have CR := Lib.hid ((H1.out.below (Nat.le_refl _) belj).2)
              clear belj bwj
              by_cases hjr : j < cs.length
              · obtain ⟨bc, oc, hac, hbc, hmc, c0, c1, c2, c3, c4, c5⟩ := cable_at CR.out j hjr
                have FS := Lib.hid (foundK_succ cs lv k hjr)
                rcases otherV_range HV.out hmc (k : Int) with ho | ⟨m, ho, hmn⟩
                · have FX : Hid (flB lv k (cs.getD j cb0) = false) := by rw [Hid, FL.out, ho]; rfl
                  have FF : Hid (foundK cs lv (j + 1) k = foundK cs lv j k) := by rw [Hid, FS.out, FX.out, Bool.or_false]
                  have OC := Lib.hid (fun w' => other17c_any (cs.getD j cb0) (k : Int) w')
                  rw [ho] at OC
                  generalize cs.getD j cb0 = y at *
                  subst hac
                  have jl : (j : Int) < (cs.length : Int) := by omega
                  generalize foundK cs lv j k = fo at *
                  clear hmc FS FX
                  go_wp2_with fail
                  refine (OC.out _).mono ?_
                  rintro e w3 ⟨rfl, bel3⟩
                  have R2 : Hid (∀ q, RelF2 cs lv k w1 (.bool fo) (.int .i64 ((j + 1 : Nat) : Int)) (w3.drewN q)) := fun q => ⟨j + 1, by omega, rfl, by rw [FF.out], below_drewN (BJ.out.trans (bel3.mono BJ.out.size)) q⟩
                  clear bel3 c0 c1 c2 c3 c4 c5 s0 s1
                  go_wp2_with fail
                  go_quiet (fail)
                  go_wp2_with fail
                  exact ⟨by simpa using R2.out _, by simp [RowKit.intOf]; omega⟩
                · have FX : Hid (flB lv k (cs.getD j cb0) = (lv.getD m 0 == x - 1)) := by rw [Hid, FL.out, ho, decide_eq_true (by omega : (0 : Int) ≤ (m : Int))]; unfold lvAt; rw [Int.toNat_natCast]; rfl
                  have FF : Hid (foundK cs lv (j + 1) k = (foundK cs lv j k || (lv.getD m 0 == x - 1))) := by rw [Hid, FS.out, FX.out]
                  have OC := Lib.hid (fun w' => other17c_any (cs.getD j cb0) (k : Int) w')
                  rw [ho] at OC
                  generalize cs.getD j cb0 = y at *
                  subst hac
                  have jl : (j : Int) < (cs.length : Int) := by omega
                  generalize foundK cs lv j k = fo at *
                  clear hmc FS FX
                  go_wp2_with fail
                  refine (OC.out _).mono ?_
                  rintro e w3 ⟨rfl, bel3⟩
                  have B3 : Hid (Below w1.heap.size w1 w3) := BJ.out.trans (bel3.mono BJ.out.size)
                  obtain ⟨bm, om, ham, hbm, hmm, em⟩ := int_at (L1.out.below (Nat.le_refl _) B3.out) m (by have := HLL.out; omega)
                  obtain ⟨bk, ok, hak, ek⟩ := EK.out w3 B3.out
                  injection hak with hak
                  injection hak with hak1 hak2
                  subst hak1
                  subst hak2
                  injection ham with ham
                  injection ham with ham1 ham2
                  subst ham1
                  subst ham2
                  generalize lv.getD m 0 = z at *
                  have ml : (m : Int) < (lv.length : Int) := by have := HLL.out; omega
                  have m0 : (0 : Int) ≤ (m : Int) := by omega
                  clear hmm bel3 c0 c1 c2 c3 c4 c5 s0 s1 HW1
                  cases hq : z == x - 1
                  all_goals
                    rw [hq] at FF
                    have R2 : Hid (∀ q, RelF2 cs lv k w1 (.bool (foundK cs lv (j + 1) k)) (.int .i64 ((j + 1 : Nat) : Int)) (w3.drewN q)) := fun q => ⟨j + 1, by omega, rfl, rfl, below_drewN B3.out q⟩
                    rw [Hid, FF.out] at R2
                    clear FF
                    go_wp2_with fail
                    go_quiet (fail)
                    go_wp2_with fail
                    refine ⟨?_, by simp [RowKit.intOf]; omega⟩
                    simpa using R2 _
              · obtain rfl : j = cs.length := by omega
                rw [FN.out]
                clear CR
                cases hno : nodeOk cs lv k with
                | true =>
                  have R3 := Lib.hid (R.out hno _ BJ.out)
                  clear hno
                  go_wp2_with fail
                  exact ⟨by simpa using R3.out, by simp [RowKit.intOf]; omega⟩
                | false =>
                  have FIN := Lib.hid (BAD.out hno)
                  clear hno
                  go_wp2_with fail
                  go_ret
                  exact ⟨by rw [FIN.out]; rfl, BWJ.out⟩
      · obtain rfl : k = lv.length := by omega
        rw [List.take_length] at hcl ⊢
        have AL := Lib.hid (all_of_take HA.out)
        have FIN : Hid (orderB ⟨ns, cs⟩ lv = ((lv.countP (· == 0) : Int) == 1)) := by
          rw [Hid]
          by_cases q : lv.countP (· == 0) = 1
          · rw [ob0 HV.out HLL.out AL.out q HN.out, q]; rfl
          · rw [ob4 q]; symm; rw [beq_eq_false_iff_ne]; omega
        generalize lv.countP (· == 0) = cnt at *
        go_wp2_with fail
        go_ret
        exact ⟨by rw [FIN.out]; rfl, BW.out⟩
  · have q1 : ((lv.length : Int) != (ns.length : Int)) = true := by simp; omega
    have FIN : Hid (orderB ⟨ns, cs⟩ lv = false) := ob2 hll
    clear hll
    go_enter Tryz.func23, Tryz.ntmps23
    go_wp2_with fail
    rw [HW1.out]
    go_wp2_with fail
    go_ret
    exact ⟨by rw [FIN.out]; rfl, BW0.out⟩
end Go.Proofs.YtljojgpjgjfddaaGreat

/- The contracts of the law's own small, fits and awake. -/
namespace Go.Proofs.YtljojgpjgjfddaaGreat
open Go.RowKit Go.Maps Go.Sort Go.Shelf
set_option linter.unusedVariables false
set_option linter.unusedSimpArgs false

def smallB (ln lc lv lm : Nat) : Bool := !(decide (8 < ln) || decide (12 < lc) || decide (20 < lv) || decide (20 < lm))
def smallZ (ln lc lv lm : Nat) : Int := if smallB ln lc lv lm = true then 1 else 0
theorem small23_any (An Ac Al Am : Option Addr) (ln lc lv lm cn cc cl cm : Nat) (w : World) :
    Calls Tryz.prog 15 #[.agg #[.slice An ln cn, .slice Ac lc cc], .slice Al lv cl, .slice Am lm cm] w fun e w' => e = .returned (.int .i64 (smallZ ln lc lv lm)) ∧ w.alloc (.cells #[.slice An ln cn, .slice Ac lc cc] 25) = w' := by
  have F : Hid ((decide (8 < (ln : Int)) || decide (12 < (lc : Int)) || decide (20 < (lv : Int)) || decide (20 < (lm : Int))) = !(smallB ln lc lv lm)) := by
    have e1 : decide (8 < (ln : Int)) = decide (8 < ln) := by rw [Bool.eq_iff_iff]; simp; omega
    have e2 : decide (12 < (lc : Int)) = decide (12 < lc) := by rw [Bool.eq_iff_iff]; simp; omega
    have e3 : decide (20 < (lv : Int)) = decide (20 < lv) := by rw [Bool.eq_iff_iff]; simp; omega
    have e4 : decide (20 < (lm : Int)) = decide (20 < lm) := by rw [Bool.eq_iff_iff]; simp; omega
    rw [Hid, e1, e2, e3, e4]; unfold smallB; rw [Bool.not_not]
  have Z : Hid (∀ b, smallB ln lc lv lm = b → smallZ ln lc lv lm = if b = true then 1 else 0) := fun b h => by unfold smallZ; rw [h]
  cases q1 : decide (8 < (ln : Int)) <;> cases q2 : decide (12 < (lc : Int)) <;> cases q3 : decide (20 < (lv : Int)) <;> cases q4 : decide (20 < (lm : Int)) <;> rw [q1, q2, q3, q4] at F
  all_goals
    first
      | (have F2 : smallB ln lc lv lm = true := by have := F.out; revert this; cases smallB ln lc lv lm <;> simp
         have Z2 := Lib.hid (Z.out _ F2)
         clear F2)
      | (have F2 : smallB ln lc lv lm = false := by have := F.out; revert this; cases smallB ln lc lv lm <;> simp
         have Z2 := Lib.hid (Z.out _ F2)
         clear F2)
    clear F Z
    go_enter Tryz.func15, Tryz.ntmps15
    go_wp2_with fail
    go_ret
    refine ⟨?_, rfl⟩
    rw [Z2.out]
    rfl
set_option maxHeartbeats 1000000 in
theorem fits23_any (p : Pl) (lv : List Int) (An Ac Al : Option Addr) (cn cc cl : Nat) (w : World) (hl : p.ns.length ≤ 1000000) (hl2 : p.cs.length ≤ 1000000) (hwf : WfP p) (hlv : lv.length ≤ 1000000) (hwl : WfI lv) (h : IsPlan w An Ac p) (h2 : IsRec 1 cI 0 w Al lv.length lv) :
    Calls Tryz.prog 25 #[.agg #[.slice An p.ns.length cn, .slice Ac p.cs.length cc], .agg #[.slice Al lv.length cl]] w fun e w' => e = .returned (.bool (orderB p lv)) ∧ Below w.heap.size w w' := by
  obtain ⟨ns, cs⟩ := p
  simp only at hl hl2 ⊢
  obtain ⟨w1, hw1⟩ : ∃ w1 : World, (w.alloc (.cells #[.slice An ns.length cn, .slice Ac cs.length cc] 25)).alloc (.cells #[.slice Al lv.length cl] 30) = w1 := ⟨_, rfl⟩
  have s0 : w1.cell? ⟨w.heap.size, 0, none⟩ = some (.slice An ns.length cn) := by rw [← hw1]; simp [go_sem]
  have s1 : w1.cell? ⟨w.heap.size, 1, none⟩ = some (.slice Ac cs.length cc) := by rw [← hw1]; simp [go_sem]
  have s2 : w1.cell? ⟨w.heap.size + 1, 0, none⟩ = some (.slice Al lv.length cl) := by rw [← hw1]; simp [go_sem]
  have sz1 : w1.heap.size = w.heap.size + 2 := by rw [← hw1]; simp
  have BW0 : Hid (Below w.heap.size w w1) := by rw [Hid, ← hw1]; exact ((Below.refl _ _).alloc (Nat.le_refl _) _).alloc (by simp) _
  have H1 := Lib.hid (h.below (Nat.le_refl _) BW0.out)
  have L1 := Lib.hid (h2.below (Nat.le_refl _) BW0.out)
  have VC := Lib.hid (r14valid_any ⟨ns, cs⟩ An Ac cn cc w1 hl hl2 H1.out)
  have HW1 := Lib.hid hw1
  clear h h2 hw1 hwf
  cases hv : validP ⟨ns, cs⟩ == 0 with
  | false =>
    have FIN : Hid (orderB ⟨ns, cs⟩ lv = false) := ob1 (by simpa using hv)
    generalize validP ⟨ns, cs⟩ = z at *
    go_enter Tryz.func25, Tryz.ntmps25
    go_wp2_with fail
    rw [HW1.out]
    go_wp2_with fail
    refine VC.out.mono ?_
    rintro e w2 ⟨rfl, bel⟩
    have BF := Lib.hid (BW0.out.trans (bel.mono BW0.out.size))
    clear bel
    go_wp2_with fail
    go_ret
    exact ⟨by rw [FIN.out]; rfl, BF.out⟩
  | true =>
    have HV : Hid (validP ⟨ns, cs⟩ = 0) := by rw [Hid]; simpa using hv
    have hwl' := Lib.hid hwl
    rw [HV.out] at VC
    clear hv
    go_enter Tryz.func25, Tryz.ntmps25
    go_wp2_with fail
    rw [HW1.out]
    go_wp2_with fail
    refine VC.out.mono ?_
    rintro e w2 ⟨rfl, bel⟩
    have B2 := Lib.hid bel
    have u0 := (bel.cell (p := ⟨w.heap.size, 0, none⟩) (by show w.heap.size < _; omega)).trans s0
    have u1 := (bel.cell (p := ⟨w.heap.size, 1, none⟩) (by show w.heap.size < _; omega)).trans s1
    have u2 := (bel.cell (p := ⟨w.heap.size + 1, 0, none⟩) (by show w.heap.size + 1 < _; omega)).trans s2
    have FC := Lib.hid (fits17_any ns cs lv An Ac Al cn cc cl w2 HV.out hlv hwl'.out (H1.out.below (Nat.le_refl _) bel) (L1.out.below (Nat.le_refl _) bel))
    clear bel s0 s1 s2
    go_wp2_with fail
    refine FC.out.mono ?_
    rintro e w3 ⟨rfl, bel3⟩
    have BF : Hid (Below w.heap.size w w3) := BW0.out.trans ((B2.out.trans (bel3.mono B2.out.size)).mono BW0.out.size)
    clear bel3
    go_wp2_with fail
    go_ret
    exact ⟨rfl, BF.out⟩
def awNs : List Nd := [⟨⟨#[97]⟩, true, 2⟩, ⟨⟨#[98]⟩, true, 2⟩, ⟨⟨#[99]⟩, true, 2⟩]
def awCs : List Cb := [⟨0, 0, 1, 0, 1, 1⟩, ⟨1, 1, 2, 0, 1, 1⟩]
def awT : Tr := ⟨0, [[0], [1], []], [1, 2]⟩
theorem aw_err : tErr ⟨awNs, awCs⟩ [1, 0, 1] [2, 1] 0 = 0 := by decide +kernel
theorem aw_del : delM [2, 1] = [1, 2] := by
  unfold delM
  rw [mergeSort_of_perm_i (show List.Perm [2, 1] [1, 2] from List.Perm.swap 1 2 [])]
  exact List.mergeSort_of_pairwise (by decide)
theorem aw_out : (List.range 3).map (makeOut awNs awCs [1, 0, 1] [2, 1] 0) = [[0], [1], []] := by decide +kernel
theorem aw_mk : mkT awNs awCs [1, 0, 1] [2, 1] 0 = awT := by
  unfold mkT
  rw [aw_del]
  show (⟨0, (List.range 3).map (makeOut awNs awCs [1, 0, 1] [2, 1] 0), [1, 2]⟩ : Tr) = awT
  rw [aw_out]
  rfl
theorem aw_cop : copiesB awNs awCs awT = 2 := by decide +kernel
theorem aw_wf : WfP ⟨awNs, awCs⟩ := by
  refine ⟨?_, ?_⟩
  · intro x hx
    simp only [awNs, List.mem_cons, List.not_mem_nil, or_false] at hx
    rcases hx with rfl | rfl | rfl <;> exact ⟨by decide, by decide⟩
  · intro x hx
    simp only [awCs, List.mem_cons, List.not_mem_nil, or_false] at hx
    rcases hx with rfl | rfl <;> exact ⟨by decide, by decide, by decide, by decide, by decide, by decide⟩
theorem aw_small : SmallT awT := ⟨by decide, by decide, by decide⟩
theorem isRec_litT {α : Type} {m : Nat} {c : α → List Value} {d : α} (w : World) (t : TypeId) (xs : List α) (hm : 0 < m) (hc : ∀ x, (c x).length = m) (hx : 0 < xs.length) :
    IsRec m c d (w.alloc (.cells (xs.flatMap c).toArray t)) (some ⟨w.heap.size, 0, none⟩) xs.length xs := by
  refine ⟨rfl, fun h0 => ⟨w.heap.size, 0, rfl, by simp, fun i j hi hj => ?_⟩⟩
  rw [(Blk.new w t _).cell]
  rw [Nat.zero_add, ← flatG_at hc xs i j hi hj]
  simp
def PostT (x : Tr) (w : World) (e : Ending) (w' : World) : Prop :=
  ∃ aO aD cO cD, e = .returned (.tuple #[trV x aO aD cO cD, .int .i64 0]) ∧ (∀ w'', AgreeF w.heap.size w' w'' → IsTree w'' aO aD x) ∧ Below w.heap.size w w'
theorem PostT.tree {x : Tr} {w w' : World} {aO aD : Option Addr} (h : ∀ w'', AgreeF w.heap.size w' w'' → IsTree w'' aO aD x) : IsTree w' aO aD x := h w' (AgreeF.refl _ _)
/-- A tree in a variable. -/
def RG (x : Tr) (w5 : World) (s15 s16 : Value) (wx : World) : Prop :=
  ∃ bX aO aD cO cD, s15 = .pointer (some ⟨bX, 0, none⟩) ∧ s16 = .int .i64 0 ∧ Below w5.heap.size w5 wx ∧ Blk wx bX 56 #[.int .i64 x.src, .slice aO x.out.length cO, .slice aD x.del.length cD] ∧ IsTree wx aO aD x
theorem rg_mk {x : Tr} {w5 wx : World} {bX : Nat} {aO aD : Option Addr} {cO cD : Nat} (hX : Blk wx bX 56 #[.int .i64 x.src, .slice aO x.out.length cO, .slice aD x.del.length cD]) (hB : Below w5.heap.size w5 wx) (hT : IsTree wx aO aD x) : RG x w5 (.pointer (some ⟨bX, 0, none⟩)) (.int .i64 0) wx := ⟨bX, aO, aD, cO, cD, rfl, rfl, hB, hX, hT⟩
/-- Make where there is no error. -/
theorem mk_ok (ns : List Nd) (cs : List Cb) (lv ms : List Int) (s : Nat) (An Ac Al Am : Option Addr) (cn cc cl cm : Nat) (w : World) (hl : ns.length ≤ 1000000) (hl2 : cs.length ≤ 1000000) (hwf : WfP ⟨ns, cs⟩) (hlv : lv.length ≤ 1000000) (hwl : WfI lv) (hms : ms.length ≤ 1000000) (hwm : WfI ms)
    (h : IsPlan w An Ac ⟨ns, cs⟩) (h2 : IsRec 1 cI 0 w Al lv.length lv) (h3 : IsRec 1 cI 0 w Am ms.length ms) (he : tErr ⟨ns, cs⟩ lv ms s = 0) :
    Calls Tryz.prog 26 #[.agg #[.slice An ns.length cn, .slice Ac cs.length cc], .agg #[.slice Al lv.length cl], .int .i64 s, .slice Am ms.length cm] w fun e w' =>
      PostT (mkT ns cs lv ms s) w e w' :=
  (tmake_any ns cs lv ms s An Ac Al Am cn cc cl cm w hl hl2 hwf hlv hwl hms hwm h h2 h3).mono fun e w' h => by
    obtain ⟨hb, ⟨hne, _⟩ | ⟨_, k, hk, _, aO, aD, cO, cD, rfl, ht⟩⟩ := h
    · exact absurd he hne
    · have : s = k := by omega
      subst this
      exact ⟨aO, aD, cO, cD, rfl, ht, hb⟩
theorem aw_make (An Ac Al Am : Option Addr) (w : World) (h : IsPlan w An Ac ⟨awNs, awCs⟩) (h2 : IsRec 1 cI 0 w Al 3 [1, 0, 1]) (h3 : IsRec 1 cI 0 w Am 2 [2, 1]) :
    Calls Tryz.prog 26 #[.agg #[.slice An 3 3, .slice Ac 2 2], .agg #[.slice Al 3 3], .int .i64 0, .slice Am 2 2] w fun e w' =>
      ∃ aO aD cO cD, e = .returned (.tuple #[.agg #[.int .i64 0, .slice aO 3 cO, .slice aD 2 cD], .int .i64 0]) ∧ IsTree w' aO aD awT ∧ Below w.heap.size w w' := by
  have := mk_ok awNs awCs [1, 0, 1] [2, 1] 0 An Ac Al Am 3 2 3 2 w (by decide) (by decide) aw_wf (by decide) (by intro x hx; simp only [List.mem_cons, List.not_mem_nil, or_false] at hx; rcases hx with rfl | rfl | rfl <;> decide) (by decide) (by intro x hx; simp only [List.mem_cons, List.not_mem_nil, or_false] at hx; rcases hx with rfl | rfl <;> decide) h h2 h3 aw_err
  rw [aw_mk] at this
  refine this.mono fun e w' h => ?_
  obtain ⟨aO, aD, cO, cD, he, ht, hb⟩ := h
  exact ⟨aO, aD, cO, cD, he, PostT.tree ht, hb⟩
set_option maxRecDepth 100000 in
set_option maxHeartbeats 4000000 in
theorem awake23_any (w : World) : Calls Tryz.prog 14 #[] w fun e w' => e = .returned (.bool true) ∧ Below w.heap.size w w' := by
  obtain ⟨w1, hw1⟩ : ∃ w1 : World, w.alloc (.cells (awNs.flatMap cN).toArray 109) = w1 := ⟨_, rfl⟩
  obtain ⟨w2, hw2⟩ : ∃ w2 : World, w1.alloc (.cells (awCs.flatMap cC).toArray 85) = w2 := ⟨_, rfl⟩
  obtain ⟨w3, hw3⟩ : ∃ w3 : World, w2.alloc (.cells #[.slice (some ⟨w.heap.size, 0, none⟩) 3 3, .slice (some ⟨w.heap.size + 1, 0, none⟩) 2 2] 25) = w3 := ⟨_, rfl⟩
  obtain ⟨w4, hw4⟩ : ∃ w4 : World, w3.alloc (.cells #[.int .i64 1, .int .i64 0, .int .i64 1] 3) = w4 := ⟨_, rfl⟩
  obtain ⟨w5, hw5⟩ : ∃ w5 : World, w4.alloc (.cells #[.int .i64 2, .int .i64 1] 3) = w5 := ⟨_, rfl⟩
  have z1 : w1.heap.size = w.heap.size + 1 := by rw [← hw1]; simp
  have z2 : w2.heap.size = w.heap.size + 2 := by rw [← hw2]; simp [z1]
  have z3 : w3.heap.size = w.heap.size + 3 := by rw [← hw3]; simp [z2]
  have z4 : w4.heap.size = w.heap.size + 4 := by rw [← hw4]; simp [z3]
  have z5 : w5.heap.size = w.heap.size + 5 := by rw [← hw5]; simp [z4]
  have P5 : Hid (IsPlan w5 (some ⟨w.heap.size, 0, none⟩) (some ⟨w.heap.size + 1, 0, none⟩) ⟨awNs, awCs⟩) := by
    have h1 := isRec_litT (m := 3) (c := cN) (d := nd0) w 109 awNs (by decide) (fun _ => rfl) (by decide)
    have h2 := isRec_litT (m := 6) (c := cC) (d := cb0) w1 85 awCs (by decide) (fun _ => rfl) (by decide)
    rw [hw1] at h1
    rw [hw2, z1] at h2
    have h1' := ((((h1.alloc (.cells (awCs.flatMap cC).toArray 85)).alloc (.cells #[.slice (some ⟨w.heap.size, 0, none⟩) 3 3, .slice (some ⟨w.heap.size + 1, 0, none⟩) 2 2] 25)).alloc (.cells #[.int .i64 1, .int .i64 0, .int .i64 1] 3)).alloc (.cells #[.int .i64 2, .int .i64 1] 3))
    have h2' := ((h2.alloc (.cells #[.slice (some ⟨w.heap.size, 0, none⟩) 3 3, .slice (some ⟨w.heap.size + 1, 0, none⟩) 2 2] 25)).alloc (.cells #[.int .i64 1, .int .i64 0, .int .i64 1] 3)).alloc (.cells #[.int .i64 2, .int .i64 1] 3)
    rw [hw2, hw3, hw4, hw5] at h1'
    rw [hw3, hw4, hw5] at h2'
    exact ⟨h1', h2'⟩
  have L5 : Hid (IsRec 1 cI 0 w5 (some ⟨w.heap.size + 1 + 1 + 1, 0, none⟩) 3 [1, 0, 1]) := by
    have h1 := (isRec_litT (m := 1) (c := cI) (d := (0 : Int)) w3 3 [1, 0, 1] (by decide) (fun _ => rfl) (by decide)).alloc (.cells #[.int .i64 2, .int .i64 1] 3)
    rw [z3] at h1
    exact hw5 ▸ hw4 ▸ h1
  have M5 : Hid (IsRec 1 cI 0 w5 (some ⟨w.heap.size + 1 + 1 + 1 + 1, 0, none⟩) 2 [2, 1]) := by
    have h1 := isRec_litT (m := 1) (c := cI) (d := (0 : Int)) w4 3 [2, 1] (by decide) (fun _ => rfl) (by decide)
    rw [z4] at h1
    exact hw5 ▸ h1
  have BP : Hid (Blk w5 (w.heap.size + 1 + 1) 25 #[.slice (some ⟨w.heap.size, 0, none⟩) 3 3, .slice (some ⟨w.heap.size + 1, 0, none⟩) 2 2]) := by
    have h1 := ((Blk.new w2 25 #[.slice (some ⟨w.heap.size, 0, none⟩) 3 3, .slice (some ⟨w.heap.size + 1, 0, none⟩) 2 2]).alloc (.cells #[.int .i64 1, .int .i64 0, .int .i64 1] 3)).alloc (.cells #[.int .i64 2, .int .i64 1] 3)
    rw [hw3, hw4, hw5, z2] at h1
    exact h1
  have B5 : Hid (Below w.heap.size w w5) := by
    rw [Hid, ← hw5, ← hw4, ← hw3, ← hw2, ← hw1]
    exact (((((Below.refl _ _).alloc (Nat.le_refl _) _).alloc (by simp) _).alloc (by simp; omega) _).alloc (by simp; omega) _).alloc (by simp; omega) _
  have HW1 := Lib.hid hw1
  have HW2 := Lib.hid hw2
  have HW3 := Lib.hid hw3
  have HW4 := Lib.hid hw4
  have HW5 := Lib.hid hw5
  have Z5 := Lib.hid z5
  clear hw1 hw2 hw3 hw4 hw5 z1 z2 z3 z4 z5
  go_enter Tryz.func14, Tryz.ntmps14
  go_wp2_with fail
  have AM := aw_make (some ⟨w.heap.size, 0, none⟩) (some ⟨w.heap.size + 1, 0, none⟩) (some ⟨w.heap.size + 1 + 1 + 1, 0, none⟩) (some ⟨w.heap.size + 1 + 1 + 1 + 1, 0, none⟩) w5 P5.out L5.out M5.out
  rw [← HW5.out, ← HW4.out, ← HW3.out, ← HW2.out, ← HW1.out] at AM
  refine (show Calls _ _ _ _ _ from AM).mono ?_
  rintro e w6 ⟨aO, aD, cO, cD, rfl, ht, bel6⟩
  rw [HW1.out, HW2.out, HW3.out, HW4.out, HW5.out] at bel6
  have z5 := Z5.out
  have z6 := bel6.size
  have B6 : Hid (Below w.heap.size w w6) := B5.out.trans (bel6.mono (by omega))
  have BP6 : Hid (Blk w6 (w.heap.size + 1 + 1) 25 #[.slice (some ⟨w.heap.size, 0, none⟩) 3 3, .slice (some ⟨w.heap.size + 1, 0, none⟩) 2 2]) := BP.out.below bel6 (by omega)
  have P6 := Lib.hid (P5.out.below (Nat.le_refl _) bel6)
  obtain ⟨w7, hw7⟩ : ∃ w7 : World, w6.alloc (.cells #[.int .i64 0, .slice aO 3 cO, .slice aD 2 cD] 56) = w7 := ⟨_, rfl⟩
  obtain ⟨w8, hw8⟩ : ∃ w8 : World, w7.alloc (.cells #[.int .i64 0] 3) = w8 := ⟨_, rfl⟩
  obtain ⟨w9, hw9⟩ : ∃ w9 : World, w8.alloc (.cells #[.int .i64 1] 3) = w9 := ⟨_, rfl⟩
  obtain ⟨wA, hwA⟩ : ∃ wA : World, w9.alloc (.cells #[.slice (some ⟨w6.heap.size + 1, 0, none⟩) 1 1, .slice (some ⟨w6.heap.size + 1 + 1, 0, none⟩) 1 1, .slice none 0 0] 28) = wA := ⟨_, rfl⟩
  obtain ⟨wB, hwB⟩ : ∃ wB : World, wA.alloc (.cells #[.int .i64 1, .int .i64 2] 3) = wB := ⟨_, rfl⟩
  have y7 : w7.heap.size = w6.heap.size + 1 := by rw [← hw7]; simp
  have y8 : w8.heap.size = w6.heap.size + 2 := by rw [← hw8]; simp [y7]
  have y9 : w9.heap.size = w6.heap.size + 3 := by rw [← hw9]; simp [y8]
  have yA : wA.heap.size = w6.heap.size + 4 := by rw [← hwA]; simp [y9]
  have yB : wB.heap.size = w6.heap.size + 5 := by rw [← hwB]; simp [yA]
  have B6B : Hid (Below w6.heap.size w6 wB) := by
    rw [Hid, ← hwB, ← hwA, ← hw9, ← hw8, ← hw7]
    exact (((((Below.refl _ _).alloc (Nat.le_refl _) _).alloc (by simp) _).alloc (by simp; omega) _).alloc (by simp; omega) _).alloc (by simp; omega) _
  have T1 : Hid (IsTree wB aO aD awT) := ht.below (Nat.le_refl _) B6B.out
  have T2 : Hid (IsTree wB (some ⟨w6.heap.size + 1 + 1 + 1, 0, none⟩) (some ⟨w6.heap.size + 1 + 1 + 1 + 1, 0, none⟩) awT) := by
    have r0 := (((isRec_litT (m := 1) (c := cI) (d := (0 : Int)) w7 3 [0] (by decide) (fun _ => rfl) (by decide)).alloc (.cells #[.int .i64 1] 3)).alloc (.cells #[.slice (some ⟨w6.heap.size + 1, 0, none⟩) 1 1, .slice (some ⟨w6.heap.size + 1 + 1, 0, none⟩) 1 1, .slice none 0 0] 28)).alloc (.cells #[.int .i64 1, .int .i64 2] 3)
    have r1 := ((isRec_litT (m := 1) (c := cI) (d := (0 : Int)) w8 3 [1] (by decide) (fun _ => rfl) (by decide)).alloc (.cells #[.slice (some ⟨w6.heap.size + 1, 0, none⟩) 1 1, .slice (some ⟨w6.heap.size + 1 + 1, 0, none⟩) 1 1, .slice none 0 0] 28)).alloc (.cells #[.int .i64 1, .int .i64 2] 3)
    have r2 := isRec_litT (m := 1) (c := cI) (d := (0 : Int)) wA 3 [1, 2] (by decide) (fun _ => rfl) (by decide)
    have bl := (Blk.new w9 28 #[.slice (some ⟨w6.heap.size + 1, 0, none⟩) 1 1, .slice (some ⟨w6.heap.size + 1 + 1, 0, none⟩) 1 1, .slice none 0 0]).alloc (.cells #[.int .i64 1, .int .i64 2] 3)
    rw [hwA, hwB, y9] at bl
    have r0' : IsRec 1 cI 0 wB (some ⟨w6.heap.size + 1, 0, none⟩) 1 [0] := by rw [← y7]; exact hwB ▸ hwA ▸ hw9 ▸ hw8 ▸ r0
    have r1' : IsRec 1 cI 0 wB (some ⟨w6.heap.size + 1 + 1, 0, none⟩) 1 [1] := by
      have e : w6.heap.size + 1 + 1 = w8.heap.size := by omega
      rw [e]; exact hwB ▸ hwA ▸ hw9 ▸ r1
    have r2' : IsRec 1 cI 0 wB (some ⟨w6.heap.size + 1 + 1 + 1 + 1, 0, none⟩) 2 [1, 2] := by
      have e : w6.heap.size + 1 + 1 + 1 + 1 = wA.heap.size := by omega
      rw [e]; exact hwB ▸ r2
    refine ⟨⟨rfl, fun _ => ⟨w6.heap.size + 1 + 1 + 1, 0, rfl, by omega, fun i hi => ?_⟩⟩, r2'⟩
    have hi3 : i < 3 := hi
    have hc : wB.cell? ⟨w6.heap.size + 1 + 1 + 1, 0 + i, none⟩ = (#[Value.slice (some ⟨w6.heap.size + 1, 0, none⟩) 1 1, .slice (some ⟨w6.heap.size + 1 + 1, 0, none⟩) 1 1, .slice none 0 0])[0 + i]? := bl.cell (0 + i)
    rw [hc]
    match i, hi3 with
    | 0, _ => exact ⟨_, 1, r0', rfl⟩
    | 1, _ => exact ⟨_, 1, r1', rfl⟩
    | 2, _ => exact ⟨none, 0, IsRec.nil _, rfl⟩
  have SC := same_any awT awT aO aD (some ⟨w6.heap.size + 1 + 1 + 1, 0, none⟩) (some ⟨w6.heap.size + 1 + 1 + 1 + 1, 0, none⟩) cO cD 3 2 wB aw_small aw_small T1.out T2.out
  have es : sameT awT awT = true := by decide
  rw [es] at SC
  have SCH := Lib.hid SC
  have BT : Hid (Blk wB w6.heap.size 56 #[.int .i64 0, .slice aO 3 cO, .slice aD 2 cD]) := by
    have h1 := ((((Blk.new w6 56 #[.int .i64 0, .slice aO 3 cO, .slice aD 2 cD]).alloc (.cells #[.int .i64 0] 3)).alloc (.cells #[.int .i64 1] 3)).alloc (.cells #[.slice (some ⟨w6.heap.size + 1, 0, none⟩) 1 1, .slice (some ⟨w6.heap.size + 1 + 1, 0, none⟩) 1 1, .slice none 0 0] 28)).alloc (.cells #[.int .i64 1, .int .i64 2] 3)
    rw [hw7, hw8, hw9, hwA, hwB] at h1
    exact h1
  have HW7 := Lib.hid hw7
  have HW8 := Lib.hid hw8
  have HW9 := Lib.hid hw9
  have HWA := Lib.hid hwA
  have HWB := Lib.hid hwB
  have YB := Lib.hid yB
  have ZS := Lib.hid z6
  clear hw7 hw8 hw9 hwA hwB SC ht bel6 es y7 y8 y9 yA yB z5 z6
  go_wp2_with fail
  rw [HW7.out, HW8.out, HW9.out, HWA.out, HWB.out]
  refine (show Calls _ _ _ _ _ from SCH.out).mono ?_
  rintro e wC ⟨rfl, belC⟩
  have yb := YB.out
  have zs := ZS.out
  have z5 := Z5.out
  have BPC := BP6.out.below (B6B.out.trans (belC.mono B6B.out.size)) (by omega)
  have BTC := BT.out.below belC (by omega)
  have p0 : wC.cell? ⟨w.heap.size + 1 + 1, 0, none⟩ = some (.slice (some ⟨w.heap.size, 0, none⟩) 3 3) := BPC.cell 0
  have p1 : wC.cell? ⟨w.heap.size + 1 + 1, 1, none⟩ = some (.slice (some ⟨w.heap.size + 1, 0, none⟩) 2 2) := BPC.cell 1
  have t0 : wC.cell? ⟨w6.heap.size, 0, none⟩ = some (.int .i64 0) := BTC.cell 0
  have t1 : wC.cell? ⟨w6.heap.size, 1, none⟩ = some (.slice aO 3 cO) := BTC.cell 1
  have t2 : wC.cell? ⟨w6.heap.size, 2, none⟩ = some (.slice aD 2 cD) := BTC.cell 2
  have B6C : Below w6.heap.size w6 wC := B6B.out.trans (belC.mono B6B.out.size)
  have BC : Hid (Below w.heap.size w wC) := B6.out.trans (B6C.mono B6.out.size)
  have CC := tcopies_any awNs awCs awT (some ⟨w.heap.size, 0, none⟩) (some ⟨w.heap.size + 1, 0, none⟩) aO aD 3 2 cO cD wC (by decide) (by decide) aw_wf aw_small (P6.out.below (Nat.le_refl _) B6C) (T1.out.below (Nat.le_refl _) belC)
  rw [aw_cop] at CC
  have CCH := Lib.hid CC
  clear CC BPC BTC belC B6C yb zs z5
  go_wp2_with fail
  refine (show Calls _ _ _ _ _ from CCH.out).mono ?_
  rintro e wD ⟨rfl, belD⟩
  have BD : Hid (Below w.heap.size w wD) := BC.out.trans (belD.mono BC.out.size)
  clear belD
  go_wp2_with fail
  go_ret
  exact ⟨rfl, BD.out⟩
end Go.Proofs.YtljojgpjgjfddaaGreat
