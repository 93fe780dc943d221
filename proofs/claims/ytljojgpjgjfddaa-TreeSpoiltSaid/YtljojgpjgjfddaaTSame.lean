/- The contract of the reference's Same at trees. -/
import Derived.Test.YtljojgpjgjfddaaTVal
namespace Go.Proofs.Ytljojgpjgjfddaa
open Go.RowKit Go.Maps
set_option linter.unusedVariables false
set_option linter.unusedSimpArgs false

theorem take_eq_snocT {α : Type} (d : α) {l1 l2 : List α} {k : Nat} (h : l1.take k = l2.take k) (h1 : k < l1.length) (h2 : k < l2.length) (e : l1.getD k d = l2.getD k d) : l1.take (k + 1) = l2.take (k + 1) := by
  rw [take_snocG d l1 k h1, take_snocG d l2 k h2, h, e]
def sameT (a b : Tr) : Bool := decide (a.src = b.src ∧ a.out = b.out ∧ a.del = b.del)
def RelS1 (a b : Tr) (w1 : World) (i : Value) (wr : World) : Prop := ∃ k : Nat, k ≤ a.out.length ∧ i = .int .i64 k ∧ a.out.take k = b.out.take k ∧ Below w1.heap.size w1 wr
def RelS2 (l1 l2 : List Int) (w1 : World) (i : Value) (wr : World) : Prop := ∃ k : Nat, k ≤ l1.length ∧ i = .int .i64 k ∧ l1.take k = l2.take k ∧ Below w1.heap.size w1 wr
set_option maxRecDepth 100000 in
set_option maxHeartbeats 4000000 in
theorem same_any (a b : Tr) (aO aD bO bD : Option Addr) (cO cD dO dD : Nat) (w : World) (ha : SmallT a) (hb : SmallT b) (h1 : IsTree w aO aD a) (h2 : IsTree w bO bD b) :
    Calls Try.prog 30 #[trV a aO aD cO cD, trV b bO bD dO dD] w fun e w' => e = .returned (.bool (sameT a b)) ∧ Below w.heap.size w w' := by
  unfold trV
  obtain ⟨sa, outa, dela⟩ := a
  obtain ⟨sb, outb, delb⟩ := b
  obtain ⟨oa, ra, da⟩ := ha
  obtain ⟨ob, rb, db⟩ := hb
  simp only at oa ra da ob rb db
  obtain ⟨w1, hw1⟩ : ∃ w1 : World, (w.alloc (.cells #[.int .i64 sa, .slice aO outa.length cO, .slice aD dela.length cD] 64)).alloc (.cells #[.int .i64 sb, .slice bO outb.length dO, .slice bD delb.length dD] 64) = w1 := ⟨_, rfl⟩
  have s0 : w1.cell? ⟨w.heap.size, 0, none⟩ = some (.int .i64 sa) := by rw [← hw1]; simp [go_sem]
  have s1 : w1.cell? ⟨w.heap.size, 1, none⟩ = some (.slice aO outa.length cO) := by rw [← hw1]; simp [go_sem]
  have s2 : w1.cell? ⟨w.heap.size, 2, none⟩ = some (.slice aD dela.length cD) := by rw [← hw1]; simp [go_sem]
  have t0 : w1.cell? ⟨w.heap.size + 1, 0, none⟩ = some (.int .i64 sb) := by rw [← hw1]; simp [go_sem]
  have t1 : w1.cell? ⟨w.heap.size + 1, 1, none⟩ = some (.slice bO outb.length dO) := by rw [← hw1]; simp [go_sem]
  have t2 : w1.cell? ⟨w.heap.size + 1, 2, none⟩ = some (.slice bD delb.length dD) := by rw [← hw1]; simp [go_sem]
  have sz1 : w.heap.size + 1 < w1.heap.size := by rw [← hw1]; simp
  have BW0 : Hid (Below w.heap.size w w1) := by rw [Hid, ← hw1]; exact ((Below.refl _ _).alloc (Nat.le_refl _) _).alloc (by simp) _
  have A1 := Lib.hid (h1.below (Nat.le_refl _) BW0.out)
  have B1 := Lib.hid (h2.below (Nat.le_refl _) BW0.out)
  have HW1 := Lib.hid hw1
  have RA := Lib.hid ra
  have RB := Lib.hid rb
  have KC : Hid (∀ w', Below w1.heap.size w1 w' → (w'.cell? ⟨w.heap.size, 0, none⟩ = some (.int .i64 sa) ∧ w'.cell? ⟨w.heap.size, 1, none⟩ = some (.slice aO outa.length cO) ∧ w'.cell? ⟨w.heap.size, 2, none⟩ = some (.slice aD dela.length cD)) ∧
      (w'.cell? ⟨w.heap.size + 1, 0, none⟩ = some (.int .i64 sb) ∧ w'.cell? ⟨w.heap.size + 1, 1, none⟩ = some (.slice bO outb.length dO) ∧ w'.cell? ⟨w.heap.size + 1, 2, none⟩ = some (.slice bD delb.length dD)) ∧ Below w.heap.size w w') :=
    fun w' hb => ⟨⟨(hb.cell (by show w.heap.size < _; omega)).trans s0, (hb.cell (by show w.heap.size < _; omega)).trans s1, (hb.cell (by show w.heap.size < _; omega)).trans s2⟩, ⟨(hb.cell (by exact sz1)).trans t0, (hb.cell (by exact sz1)).trans t1, (hb.cell (by exact sz1)).trans t2⟩, BW0.out.trans (hb.mono (by omega))⟩
  have NO : Hid (∀ w', Below w.heap.size w w' → ¬ (sa = sb ∧ outa = outb ∧ dela = delb) → (Ending.returned (.bool false) = .returned (.bool (sameT ⟨sa, outa, dela⟩ ⟨sb, outb, delb⟩)) ∧ Below w.heap.size w w')) := fun w' h1 h2 => ⟨by unfold sameT; rw [decide_eq_false h2], h1⟩
  clear h1 h2 hw1 ra rb
  have q0 : (sa != sb) = !(sa == sb) := rfl
  cases e0 : (sa == sb) with
  | false =>
    have N := Lib.hid (NO.out w1 BW0.out (fun h => by rw [h.1] at e0; simp at e0))
    rw [e0] at q0
    go_enter Try.func30, Try.ntmps30
    go_wp2_with fail
    rw [HW1.out]
    go_wp2_with fail
    go_ret
    exact N.out
  | true =>
    have E0 : Hid (sa = sb) := by rw [Hid]; simpa using e0
    rw [e0] at q0
    by_cases e1 : outa.length = outb.length
    · by_cases e2 : dela.length = delb.length
      · have q1 : ((outa.length : Int) != (outb.length : Int)) = false := by simp [e1]
        have q2 : ((dela.length : Int) != (delb.length : Int)) = false := by simp [e2]
        have E1 := Lib.hid e1
        have E2 := Lib.hid e2
        clear e1 e2
        go_enter Try.func30, Try.ntmps30
        go_wp2_with fail
        rw [HW1.out]
        clear q0 q1 q2 e0
        go_wp2_with fail
        go_loopw [5] (fun i wr => RelS1 ⟨sa, outa, dela⟩ ⟨sb, outb, delb⟩ w1 i wr) (fun i _ => outa.length - (RowKit.intOf i).toNat)
        case atStart => exact ⟨0, Nat.zero_le _, rfl, rfl, Below.refl _ _⟩
        case round =>
          clear s0 s1 s2 t0 t1 t2
          obtain ⟨k, hk, rfl, heq, bel⟩ := hrel
          simp only at hk heq
          have HEQ := Lib.hid heq
          have BE := Lib.hid bel
          obtain ⟨⟨s0, s1, s2⟩, ⟨t0, t1, t2⟩, bw⟩ := KC.out wr bel
          have BW := Lib.hid bw
          clear heq bw
          by_cases hkr : k < outa.length
          · have hkr2 : k < outb.length := by have := E1.out; omega
            obtain ⟨bo, oo, ar, capr, hao, hbo, hmr, hrr, cr0⟩ := A1.out.out.at_ k hkr
            obtain ⟨bo2, oo2, ar2, capr2, hao2, hbo2, hmr2, hrr2, cr2⟩ := B1.out.out.at_ k hkr2
            have ST : Hid (outa.getD k [] = outb.getD k [] → outa.take (k + 1) = outb.take (k + 1)) := fun e => take_eq_snocT ([] : List Int) HEQ.out hkr hkr2 e
            have NE : Hid (outa.getD k [] ≠ outb.getD k [] → ¬ (sa = sb ∧ outa = outb ∧ dela = delb)) := fun h e => h (by rw [e.2.1])
            have rl1 := RA.out _ hmr
            have rl2 := RB.out _ hmr2
            have RR1 := Lib.hid hrr
            have RR2 := Lib.hid hrr2
            have KR : Hid (∀ w', Below w1.heap.size w1 w' → w'.cell? ⟨bo, oo + k, none⟩ = some (.slice ar (outa.getD k []).length capr) ∧ w'.cell? ⟨bo2, oo2 + k, none⟩ = some (.slice ar2 (outb.getD k []).length capr2)) :=
              fun w' hb => ⟨(hb.cell (by exact hbo)).trans cr0, (hb.cell (by exact hbo2)).trans cr2⟩
            obtain ⟨cr0', cr2'⟩ := KR.out wr bel
            generalize outa.getD k [] = r1 at *
            generalize outb.getD k [] = r2 at *
            subst hao
            subst hao2
            have ki : (k : Int) < (outa.length : Int) := by omega
            have ki2 : (k : Int) < (outb.length : Int) := by omega
            clear hmr hmr2 hrr hrr2 bel cr0 cr2
            by_cases e3 : r1.length = r2.length
            · have q3 : ((r1.length : Int) != (r2.length : Int)) = false := by simp [e3]
              have E3 := Lib.hid e3
              clear e3
              go_wp2_with fail
              go_quiet (fail)
              clear q3
              go_wp2_with fail
              go_loopw [6] (fun i wq => RelS2 r1 r2 w1 i wq) (fun i _ => r1.length - (RowKit.intOf i).toNat)
              case atStart => exact ⟨0, Nat.zero_le _, rfl, rfl, below_drewN BE.out _⟩
              case round =>
                clear s0 s1 s2 t0 t1 t2 cr0' cr2'
                obtain ⟨j, hj, rfl, heqj, belj⟩ := hrel
                have HEJ := Lib.hid heqj
                have BJ := Lib.hid belj
                obtain ⟨⟨s0, s1, s2⟩, ⟨t0, t1, t2⟩, bwj⟩ := KC.out _ belj
                obtain ⟨cr0, cr2⟩ := KR.out _ belj
                have BWJ := Lib.hid bwj
                clear heqj bwj
                by_cases hjr : j < r1.length
                · have hjr2 : j < r2.length := by have := E3.out; omega
                  obtain ⟨b1, o1, ha1, hb1, hm1, e1⟩ := int_at RR1.out j hjr
                  obtain ⟨b2, o2, ha2, hb2, hm2, e2⟩ := int_at RR2.out j hjr2
                  have c1 := (belj.cell (p := ⟨b1, o1 + j, none⟩) hb1).trans e1
                  have c2 := (belj.cell (p := ⟨b2, o2 + j, none⟩) hb2).trans e2
                  have SJ : Hid (r1.getD j 0 = r2.getD j 0 → r1.take (j + 1) = r2.take (j + 1)) := fun e => take_eq_snocT (0 : Int) HEJ.out hjr hjr2 e
                  have NJ : Hid (r1.getD j 0 ≠ r2.getD j 0 → r1 ≠ r2) := fun h e => h (by rw [e])
                  generalize r1.getD j 0 = x at *
                  generalize r2.getD j 0 = y at *
                  subst ha1
                  subst ha2
                  have ji : (j : Int) < (r1.length : Int) := by omega
                  have ji2 : (j : Int) < (r2.length : Int) := by omega
                  clear hm1 hm2 e1 e2 belj
                  cases hq : x != y with
                  | false =>
                    have he : x = y := by simpa using hq
                    have R : Hid (∀ q, RelS2 r1 r2 w1 (.int .i64 ((j + 1 : Nat) : Int)) (World.drewN ‹World› q)) := fun q => ⟨j + 1, by omega, rfl, SJ.out he, below_drewN BJ.out q⟩
                    clear he SJ NJ
                    go_wp2_with fail
                    go_quiet (fail)
                    clear hq
                    go_wp2_with fail
                    exact ⟨by simpa using R.out _, by simp [RowKit.intOf]; omega⟩
                  | true =>
                    have he : x ≠ y := by simpa using hq
                    have N : Hid (∀ n, _) := fun n => NO.out (World.drewN _ n) (below_drewN BWJ.out n) (NE.out (NJ.out he))
                    clear he SJ NJ
                    go_wp2_with fail
                    go_quiet (fail)
                    clear hq
                    go_wp2_with fail
                    go_ret
                    exact N.out _
                · obtain rfl : j = r1.length := by omega
                  have he : r1 = r2 := by
                    have := HEJ.out
                    rw [List.take_length, E3.out, List.take_length] at this
                    exact this
                  have R : Hid (RelS1 ⟨sa, outa, dela⟩ ⟨sb, outb, delb⟩ w1 (.int .i64 ((k + 1 : Nat) : Int)) _) := ⟨k + 1, by show k + 1 ≤ outa.length; omega, rfl, ST.out he, BJ.out⟩
                  clear he belj
                  go_wp2_with fail
                  exact ⟨by simpa using R.out, by simp [RowKit.intOf]; omega⟩
            · have q3 : ((r1.length : Int) != (r2.length : Int)) = true := by simp; omega
              have N : Hid (∀ n, _) := fun n => NO.out (wr.drewN n) (below_drewN BW.out n) (NE.out (fun e => e3 (by rw [e])))
              clear e3 ST NE
              go_wp2_with fail
              go_quiet (fail)
              go_wp2_with fail
              go_ret
              exact N.out _
          · obtain rfl : k = outa.length := by omega
            have HO : Hid (outa = outb) := by
              have := HEQ.out
              rw [List.take_length, E1.out, List.take_length] at this
              exact this
            clear bel
            go_wp2_with fail
            go_loopw [7] (fun i wq => RelS2 dela delb w1 i wq) (fun i _ => dela.length - (RowKit.intOf i).toNat)
            case atStart => exact ⟨0, Nat.zero_le _, rfl, rfl, BE.out⟩
            case round =>
              clear s0 s1 s2 t0 t1 t2
              obtain ⟨j, hj, rfl, heqj, belj⟩ := hrel
              have HEJ := Lib.hid heqj
              have BJ := Lib.hid belj
              obtain ⟨⟨s0, s1, s2⟩, ⟨t0, t1, t2⟩, bwj⟩ := KC.out _ belj
              have BWJ := Lib.hid bwj
              clear heqj bwj
              by_cases hjr : j < dela.length
              · have hjr2 : j < delb.length := by have := E2.out; omega
                obtain ⟨b1, o1, ha1, hb1, hm1, e1⟩ := int_at A1.out.del j hjr
                obtain ⟨b2, o2, ha2, hb2, hm2, e2⟩ := int_at B1.out.del j hjr2
                have c1 := (belj.cell (p := ⟨b1, o1 + j, none⟩) hb1).trans e1
                have c2 := (belj.cell (p := ⟨b2, o2 + j, none⟩) hb2).trans e2
                have SJ : Hid (dela.getD j 0 = delb.getD j 0 → dela.take (j + 1) = delb.take (j + 1)) := fun e => take_eq_snocT (0 : Int) HEJ.out hjr hjr2 e
                have NJ : Hid (dela.getD j 0 ≠ delb.getD j 0 → ¬ (sa = sb ∧ outa = outb ∧ dela = delb)) := fun h e => h (by rw [e.2.2])
                generalize dela.getD j 0 = x at *
                generalize delb.getD j 0 = y at *
                subst ha1
                subst ha2
                have ji : (j : Int) < (dela.length : Int) := by omega
                have ji2 : (j : Int) < (delb.length : Int) := by omega
                clear hm1 hm2 e1 e2 belj
                cases hq : x != y with
                | false =>
                  have he : x = y := by simpa using hq
                  have R : Hid (∀ q, RelS2 dela delb w1 (.int .i64 ((j + 1 : Nat) : Int)) (World.drewN _ q)) := fun q => ⟨j + 1, by omega, rfl, SJ.out he, below_drewN BJ.out q⟩
                  clear he SJ NJ
                  go_wp2_with fail
                  go_quiet (fail)
                  clear hq
                  go_wp2_with fail
                  exact ⟨by simpa using R.out _, by simp [RowKit.intOf]; omega⟩
                | true =>
                  have he : x ≠ y := by simpa using hq
                  have N : Hid (∀ n, _) := fun n => NO.out (World.drewN _ n) (below_drewN BWJ.out n) (NJ.out he)
                  clear he SJ NJ
                  go_wp2_with fail
                  go_quiet (fail)
                  clear hq
                  go_wp2_with fail
                  go_ret
                  exact N.out _
              · obtain rfl : j = dela.length := by omega
                have he : dela = delb := by
                  have := HEJ.out
                  rw [List.take_length, E2.out, List.take_length] at this
                  exact this
                have FIN : Hid (sameT ⟨sa, outa, dela⟩ ⟨sb, outb, delb⟩ = true) := decide_eq_true ⟨E0.out, HO.out, he⟩
                clear he belj
                go_wp2_with fail
                go_ret
                exact ⟨by rw [FIN.out]; rfl, BWJ.out⟩
      · have q1 : ((outa.length : Int) != (outb.length : Int)) = false := by simp [e1]
        have q2 : ((dela.length : Int) != (delb.length : Int)) = true := by simp; omega
        have N := Lib.hid (NO.out w1 BW0.out (fun h => e2 (by rw [h.2.2])))
        clear e1 e2
        go_enter Try.func30, Try.ntmps30
        go_wp2_with fail
        rw [HW1.out]
        go_wp2_with fail
        go_ret
        exact N.out
    · have q1 : ((outa.length : Int) != (outb.length : Int)) = true := by simp; omega
      have N := Lib.hid (NO.out w1 BW0.out (fun h => e1 (by rw [h.2.1])))
      clear e1
      go_enter Try.func30, Try.ntmps30
      go_wp2_with fail
      rw [HW1.out]
      go_wp2_with fail
      go_ret
      exact N.out
end Go.Proofs.Ytljojgpjgjfddaa
