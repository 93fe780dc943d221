/- The contracts of the reference's at, ascending, Has and Above (for any tree). -/
import Derived.Test.YtljojgpjgjfddaaGreatTRefP
import Derived.Test.YtljojgpjgjfddaaGreatTLaw
namespace Go.Proofs.YtljojgpjgjfddaaGreat
open Go.RowKit Go.Maps
set_option linter.unusedVariables false
set_option linter.unusedSimpArgs false

set_option maxHeartbeats 1000000 in
theorem at23_any (ns : List Nd) (cs : List Cb) (An Ac : Option Addr) (cn cc k : Nat) (u : Int) (w : World) (hl : cs.length ≤ 1000000) (hk : k < cs.length) (h : IsRec 6 cC cb0 w Ac cs.length cs) :
    Calls Tryz.prog 61 #[.agg #[.slice An ns.length cn, .slice Ac cs.length cc], .int .i64 (k : Int), .int .i64 u] w fun e w' => e = .returned (.bool (endT (cs.getD k cb0) u)) ∧ Below w.heap.size w w' := by
  have B : Hid (Below w.heap.size w (w.alloc (.cells #[.slice An ns.length cn, .slice Ac cs.length cc] 25))) := (Below.refl _ _).alloc (Nat.le_refl _) _
  obtain ⟨bc, oc, hAc, hbc, _, ca, cap', cb, cbp, cd, ccp⟩ := cable_at h k hk
  have kw : (k : Int) < (cs.length : Int) := by omega
  have k0 : (0 : Int) ≤ (k : Int) := by omega
  generalize cs.getD k cb0 = x at *
  obtain ⟨xa, xap, xb, xbp, xd, xc⟩ := x
  simp only at ca cap' cb cbp cd ccp
  have E : Hid (endT ⟨xa, xap, xb, xbp, xd, xc⟩ u = (xa == u || xb == u)) := rfl
  subst hAc
  clear h
  cases h1 : xa == u with
  | true =>
    rw [h1] at E
    go_enter Tryz.func61, Tryz.ntmps61
    go_wp2_with fail
    go_ret
    exact ⟨by rw [E.out]; rfl, B.out⟩
  | false =>
    rw [h1] at E
    cases h2 : xb == u with
    | true =>
      rw [h2] at E
      go_enter Tryz.func61, Tryz.ntmps61
      go_wp2_with fail
      go_ret
      exact ⟨by rw [E.out]; first | rfl | simp [h2], B.out⟩
    | false =>
      rw [h2] at E
      go_enter Tryz.func61, Tryz.ntmps61
      go_wp2_with fail
      go_ret
      exact ⟨by rw [E.out]; first | rfl | simp [h2], B.out⟩
def RelHs (l : List Int) (x : Int) (w0 : World) (i : Value) (wr : World) : Prop := ∃ k : Nat, k ≤ l.length ∧ i = .int .i64 k ∧ x ∉ l.take k ∧ w0 = wr
set_option maxHeartbeats 1000000 in
theorem has23_any (l : List Int) (x : Int) (a : Option Addr) (c : Nat) (w : World) (hl : l.length ≤ 1000000) (h : IsRec 1 cI 0 w a l.length l) :
    Calls Tryz.prog 63 #[.slice a l.length c, .int .i64 x] w fun e w' => e = .returned (.bool (decide (x ∈ l))) ∧ w = w' := by
  have H := Lib.hid h
  clear h
  go_enter Tryz.func63, Tryz.ntmps63
  go_wp2_with fail
  go_loopw [5] (fun i wr => RelHs l x w i wr) (fun i _ => l.length - (RowKit.intOf i).toNat)
  case atStart => exact ⟨0, Nat.zero_le _, rfl, by simp, rfl⟩
  case round =>
    obtain ⟨k, hk, rfl, hno, rfl⟩ := hrel
    have HN := Lib.hid hno
    clear hno
    by_cases hkr : k < l.length
    · obtain ⟨b1, o1, ha1, hb1, hm1, e1⟩ := int_at H.out k hkr
      have TS := Lib.hid (take_snocG 0 l k hkr)
      have FI : Hid ((l.getD k 0 == x) = true → decide (x ∈ l) = true) := fun h => by
        have : l.getD k 0 = x := by simpa using h
        rw [← this]; exact decide_eq_true hm1
      generalize l.getD k 0 = y at *
      subst ha1
      have ki : (k : Int) < (l.length : Int) := by omega
      clear hm1
      cases hq : y == x with
      | true =>
        have F := Lib.hid (FI.out hq)
        clear FI TS
        go_wp2_with fail
        go_ret
        exact ⟨by rw [F.out]; rfl, rfl⟩
      | false =>
        have hne : ¬ y = x := by simpa using hq
        have R : Hid (RelHs l x w (.int .i64 ((k + 1 : Nat) : Int)) w) := ⟨k + 1, by omega, rfl, by
          rw [TS.out, List.mem_append, List.mem_singleton]
          rintro (h | h)
          · exact HN.out h
          · exact hne h.symm, rfl⟩
        clear FI TS hne
        go_wp2_with fail
        exact ⟨by simpa using R.out, by simp [RowKit.intOf]; omega⟩
    · obtain rfl : k = l.length := by omega
      have F : Hid (decide (x ∈ l) = false) := decide_eq_false (by have := HN.out; rwa [List.take_length] at this)
      go_wp2_with fail
      go_ret
      exact ⟨by rw [F.out]; rfl, rfl⟩
theorem at23g_any (ns : List Nd) (cs : List Cb) (An Ac : Option Addr) (cn cc : Nat) (c u : Int) (w : World) (hl : cs.length ≤ 1000000) (h : IsRec 6 cC cb0 w Ac cs.length cs) :
    Calls Tryz.prog 61 #[.agg #[.slice An ns.length cn, .slice Ac cs.length cc], .int .i64 c, .int .i64 u] w fun e w' => e = .returned (.bool (isEndB cs c u)) ∧ Below w.heap.size w w' := by
  by_cases h0 : 0 ≤ c
  · by_cases h1 : c < cs.length
    · obtain ⟨k, rfl⟩ : ∃ k : Nat, c = k := ⟨c.toNat, by omega⟩
      have E : isEndB cs (k : Int) u = endT (cs.getD k cb0) u := by unfold isEndB; rw [decide_eq_true h0, decide_eq_true h1, Int.toNat_natCast]; rfl
      rw [E]
      exact at23_any ns cs An Ac cn cc k u w hl (by omega) h
    · have E : Hid (isEndB cs c u = false) := by rw [Hid]; unfold isEndB; rw [decide_eq_false h1]; simp
      have B : Hid (Below w.heap.size w (w.alloc (.cells #[.slice An ns.length cn, .slice Ac cs.length cc] 25))) := (Below.refl _ _).alloc (Nat.le_refl _) _
      clear h
      go_enter Tryz.func61, Tryz.ntmps61
      go_wp2_with fail
      go_ret
      exact ⟨by rw [E.out]; rfl, B.out⟩
  · have E : Hid (isEndB cs c u = false) := by rw [Hid]; unfold isEndB; rw [decide_eq_false h0]; simp
    have B : Hid (Below w.heap.size w (w.alloc (.cells #[.slice An ns.length cn, .slice Ac cs.length cc] 25))) := (Below.refl _ _).alloc (Nat.le_refl _) _
    clear h
    go_enter Tryz.func61, Tryz.ntmps61
    go_wp2_with fail
    go_ret
    exact ⟨by rw [E.out]; rfl, B.out⟩
set_option maxHeartbeats 1000000 in
theorem asc23_any (l : List Int) (a : Option Addr) (c : Nat) (w : World) (hl : l.length ≤ 1000000) (h : IsRec 1 cI 0 w a l.length l) :
    Calls Tryz.prog 60 #[.slice a l.length c] w fun e w' => e = .returned (.bool (ascB l)) ∧ Below w.heap.size w w' := by
  have H := Lib.hid h
  clear h
  go_enter Tryz.func60, Tryz.ntmps60
  go_wp2_with fail
  go_loopw [3] (fun i wr => RelAsc l w i wr) (fun i _ => l.length + 1 - (RowKit.intOf i).toNat)
  case atStart => exact ⟨1, Nat.le_refl _, .inl rfl, rfl, by intro j hj; omega, Below.refl _ _⟩
  case round =>
    obtain ⟨k, hk1, hk2, rfl, hall, bel⟩ := hrel
    have HA := Lib.hid hall
    have BE := Lib.hid bel
    clear hall
    by_cases hkr : k < l.length
    · obtain ⟨b1, o1, ha1, hb1, hm1, e1⟩ := int_at (H.out.below (Nat.le_refl _) bel) k hkr
      obtain ⟨b2, o2, ha2, hb2, hm2, e2⟩ := int_at (H.out.below (Nat.le_refl _) bel) (k - 1) (by omega)
      rw [ha1] at ha2
      injection ha2 with ha2
      injection ha2 with q1 q2
      subst q1; subst q2
      have ki : (k : Int) < (l.length : Int) := by omega
      have HS : Hid (l.getD (k - 1) 0 < l.getD k 0 → RelAsc l w (.int .i64 ((k + 1 : Nat) : Int)) wr ∧ ∀ n, RelAsc l w (.int .i64 ((k + 1 : Nat) : Int)) (wr.drewN n)) := fun h => by
        have h2 : ∀ j, j + 1 < k + 1 → l.getD j 0 < l.getD (j + 1) 0 := fun j hj => by
          by_cases e : j + 1 = k
          · rw [e, show j = k - 1 by omega]; exact h
          · exact HA.out j (by omega)
        exact ⟨⟨k + 1, by omega, .inr (by omega), rfl, h2, BE.out⟩, fun n => ⟨k + 1, by omega, .inr (by omega), rfl, h2, below_drewN BE.out n⟩⟩
      have HF : Hid (¬ l.getD (k - 1) 0 < l.getD k 0 → ascB l = false) := fun h => by
        cases hq : ascB l with
        | false => rfl
        | true =>
          have := ascB_getD.1 hq (k - 1) (by omega)
          rw [show k - 1 + 1 = k by omega] at this
          exact absurd this h
      generalize l.getD (k - 1) 0 = y at *
      generalize l.getD k 0 = x at *
      subst ha1
      have k1 : IntKind.i64.wrap ((k : Int) - 1) = ((k - 1 : Nat) : Int) := by rw [show ((k : Int) - 1) = ((k - 1 : Nat) : Int) by omega]; exact IntWalk.i64_in _ (by omega)
      have kj : ((k - 1 : Nat) : Int) < (l.length : Int) := by omega
      obtain ⟨j, hj⟩ : ∃ j, k - 1 = j := ⟨_, rfl⟩
      rw [hj] at k1 kj e2
      clear hm1 hm2 bel
      by_cases hxy : y < x
      · have R := Lib.hid (HS.out hxy)
        have hyx : ¬ x ≤ y := by omega
        clear HS HF
        go_wp2_with fail
        go_quiet (fail)
        clear k1
        go_wp2_with fail
        exact ⟨by simpa using R.out.2 _, by simp [RowKit.intOf]; omega⟩
      · have F := Lib.hid (HF.out hxy)
        have hyx : x ≤ y := by omega
        clear HS HF
        go_wp2_with fail
        go_quiet (fail)
        go_wp2_with fail
        go_ret
        exact ⟨by rw [F.out]; rfl, below_drewN BE.out _⟩
    · have F : Hid (ascB l = true) := ascB_getD.2 fun j hj => HA.out j (by omega)
      clear bel
      go_wp2_with fail
      go_ret
      exact ⟨by rw [F.out]; rfl, BE.out⟩
theorem orL_lt (x y a b : Int) : decide (orL [cmpZ x y, cmpZ a b] < 0) = (decide (x < y) || (x == y && decide (a < b))) := by
  rw [Bool.eq_iff_iff]
  simp only [decide_eq_true_iff, Bool.or_eq_true, Bool.and_eq_true, beq_iff_eq]
  unfold orL orL orL cmpZ
  repeat' split
  all_goals omega
set_option maxRecDepth 100000 in
set_option maxHeartbeats 4000000 in
theorem above17_any (lv : List Int) (Al : Option Addr) (cl i j : Nat) (w : World) (hl : lv.length ≤ 1000000) (h : IsRec 1 cI 0 w Al lv.length lv) (hi : i < lv.length) (hj : j < lv.length) (vi : 0 ≤ lv.getD i 0) (vj : 0 ≤ lv.getD j 0) :
    Calls Tryz.prog 140 #[.slice Al lv.length cl, .int .i64 i, .int .i64 j] w fun e w' => e = .returned (.bool (aboveB lv i j)) ∧ Below w.heap.size w w' := by
  obtain ⟨b1, o1, ha1, hb1, hm1, e1⟩ := int_at h i hi
  obtain ⟨b2, o2, ha2, hb2, hm2, e2⟩ := int_at h j hj
  rw [ha1] at ha2
  injection ha2 with ha2
  injection ha2 with ha3 ha4
  subst ha3
  subst ha4
  have i1 : (i : Int) < (lv.length : Int) := by omega
  have j1 : (j : Int) < (lv.length : Int) := by omega
  have i0 : (0 : Int) ≤ (i : Int) := by omega
  have j0 : (0 : Int) ≤ (j : Int) := by omega
  have F : Hid (aboveB lv i j = (decide (lv.getD i 0 < lv.getD j 0) || (lv.getD i 0 == lv.getD j 0 && decide ((i : Int) < (j : Int))))) := by
    rw [Hid]; unfold aboveB hasB lvAt
    rw [Int.toNat_natCast, Int.toNat_natCast, decide_eq_true i0, decide_eq_true j0, decide_eq_true i1, decide_eq_true j1, decide_eq_true vi, decide_eq_true vj, orL_lt]
    rfl
  generalize lv.getD i 0 = x at *
  generalize lv.getD j 0 = y at *
  subst ha1
  clear hm1 hm2 h
  cases q1 : decide (x < y) with
  | true =>
    rw [q1, Bool.true_or] at F
    go_enter Tryz.func140, Tryz.ntmps140
    go_wp2_with fail
    go_quiet (fail)
    go_wp2_with fail
    go_ret
    exact ⟨by rw [F.out]; rfl, below_drewN (Below.refl _ _) _⟩
  | false =>
    rw [q1] at F
    cases q2 : x == y with
    | true =>
      rw [q2, Bool.false_or, Bool.true_and, show decide ((i : Int) < (j : Int)) = decide (i < j) from by simp] at F
      go_enter Tryz.func140, Tryz.ntmps140
      go_wp2_with fail
      go_quiet (fail)
      go_wp2_with fail
      go_ret
      exact ⟨by rw [F.out]; rfl, below_drewN (Below.refl _ _) _⟩
    | false =>
      rw [q2, Bool.false_or, Bool.false_and] at F
      go_enter Tryz.func140, Tryz.ntmps140
      go_wp2_with fail
      go_quiet (fail)
      go_wp2_with fail
      go_ret
      exact ⟨by rw [F.out]; rfl, below_drewN (Below.refl _ _) _⟩
theorem otherR {ns : List Nd} {cs : List Cb} (hv : validP ⟨ns, cs⟩ = 0) {x : Cb} (hx : x ∈ cs) {u v : Nat} (ht : touchT x u v) : otherV x (u : Int) = v := by
  have hab := valid_abF hv x hx
  unfold otherV
  rcases ht with ⟨h1, h2⟩ | ⟨h1, h2⟩
  · rw [if_pos h1, h2]
  · rw [if_neg (fun e => hab (e.trans h1.symm)), if_pos h1, h2]
end Go.Proofs.YtljojgpjgjfddaaGreat
