/- Several texts in one: TWaysA, TWays, TVal. -/
import Derived.Test.YtljojgpjgjfddaaGreatTReachB
import Derived.Test.YtljojgpjgjfddaaGreatTCheck

/- The contracts of tree.ascending, of tree.isEnd at any cable, of the predicate of tree.ways and of slices.ContainsFunc with it. -/
namespace Go.Proofs.YtljojgpjgjfddaaGreat
open Go.RowKit Go.Maps
set_option linter.unusedVariables false
set_option linter.unusedSimpArgs false

def RelAsc (l : List Int) (w : World) (i : Value) (wr : World) : Prop := ∃ k : Nat, 1 ≤ k ∧ (k = 1 ∨ k ≤ l.length) ∧ i = .int .i64 k ∧ (∀ j, j + 1 < k → l.getD j 0 < l.getD (j + 1) 0) ∧ Below w.heap.size w wr
set_option maxHeartbeats 1000000 in
theorem tasc_any (l : List Int) (a : Option Addr) (c : Nat) (w : World) (hl : l.length ≤ 1000000) (h : IsRec 1 cI 0 w a l.length l) :
    Calls Tryz.prog 102 #[.slice a l.length c] w fun e w' => e = .returned (.bool (ascB l)) ∧ Below w.heap.size w w' := by
  have H := Lib.hid h
  clear h
  go_enter Tryz.func102, Tryz.ntmps102
  go_wp2_with fail
  go_loopw [3] (fun i wr => RelAsc l w i wr) (fun i _ => l.length + 1 - (RowKit.intOf i).toNat)
  case atStart => exact ⟨1, Nat.le_refl _, .inl rfl, rfl, by intro j hj; omega, Below.refl _ _⟩
  case round =>
    obtain ⟨k, hk1, hk2, rfl, hall, bel⟩ := hrel
    have HA := Lib.hid hall
    have BE := Lib.hid bel
    clear hall
    by_cases hkr : k < l.length
    · obtain ⟨b1, o1, ha1, hb1, hm1, e1⟩ := int_at (H.out.below (Nat.le_refl _) bel) k hkr
      obtain ⟨b2, o2, ha2, hb2, hm2, e2⟩ := int_at (H.out.below (Nat.le_refl _) bel) (k - 1) (by omega)
      rw [ha1] at ha2
      injection ha2 with ha2
      injection ha2 with q1 q2
      subst q1; subst q2
      have ki : (k : Int) < (l.length : Int) := by omega
      have HS : Hid (l.getD (k - 1) 0 < l.getD k 0 → RelAsc l w (.int .i64 ((k + 1 : Nat) : Int)) wr ∧ ∀ n, RelAsc l w (.int .i64 ((k + 1 : Nat) : Int)) (wr.drewN n)) := fun h => by
        have h2 : ∀ j, j + 1 < k + 1 → l.getD j 0 < l.getD (j + 1) 0 := fun j hj => by
          by_cases e : j + 1 = k
          · rw [e, show j = k - 1 by omega]; exact h
          · exact HA.out j (by omega)
        exact ⟨⟨k + 1, by omega, .inr (by omega), rfl, h2, BE.out⟩, fun n => ⟨k + 1, by omega, .inr (by omega), rfl, h2, below_drewN BE.out n⟩⟩
      have HF : Hid (¬ l.getD (k - 1) 0 < l.getD k 0 → ascB l = false) := fun h => by
        cases hq : ascB l with
        | false => rfl
        | true =>
          have := ascB_getD.1 hq (k - 1) (by omega)
          rw [show k - 1 + 1 = k by omega] at this
          exact absurd this h
      generalize l.getD (k - 1) 0 = y at *
      generalize l.getD k 0 = x at *
      subst ha1
      have k1 : IntKind.i64.wrap ((k : Int) - 1) = ((k - 1 : Nat) : Int) := by rw [show ((k : Int) - 1) = ((k - 1 : Nat) : Int) by omega]; exact IntWalk.i64_in _ (by omega)
      have kj : ((k - 1 : Nat) : Int) < (l.length : Int) := by omega
      obtain ⟨j, hj⟩ : ∃ j, k - 1 = j := ⟨_, rfl⟩
      rw [hj] at k1 kj e2
      clear hm1 hm2 bel
      by_cases hxy : y < x
      · have R := Lib.hid (HS.out hxy)
        have hyx : ¬ x ≤ y := by omega
        clear HS HF
        go_wp2_with fail
        go_quiet (fail)
        clear k1
        go_wp2_with fail
        exact ⟨by simpa using R.out.2 _, by simp [RowKit.intOf]; omega⟩
      · have F := Lib.hid (HF.out hxy)
        have hyx : x ≤ y := by omega
        clear HS HF
        go_wp2_with fail
        go_quiet (fail)
        go_wp2_with fail
        go_ret
        exact ⟨by rw [F.out]; rfl, below_drewN BE.out _⟩
    · have F : Hid (ascB l = true) := ascB_getD.2 fun j hj => HA.out j (by omega)
      clear bel
      go_wp2_with fail
      go_ret
      exact ⟨by rw [F.out]; rfl, BE.out⟩
theorem tendg_any (ns : List Nd) (cs : List Cb) (An Ac : Option Addr) (cn cc : Nat) (c u : Int) (w : World) (hl : cs.length ≤ 1000000) (h : IsRec 6 cC cb0 w Ac cs.length cs) :
    Calls Tryz.prog 75 #[.agg #[.slice An ns.length cn, .slice Ac cs.length cc], .int .i64 c, .int .i64 u] w fun e w' => e = .returned (.bool (isEndB cs c u)) ∧ Below w.heap.size w w' := by
  by_cases h0 : 0 ≤ c
  · by_cases h1 : c < cs.length
    · obtain ⟨k, rfl⟩ : ∃ k : Nat, c = k := ⟨c.toNat, by omega⟩
      have E : isEndB cs (k : Int) u = endT (cs.getD k cb0) u := by unfold isEndB; rw [decide_eq_true h0, decide_eq_true h1, Int.toNat_natCast]; rfl
      rw [E]
      exact tend_any ns cs An Ac cn cc k u w hl (by omega) h
    · have E : Hid (isEndB cs c u = false) := by rw [Hid]; unfold isEndB; rw [decide_eq_false h1]; simp
      have B : Hid (Below w.heap.size w (w.alloc (.cells #[.slice An ns.length cn, .slice Ac cs.length cc] 25))) := (Below.refl _ _).alloc (Nat.le_refl _) _
      clear h
      go_enter Tryz.func75, Tryz.ntmps75
      go_wp2_with fail
      go_ret
      exact ⟨by rw [E.out]; rfl, B.out⟩
  · have E : Hid (isEndB cs c u = false) := by rw [Hid]; unfold isEndB; rw [decide_eq_false h0]; simp
    have B : Hid (Below w.heap.size w (w.alloc (.cells #[.slice An ns.length cn, .slice Ac cs.length cc] 25))) := (Below.refl _ _).alloc (Nat.le_refl _) _
    clear h
    go_enter Tryz.func75, Tryz.ntmps75
    go_wp2_with fail
    go_ret
    exact ⟨by rw [E.out]; rfl, B.out⟩
set_option maxHeartbeats 1000000 in
theorem tways1_any (ns : List Nd) (cs : List Cb) (An Ac : Option Addr) (cn cc ga gb : Nat) (c u : Int) (w : World) (hl : cs.length ≤ 1000000) (ha : ga < w.heap.size) (hb : gb < w.heap.size) (h0 : w.cell? ⟨ga, 0, none⟩ = some (.slice An ns.length cn)) (h1 : w.cell? ⟨ga, 1, none⟩ = some (.slice Ac cs.length cc))
    (hy : w.cell? ⟨gb, 0, none⟩ = some (.int .i64 u)) (h : IsRec 6 cC cb0 w Ac cs.length cs) :
    Calls Tryz.prog 101 #[.int .i64 c, .pointer (some ⟨ga, 0, none⟩), .pointer (some ⟨gb, 0, none⟩)] w fun e w' => e = .returned (.bool (!isEndB cs c u)) ∧ Below w.heap.size w w' := by
  have HC := Lib.hid (tendg_any ns cs An Ac cn cc c u w hl h)
  clear h
  go_enter Tryz.func101, Tryz.ntmps101
  go_wp2_with fail
  refine HC.out.mono ?_
  rintro e w2 ⟨rfl, bel⟩
  have BE := Lib.hid bel
  clear bel HC
  go_wp2_with fail
  go_ret
  exact ⟨rfl, BE.out⟩
def RelIF (p : Int → Bool) (l : List Int) (w0 : World) (i : Value) (wr : World) : Prop := ∃ k : Nat, k ≤ l.length ∧ i = .int .i64 k ∧ (∀ q ∈ l.take k, p q = false) ∧ Below w0.heap.size w0 wr
set_option maxRecDepth 100000 in
set_option maxHeartbeats 1000000 in
theorem idxFI_any (p : Int → Bool) (ga gb : Nat) (l : List Int) (a : Option Addr) (c : Nat) (w : World) (hl : l.length ≤ 1000000) (h : IsRec 1 cI 0 w a l.length l)
    (hp : ∀ x w', Below w.heap.size w w' → Calls Tryz.prog 101 #[.int .i64 x, .pointer (some ⟨ga, 0, none⟩), .pointer (some ⟨gb, 0, none⟩)] w' fun e w'' => e = .returned (.bool (p x)) ∧ Below w'.heap.size w' w'') :
    Calls Tryz.prog 126 #[.slice a l.length c, .func (.func 101) #[] #[.pointer (some ⟨ga, 0, none⟩), .pointer (some ⟨gb, 0, none⟩)]] w fun e w' =>
      (∃ n : Int, e = .returned (.int .i64 n) ∧ decide (0 ≤ n) = l.any p) ∧ Below w.heap.size w w' := by
  have H := Lib.hid h
  have HP := Lib.hid hp
  clear h hp
  go_enter Tryz.func126, Tryz.ntmps126
  go_wp2_with fail
  go_loopw [8] (fun i wr => RelIF p l w i wr) (fun i _ => l.length - (RowKit.intOf i).toNat)
  case atStart => exact ⟨0, Nat.zero_le _, rfl, by simp, Below.refl _ _⟩
  case round =>
    obtain ⟨k, hk, rfl, hall, bel⟩ := hrel
    have HA := Lib.hid hall
    have BE := Lib.hid bel
    clear hall
    by_cases hkr : k < l.length
    · obtain ⟨b1, o1, ha1, hb1, hm1, e1⟩ := int_at (H.out.below (Nat.le_refl _) bel) k hkr
      have HS : Hid (p (l.getD k 0) = false → ∀ w', Below w.heap.size w w' → RelIF p l w (.int .i64 ((k + 1 : Nat) : Int)) w') := fun hx w' hb => ⟨k + 1, by omega, rfl, fun q hq => by
        rw [take_snocG 0 l k hkr, List.mem_append, List.mem_singleton] at hq
        rcases hq with hq | rfl
        · exact HA.out q hq
        · exact hx, hb⟩
      have HY : Hid (p (l.getD k 0) = true → l.any p = true) := fun hx => List.any_eq_true.2 ⟨_, hm1, hx⟩
      have HC := Lib.hid (HP.out (l.getD k 0) wr bel)
      generalize l.getD k 0 = d at *
      subst ha1
      have i2 : (k : Int) < (l.length : Int) := by omega
      clear hm1 bel
      go_wp2_with fail
      refine HC.out.mono ?_
      rintro e w2 ⟨rfl, bel2⟩
      have B2 : Hid (Below w.heap.size w w2) := BE.out.trans (bel2.mono BE.out.size)
      clear bel2 e1
      cases hq : p d with
      | true =>
        have F : Hid (decide ((0 : Int) ≤ (k : Int)) = l.any p) := by rw [Hid, HY.out hq]; simp
        clear HS HY hq
        go_wp2_with fail
        go_ret
        exact ⟨⟨_, rfl, F.out⟩, B2.out⟩
      | false =>
        have R := Lib.hid (HS.out hq w2 B2.out)
        clear HS HY hq
        go_wp2_with fail
        exact ⟨by simpa using R.out, by simp [RowKit.intOf]; omega⟩
    · obtain rfl : k = l.length := by omega
      have F : Hid (decide ((0 : Int) ≤ -1) = l.any p) := by
        have h1 := HA.out
        rw [List.take_length] at h1
        have : l.any p = false := by rw [List.any_eq_false]; intro q hq; rw [h1 q hq]; simp
        rw [Hid, this]; rfl
      clear bel
      go_wp2_with fail
      go_ret
      exact ⟨⟨_, rfl, F.out⟩, BE.out⟩
set_option maxHeartbeats 1000000 in
theorem contFI_any (p : Int → Bool) (ga gb : Nat) (l : List Int) (a : Option Addr) (c : Nat) (w : World) (hl : l.length ≤ 1000000) (h : IsRec 1 cI 0 w a l.length l)
    (hp : ∀ x w', Below w.heap.size w w' → Calls Tryz.prog 101 #[.int .i64 x, .pointer (some ⟨ga, 0, none⟩), .pointer (some ⟨gb, 0, none⟩)] w' fun e w'' => e = .returned (.bool (p x)) ∧ Below w'.heap.size w' w'') :
    Calls Tryz.prog 103 #[.slice a l.length c, .func (.func 101) #[] #[.pointer (some ⟨ga, 0, none⟩), .pointer (some ⟨gb, 0, none⟩)]] w fun e w' => e = .returned (.bool (l.any p)) ∧ Below w.heap.size w w' := by
  have HC := Lib.hid (idxFI_any p ga gb l a c w hl h hp)
  clear h hp
  go_enter Tryz.func103, Tryz.ntmps103
  go_wp2_with fail
  refine HC.out.mono ?_
  rintro e w2 ⟨⟨n, rfl, hn⟩, bel⟩
  have HN := Lib.hid hn
  have BE := Lib.hid bel
  clear hn bel
  go_wp2_with fail
  go_ret
  exact ⟨by rw [← HN.out]; rfl, BE.out⟩
end Go.Proofs.YtljojgpjgjfddaaGreat

/- The contract of tree.ways. -/
namespace Go.Proofs.YtljojgpjgjfddaaGreat
open Go.RowKit Go.Maps
set_option linter.unusedVariables false
set_option linter.unusedSimpArgs false

def rowOkB (cs : List Cb) (out : List (List Int)) (u : Nat) : Bool := ascB (out.getD u []) && (out.getD u []).all fun c => isEndB cs c (u : Int)
theorem rowOkB_any {cs : List Cb} {out : List (List Int)} {u : Nat} : rowOkB cs out u = (ascB (out.getD u []) && !((out.getD u []).any fun c => !isEndB cs c (u : Int))) := by
  unfold rowOkB
  congr 1
  rw [List.not_any_eq_all_not]
  simp
def delB (n : Nat) (ov : List Int) (v : Int) : Bool := decide (0 ≤ v) && decide (v < n) && decide (ov.getD v.toNat 0 ≠ -2)
def WPost (ns : List Nd) (cs : List Cb) (x : Tr) (w : World) (e : Ending) (w' : World) : Prop :=
  Below w.heap.size w w' ∧ ((waysB ns cs x = false ∧ e = .returned (.tuple #[.slice none 0 0, .bool false])) ∨
    (waysB ns cs x = true ∧ ∃ g, e = .returned (.tuple #[.slice (some ⟨g, 0, none⟩) ns.length ns.length, .bool true]) ∧ w.heap.size ≤ g ∧ IsRec 1 cI 0 w' (some ⟨g, 0, none⟩) ns.length (reachR ns.length cs x).1))
section
variable {ns : List Nd} {cs : List Cb} {x : Tr}
theorem wb1 (h : validP ⟨ns, cs⟩ ≠ 0) : waysB ns cs x = false := by unfold waysB waysB1; rw [decide_eq_false h]; rfl
theorem wb2 (h : isNodeB ns x.src = false) : waysB ns cs x = false := by
  unfold isNodeB at h
  unfold waysB waysB1
  cases h1 : decide (0 ≤ x.src)
  · simp
  · rw [h1] at h; simp only [Bool.true_and] at h; rw [h]; simp
theorem wb3 (h : x.out.length ≠ ns.length) : waysB ns cs x = false := by unfold waysB waysB1; rw [decide_eq_false h]; simp
theorem wb4 (h : rowsOk cs x.out = false) : waysB ns cs x = false := by unfold waysB waysB1; rw [h]; simp
theorem wb5 (h : (reachR ns.length cs x).2 = false) : waysB ns cs x = false := by unfold waysB; rw [h]; simp
theorem wb6 (h : ascB x.del = false) : waysB ns cs x = false := by unfold waysB; rw [h]; simp
theorem wb7 (h : x.del.all (delB ns.length (reachR ns.length cs x).1) = false) : waysB ns cs x = false := by
  unfold waysB; rw [show delOk ns.length (reachR ns.length cs x).1 x.del = false from h]; simp
theorem wb8 (h : (List.range ns.length).all (rowFine (reachR ns.length cs x).1 x) = false) : waysB ns cs x = false := by unfold waysB; rw [h]; simp
theorem wb0 (h1 : validP ⟨ns, cs⟩ = 0) (h2 : isNodeB ns x.src = true) (h3 : x.out.length = ns.length) (h4 : rowsOk cs x.out = true) (h5 : (reachR ns.length cs x).2 = true) (h6 : ascB x.del = true) (h7 : x.del.all (delB ns.length (reachR ns.length cs x).1) = true) (h8 : (List.range ns.length).all (rowFine (reachR ns.length cs x).1 x) = true) : waysB ns cs x = true := by
  unfold isNodeB at h2
  rw [Bool.and_eq_true] at h2
  unfold waysB waysB1
  rw [decide_eq_true h1, h2.1, h2.2, decide_eq_true h3, h4, h5, h6, show delOk ns.length (reachR ns.length cs x).1 x.del = true from h7, h8]
  rfl
end
theorem range_all_bad {f : Nat → Bool} {n k : Nat} (hk : k < n) (h : f k = false) : (List.range n).all f = false := by
  rw [List.all_eq_false]; exact ⟨k, List.mem_range.2 hk, by rw [h]; decide⟩
theorem range_all_succ {f : Nat → Bool} {k : Nat} : (List.range (k + 1)).all f = ((List.range k).all f && f k) := by rw [List.range_succ, List.all_append]; simp
def RelWR (cs : List Cb) (out : List (List Int)) (w1 : World) (i : Value) (wr : World) : Prop := ∃ k : Nat, k ≤ out.length ∧ i = .int .i64 k ∧ (List.range k).all (rowOkB cs out) = true ∧ Below w1.heap.size w1 wr
def RelDl (pr : Int → Bool) (ms : List Int) (w1 : World) (b : Nat) (i : Value) (wr : World) : Prop :=
  ∃ k : Nat, k ≤ ms.length ∧ i = .int .i64 k ∧ OMap wr Tryz.prog 3 b k (setM (intLits ms k)) ∧ (ms.take k).all pr = true ∧ Below b w1 wr
def RelFn (ov : List Int) (x : Tr) (n : Nat) (w2 : World) (i : Value) (wr : World) : Prop := ∃ k : Nat, k ≤ n ∧ i = .int .i64 k ∧ (List.range k).all (rowFine ov x) = true ∧ w2 = wr
set_option maxRecDepth 100000 in
set_option maxHeartbeats 4000000 in
theorem ways_any (ns : List Nd) (cs : List Cb) (x : Tr) (An Ac aO aD : Option Addr) (cn cc cO cD : Nat) (w : World) (hl : ns.length ≤ 1000000) (hl2 : cs.length ≤ 1000000) (hwf : WfP ⟨ns, cs⟩) (hol : x.out.length ≤ 1000000) (hrl : ∀ r ∈ x.out, r.length ≤ 1000000) (hdl : x.del.length ≤ 1000000)
    (h : IsPlan w An Ac ⟨ns, cs⟩) (h2 : IsRows w aO x.out.length x.out) (h3 : IsRec 1 cI 0 w aD x.del.length x.del) :
    Calls Tryz.prog 50 #[.agg #[.slice An ns.length cn, .slice Ac cs.length cc], .agg #[.int .i64 x.src, .slice aO x.out.length cO, .slice aD x.del.length cD]] w (WPost ns cs x w) := by
  have hmm := @run_makeMap Tryz.prog
  obtain ⟨w1, hw1⟩ : ∃ w1 : World, (w.alloc (.cells #[.slice An ns.length cn, .slice Ac cs.length cc] 25)).alloc (.cells #[.int .i64 x.src, .slice aO x.out.length cO, .slice aD x.del.length cD] 56) = w1 := ⟨_, rfl⟩
  have s0 : w1.cell? ⟨w.heap.size, 0, none⟩ = some (.slice An ns.length cn) := by rw [← hw1]; simp [go_sem]
  have s1 : w1.cell? ⟨w.heap.size, 1, none⟩ = some (.slice Ac cs.length cc) := by rw [← hw1]; simp [go_sem]
  have t0 : w1.cell? ⟨w.heap.size + 1, 0, none⟩ = some (.int .i64 x.src) := by rw [← hw1]; simp [go_sem]
  have t1 : w1.cell? ⟨w.heap.size + 1, 1, none⟩ = some (.slice aO x.out.length cO) := by rw [← hw1]; simp [go_sem]
  have t2 : w1.cell? ⟨w.heap.size + 1, 2, none⟩ = some (.slice aD x.del.length cD) := by rw [← hw1]; simp [go_sem]
  have sz1 : w.heap.size + 1 < w1.heap.size := by rw [← hw1]; simp
  have BW0 : Below w.heap.size w w1 := by rw [← hw1]; exact ((Below.refl _ _).alloc (Nat.le_refl _) _).alloc (by simp) _
  have P1 := Lib.hid (h.below (Nat.le_refl _) BW0)
  have R1 := Lib.hid (h2.below (Nat.le_refl _) BW0)
  have D1 := Lib.hid (h3.below (Nat.le_refl _) BW0)
  have HW1 := Lib.hid hw1
  have HW := Lib.hid hwf
  have HRL := Lib.hid hrl
  have KC : Hid (∀ w', Below w1.heap.size w1 w' → (w'.cell? ⟨w.heap.size, 0, none⟩ = some (.slice An ns.length cn) ∧ w'.cell? ⟨w.heap.size, 1, none⟩ = some (.slice Ac cs.length cc)) ∧ (w'.cell? ⟨w.heap.size + 1, 0, none⟩ = some (.int .i64 x.src) ∧ w'.cell? ⟨w.heap.size + 1, 1, none⟩ = some (.slice aO x.out.length cO) ∧ w'.cell? ⟨w.heap.size + 1, 2, none⟩ = some (.slice aD x.del.length cD)) ∧ w.heap.size + 1 < w'.heap.size ∧ Below w.heap.size w w') :=
    fun w' hb => ⟨⟨(hb.cell (by show w.heap.size < _; omega)).trans s0, (hb.cell (by show w.heap.size < _; omega)).trans s1⟩, ⟨(hb.cell (by exact sz1)).trans t0, (hb.cell (by exact sz1)).trans t1, (hb.cell (by exact sz1)).trans t2⟩, by have := hb.size; omega, BW0.trans (hb.mono (by omega))⟩
  obtain ⟨sr, hsr⟩ : ∃ sr, x.src = sr := ⟨_, rfl⟩
  have SR := Lib.hid hsr
  obtain ⟨out, hout⟩ : ∃ out, x.out = out := ⟨_, rfl⟩
  have HOUT := Lib.hid hout
  obtain ⟨del, hdel⟩ : ∃ del, x.del = del := ⟨_, rfl⟩
  have HDEL := Lib.hid hdel
  have XW : Hid (WPost ns cs x w = WPost ns cs x w) := rfl
  clear h h2 h3 hw1 hwf hrl BW0
  rw [hsr] at t0 KC HW1
  rw [hout] at t1 KC HW1 R1 HRL hol
  rw [hdel] at t2 KC HW1 D1 hdl
  rw [hsr, hout, hdel]
  clear hsr hout hdel
  have WFalse : Hid (∀ w', waysB ns cs x = false → Below w.heap.size w w' → WPost ns cs x w (.returned (.tuple #[.slice none 0 0, .bool false])) w') := fun w' h1 h2 => ⟨h2, .inl ⟨h1, rfl⟩⟩
  by_cases hv : validP ⟨ns, cs⟩ = 0
  · have HV := Lib.hid hv
    clear hv
    cases hs : isNodeB ns sr with
    | false =>
      have FIN : Hid (waysB ns cs x = false) := wb2 (by rw [SR.out]; exact hs)
      have HS := Lib.hid hs
      clear hs
      go_enter Tryz.func50, Tryz.ntmps50
      go_wp2_with fail
      rw [HW1.out]
      refine (gvalid_any ⟨ns, cs⟩ An Ac cn cc _ hl hl2 HW.out P1.out).mono ?_
      rintro e w2 ⟨rfl, bel2⟩
      rw [HV.out]
      have B2 := Lib.hid bel2
      obtain ⟨⟨u0, u1⟩, ⟨u2, u3, u4⟩, sz2, bw2⟩ := KC.out w2 bel2
      clear s0 s1 t0 t1 t2 bel2
      go_wp2_with fail
      refine (tisnode_any ns An Ac cn cs.length cc sr _ hl).mono ?_
      rintro e w3 ⟨rfl, e3⟩
      have BW3 : Hid (Below w.heap.size w w3) := by rw [Hid, ← e3]; exact bw2.alloc (by omega) _
      rw [HS.out]
      clear e3 bw2
      go_wp2_with fail
      go_ret2
      exact WFalse.out _ FIN.out BW3.out
    | true =>
      have HS := Lib.hid hs
      clear hs
      by_cases hlen : out.length = ns.length
      · have q1 : ((out.length : Int) != (ns.length : Int)) = false := by simp [hlen]
        have HLN := Lib.hid hlen
        clear hlen
        go_enter Tryz.func50, Tryz.ntmps50
        go_wp2_with fail
        rw [HW1.out]
        refine (gvalid_any ⟨ns, cs⟩ An Ac cn cc _ hl hl2 HW.out P1.out).mono ?_
        rintro e w2 ⟨rfl, bel2⟩
        rw [HV.out]
        have B2 := Lib.hid bel2
        obtain ⟨⟨u0, u1⟩, ⟨u2, u3, u4⟩, sz2, bw2⟩ := KC.out w2 bel2
        clear s0 s1 t0 t1 t2 bel2
        go_wp2_with fail
        refine (tisnode_any ns An Ac cn cs.length cc sr _ hl).mono ?_
        rintro e w3 ⟨rfl, e3⟩
        rw [HS.out]
        have B3 : Hid (Below w1.heap.size w1 w3) := by rw [Hid, ← e3]; exact B2.out.alloc B2.out.size _
        obtain ⟨⟨v0, v1⟩, ⟨v2, v3, v4⟩, sz3, bw3⟩ := KC.out w3 B3.out
        have BF3 := Lib.hid bw3
        clear e3 bw2 bw3 u0 u1 u2 u3 u4
        go_wp2_with fail
        clear q1
        go_loopw [38] (fun i wr => RelWR cs out w3 i wr) (fun i _ => out.length - (RowKit.intOf i).toNat)
        case atStart => exact ⟨0, Nat.zero_le _, rfl, rfl, Below.refl _ _⟩
        case round =>
          clear v0 v1 v2 v3 v4
          obtain ⟨k, hk, rfl, hall, bel⟩ := hrel
          have HA := Lib.hid hall
          have BE := Lib.hid bel
          have B4 := Lib.hid (B3.out.trans (bel.mono B3.out.size))
          have bs := bel.size
          obtain ⟨⟨v0, v1⟩, ⟨v2, v3, v4⟩, sz4, bw4⟩ := KC.out wr B4.out
          have BW4 := Lib.hid bw4
          clear hall bel bw4
          by_cases hkr : k < out.length
          · obtain ⟨bo, oo, ar, capr, hao, hbo, hmr, hrr, cr0⟩ := (R1.out.below (Nat.le_refl _) B4.out).at_ k hkr
            have hrow := HRL.out _ hmr
            have AS : Hid ((List.range (k + 1)).all (rowOkB cs out) = ((List.range k).all (rowOkB cs out) && rowOkB cs out k)) := range_all_succ
            have AB : Hid (rowOkB cs out k = false → waysB ns cs x = false) := fun h => wb4 (by rw [HOUT.out]; exact range_all_bad hkr h)
            have RO := Lib.hid (rowOkB_any (cs := cs) (out := out) (u := k))
            generalize out.getD k [] = row at *
            subst hao
            have RR := Lib.hid hrr
            have ki : (k : Int) < (out.length : Int) := by omega
            obtain ⟨wa, hwa⟩ : ∃ wa : World, wr.alloc (.cells #[.int .i64 (k : Int)] 3) = wa := ⟨_, rfl⟩
            have BA : Hid (Below wr.heap.size wr wa) := by rw [Hid, ← hwa]; exact (Below.refl _ _).alloc (Nat.le_refl _) _
            have HWA := Lib.hid hwa
            have sza : wr.heap.size < wa.heap.size := by rw [← hwa]; simp
            have ca : wa.cell? ⟨wr.heap.size, 0, none⟩ = some (.int .i64 (k : Int)) := by rw [← hwa]; simp [go_sem]
            have CA := Lib.hid (tasc_any row ar capr wa hrow (RR.out.below (Nat.le_refl _) BA.out))
            have CF : Hid (∀ w', Below wa.heap.size wa w' → Calls Tryz.prog 103 #[.slice ar row.length capr, .func (.func 101) #[] #[.pointer (some ⟨w.heap.size, 0, none⟩), .pointer (some ⟨wr.heap.size, 0, none⟩)]] w' fun e w'' => e = .returned (.bool (row.any fun c => !isEndB cs c (k : Int))) ∧ Below w'.heap.size w' w'') := fun w' hb => by
              have b5 := BA.out.trans (hb.mono BA.out.size)
              refine contFI_any (fun c => !isEndB cs c (k : Int)) w.heap.size wr.heap.size row ar capr w' hrow (RR.out.below (Nat.le_refl _) b5) fun y w'' hb2 => ?_
              have b6 := b5.trans (hb2.mono b5.size)
              have s6 := b6.size
              refine tways1_any ns cs An Ac cn cc w.heap.size wr.heap.size y (k : Int) w'' hl2 (by omega) (by have := hb.size; have := hb2.size; omega) ((b6.cell (by show w.heap.size < _; omega)).trans v0) ((b6.cell (by show w.heap.size < _; omega)).trans v1) ?_ ((P1.out.below (Nat.le_refl _) (B4.out.trans (b6.mono B4.out.size))).2)
              have b7 : Below wa.heap.size wa w'' := hb.trans (hb2.mono hb.size)
              exact (b7.cell (p := ⟨wr.heap.size, 0, none⟩) sza).trans ca
            clear hmr hrr hwa
            cases hq1 : ascB row with
            | false =>
              have FIN := Lib.hid (AB.out (by rw [RO.out, hq1]; rfl))
              rw [hq1] at CA
              clear hq1 AS AB RO CF
              go_wp2_with fail
              rw [HWA.out]
              refine CA.out.mono ?_
              rintro e w5 ⟨rfl, bel5⟩
              have BW5 : Hid (Below w.heap.size w w5) := BW4.out.trans ((BA.out.trans (bel5.mono BA.out.size)).mono (by omega))
              clear bel5
              go_wp2_with fail
              go_ret2
              exact WFalse.out _ FIN.out BW5.out
            | true =>
              rw [hq1] at CA
              cases hq2 : row.any fun c => !isEndB cs c (k : Int) with
              | true =>
                have FIN := Lib.hid (AB.out (by rw [RO.out, hq2]; simp))
                rw [hq2] at CF
                clear hq1 hq2 AS AB RO
                go_wp2_with fail
                rw [HWA.out]
                refine CA.out.mono ?_
                rintro e w5 ⟨rfl, bel5⟩
                have B5 := Lib.hid bel5
                have BW5 : Hid (Below w.heap.size w w5) := BW4.out.trans ((BA.out.trans (bel5.mono BA.out.size)).mono (by omega))
                clear bel5
                go_wp2_with fail
                refine (CF.out w5 B5.out).mono ?_
                rintro e w6 ⟨rfl, bel6⟩
                have BW6 : Hid (Below w.heap.size w w6) := BW5.out.trans (bel6.mono BW5.out.size)
                clear bel6
                go_wp2_with fail
                go_ret2
                exact WFalse.out _ FIN.out BW6.out
              | false =>
                have R : Hid (∀ w', Below w3.heap.size w3 w' → RelWR cs out w3 (.int .i64 ((k + 1 : Nat) : Int)) w') := fun w' hb => ⟨k + 1, by omega, rfl, by rw [AS.out, HA.out, RO.out, hq1, hq2]; rfl, hb⟩
                rw [hq2] at CF
                clear hq1 hq2 AS AB RO
                go_wp2_with fail
                rw [HWA.out]
                refine CA.out.mono ?_
                rintro e w5 ⟨rfl, bel5⟩
                have B5 := Lib.hid bel5
                have BW5 : Hid (Below w3.heap.size w3 w5) := BE.out.trans ((BA.out.trans (bel5.mono BA.out.size)).mono BE.out.size)
                clear bel5
                go_wp2_with fail
                refine (CF.out w5 B5.out).mono ?_
                rintro e w6 ⟨rfl, bel6⟩
                have R6 := Lib.hid (R.out w6 (BW5.out.trans (bel6.mono BW5.out.size)))
                clear bel6
                go_wp2_with fail
                exact ⟨by simpa using R6.out, by simp [RowKit.intOf]; omega⟩
          · obtain rfl : k = out.length := by omega
            have RO : Hid (rowsOk cs out = true) := HA.out
            have hs' := HS.out
            unfold isNodeB at hs'
            simp only [Bool.and_eq_true, decide_eq_true_eq] at hs'
            have RC := reach_any ns cs x An Ac aO aD cn cc cO cD wr HV.out (by rw [HOUT.out]; exact HLN.out) (by rw [HOUT.out]; exact RO.out) (by rw [HOUT.out]; exact HRL.out) (by rw [SR.out]; exact hs'.1) (by rw [SR.out]; exact hs'.2) (P1.out.below (Nat.le_refl _) B4.out) (by rw [HOUT.out]; exact R1.out.below (Nat.le_refl _) B4.out)
            rw [SR.out, HOUT.out, HDEL.out] at RC
            have HRC := Lib.hid RC
            clear RC hs'
            go_wp2_with fail
            refine HRC.out.mono ?_
            rintro e w5 ⟨g, rfl, hg, ir, bel5⟩
            have IR := Lib.hid ir
            have B5 := Lib.hid (B4.out.trans (bel5.mono B4.out.size))
            clear v0 v1 v2 v3 v4
            obtain ⟨⟨v0, v1⟩, ⟨v2, v3, v4⟩, sz5, bw5⟩ := KC.out w5 B5.out
            have BW5 := Lib.hid bw5
            have hgw : w.heap.size ≤ g := Nat.le_trans BW4.out.size hg
            clear HRC ir bel5 bw5
            cases hq1 : (reachR ns.length cs x).2 with
            | false =>
              have FIN := Lib.hid (wb5 hq1)
              clear hq1
              go_wp2_with fail
              go_ret2
              exact WFalse.out _ FIN.out BW5.out
            | true =>
              have OK := Lib.hid hq1
              have CA := Lib.hid (tasc_any del aD cD w5 hdl (D1.out.below (Nat.le_refl _) B5.out))
              clear hq1
              cases hq2 : ascB del with
              | false =>
                have FIN : Hid (waysB ns cs x = false) := wb6 (by rw [HDEL.out]; exact hq2)
                rw [hq2] at CA
                clear hq2
                go_wp2_with fail
                refine CA.out.mono ?_
                rintro e w6 ⟨rfl, bel6⟩
                have BW6 : Hid (Below w.heap.size w w6) := BW5.out.trans (bel6.mono BW5.out.size)
                clear bel6
                go_wp2_with fail
                go_ret2
                exact WFalse.out _ FIN.out BW6.out
              | true =>
                have ASC := Lib.hid hq2
                rw [hq2] at CA
                clear hq2
                go_wp2_with fail
                refine CA.out.mono ?_
                rintro e w6 ⟨rfl, bel6⟩
                have B6 := Lib.hid (B5.out.trans (bel6.mono B5.out.size))
                have IR6 := Lib.hid (IR.out.below (Nat.le_refl _) bel6)
                clear v0 v1 v2 v3 v4
                obtain ⟨⟨v0, v1⟩, ⟨v2, v3, v4⟩, sz6, bw6⟩ := KC.out w6 B6.out
                have BW6 := Lib.hid bw6
                clear bel6 bw6 IR CA
                go_wp2_with fail
                clear hmm
                go_loopw [71] (fun i wr => RelDl (delB ns.length (reachR ns.length cs x).1) del w6 w6.heap.size i wr) (fun i _ => del.length - (RowKit.intOf i).toNat)
                case atStart => exact ⟨0, Nat.zero_le _, rfl, OMap.made _ _ _, rfl, (Below.refl _ _).alloc (Nat.le_refl _) _⟩
                case round =>
                  obtain ⟨k, hk, rfl, om, hall, bel⟩ := hrel
                  have HA7 := Lib.hid hall
                  have OM := Lib.hid om
                  have lt7 := om.lt
                  have bs := bel.size
                  have BE7 := Lib.hid bel
                  have B7 := Lib.hid (B6.out.trans (bel.mono B6.out.size))
                  have IR7 := IR6.out.below (Nat.le_refl _) bel
                  clear v0 v1 v2 v3 v4
                  obtain ⟨⟨v0, v1⟩, ⟨v2, v3, v4⟩, sz7, bw7⟩ := KC.out wr B7.out
                  have BW7 := Lib.hid bw7
                  clear om hall bel bw7
                  by_cases hkr : k < del.length
                  · obtain ⟨b1, o1, ha1, hb1, hm1, e1⟩ := int_at (D1.out.below (Nat.le_refl _) B7.out) k hkr
                    have AS := Lib.hid (all_snoc (delB ns.length (reachR ns.length cs x).1) 0 del k hkr)
                    have AB : Hid (delB ns.length (reachR ns.length cs x).1 (del.getD k 0) = false → waysB ns cs x = false) := fun h => wb7 (by rw [HDEL.out]; exact all_bad (delB ns.length (reachR ns.length cs x).1) 0 del k hkr h)
                    have NS := Lib.hid (intLits_snoc del k hkr)
                    generalize del.getD k 0 = y at *
                    have ED : Hid (delB ns.length (reachR ns.length cs x).1 y = (isNodeB ns y && decide ((reachR ns.length cs x).1.getD y.toNat 0 ≠ -2))) := rfl
                    subst ha1
                    have ki : (k : Int) < (del.length : Int) := by omega
                    clear hm1
                    cases hn : isNodeB ns y with
                    | false =>
                      have FIN := Lib.hid (AB.out (by rw [ED.out, hn]; rfl))
                      have HN := Lib.hid hn
                      clear hn AS AB ED
                      go_wp2_with fail
                      refine (tisnode_any ns An Ac cn cs.length cc y _ hl).mono ?_
                      rintro e w8 ⟨rfl, e8⟩
                      rw [HN.out]
                      have BW8 : Hid (Below w.heap.size w w8) := by rw [Hid, ← e8]; exact BW7.out.alloc (by omega) _
                      clear e8
                      go_wp2_with fail
                      go_ret2
                      exact WFalse.out _ FIN.out BW8.out
                    | true =>
                      have HN := Lib.hid hn
                      unfold isNodeB at hn
                      simp only [Bool.and_eq_true, decide_eq_true_eq] at hn
                      obtain ⟨n0, n1⟩ := hn
                      obtain ⟨j, rfl⟩ : ∃ j : Nat, y = j := ⟨y.toNat, by omega⟩
                      have hjn : j < ns.length := by omega
                      have ji : (j : Int) < (ns.length : Int) := n1
                      obtain ⟨b2, o2, ha2, hb2, hm2, e2⟩ := int_at IR7 j hjn
                      injection ha2 with ha2
                      injection ha2 with q1 q2
                      subst q1; subst q2
                      rw [Nat.zero_add] at e2
                      rw [Int.toNat_natCast] at ED
                      have HK := Lib.hid (keyOf_int_mk (a := (j : Int)) Tryz.underlying3 (wf_small (j : Int) (by omega) (by omega)))
                      generalize hz : (reachR ns.length cs x).1.getD j 0 = z at *
                      have HB8 : Hid (∀ w8, Below w6.heap.size w6 w8 → w8.cell? ⟨g, j, none⟩ = some (.int .i64 z)) := fun w8 hb => by
                        obtain ⟨b3, o3, ha3, _, _, e3⟩ := int_at (IR6.out.below (Nat.le_refl _) hb) j hjn
                        injection ha3 with ha3
                        injection ha3 with q1 q2
                        subst q1; subst q2
                        rw [hz, Nat.zero_add] at e3
                        exact e3
                      clear hm2 n0 n1 hz e2
                      cases hq3 : (z == -2) with
                      | true =>
                        have FIN := Lib.hid (AB.out (by rw [ED.out]; have hz2 : z = -2 := (by simpa using hq3); subst hz2; simp))
                        clear AS AB ED
                        go_wp2_with fail
                        refine (tisnode_any ns An Ac cn cs.length cc (j : Int) _ hl).mono ?_
                        rintro e w8 ⟨rfl, e8⟩
                        rw [HN.out]
                        have BW8 : Hid (Below w.heap.size w w8) := by rw [Hid, ← e8]; exact BW7.out.alloc (by omega) _
                        have e2 := HB8.out w8 (by rw [← e8]; exact (BE7.out.mono (Nat.le_refl _)).alloc (by omega) _)
                        clear e8
                        go_wp2_with fail
                        go_ret2
                        exact WFalse.out _ FIN.out BW8.out
                      | false =>
                        have DT : Hid (delB ns.length (reachR ns.length cs x).1 (j : Int) = true) := by rw [Hid, ED.out, HN.out]; simpa using hq3
                        clear AB ED
                        go_wp2_with fail
                        refine (tisnode_any ns An Ac cn cs.length cc (j : Int) _ hl).mono ?_
                        rintro e w8 ⟨rfl, e8⟩
                        rw [HN.out]
                        have B8 : Hid (Below w6.heap.size w6 w8) := by rw [Hid, ← e8]; exact (BE7.out).alloc (by omega) _
                        have e2 := HB8.out w8 B8.out
                        have OM8 : Hid (OMap w8 Tryz.prog 3 w6.heap.size k (setM (intLits del k))) := by rw [Hid, ← e8]; exact OM.out.alloc _
                        have sz8 := B8.out.size
                        clear e8
                        go_wp2_with (at_mapUpdate; refine wpList_put _ rfl _ _ _ 127 rfl 3 4 (int_keyed Tryz.underlying3) Tryz.underlying127 w6.heap.size k _ rfl OM8.out ?d1 _ _ (.int .i64 (j : Int)) rfl rfl HK.out ?_)
                        case d1 => unfold maxLen; omega
                        intro w9 om9 gr9
                        have R : RelDl (delB ns.length (reachR ns.length cs x).1) del w6 w6.heap.size (.int .i64 ((k + 1 : Nat) : Int)) w9 := by
                          refine ⟨k + 1, by omega, rfl, ?_, by rw [AS.out, HA7.out, DT.out]; rfl, ?_⟩
                          · rw [NS.out, ← setM_snoc]; exact om9
                          · exact B8.out.grown gr9 (by omega) (by intro g e; injection e with e; omega)
                        clear om9 gr9 e2
                        go_wp2
                        exact ⟨by simpa using R, by simp [RowKit.intOf]; omega⟩
                  · obtain rfl : k = del.length := by omega
                    rw [List.take_length] at HA7
                    have OMD := OM.out
                    obtain ⟨w7, rfl⟩ : ∃ w7 : World, w7 = wr := ⟨_, rfl⟩
                    have HIR7 := Lib.hid IR7
                    have HLL := HLN.out
                    clear IR7 HLL
                    go_wp2_with fail
                    go_loopw [92] (fun i wr => RelFn (reachR ns.length cs x).1 x out.length w7 i wr) (fun i _ => out.length - (RowKit.intOf i).toNat)
                    case atStart => exact ⟨0, Nat.zero_le _, rfl, rfl, rfl⟩
                    case round =>
                      obtain ⟨k, hk, rfl, hall, rfl⟩ := hrel
                      have HA8 := Lib.hid hall
                      clear hall
                      by_cases hkr : k < out.length
                      · obtain ⟨bo, oo, ar, capr, hao, hbo, hmr, hrr, cr0⟩ := (R1.out.below (Nat.le_refl _) B7.out).at_ k hkr
                        have AS : Hid ((List.range (k + 1)).all (rowFine (reachR ns.length cs x).1 x) = ((List.range k).all (rowFine (reachR ns.length cs x).1 x) && rowFine (reachR ns.length cs x).1 x k)) := range_all_succ
                        have AB : Hid (rowFine (reachR ns.length cs x).1 x k = false → waysB ns cs x = false) := fun h => wb8 (range_all_bad (by have := HLN.out; omega) h)
                        have FE : Hid (rowFine (reachR ns.length cs x).1 x k = !(((reachR ns.length cs x).1.getD k 0 == -2 && decide (0 < (out.getD k []).length)) || (decide (0 ≤ (reachR ns.length cs x).1.getD k 0) && (out.getD k []).length == 0 && !(del.any fun d => d == (k : Int))))) := by
                          rw [Hid]; unfold rowFine; rw [HOUT.out, HDEL.out]
                        have SG := Lib.hid (setM_get (intLits del del.length) (.int .i64 (k : Int)))
                        have NA : Hid (((intLits del del.length).any fun b => (Lit.int .i64 (k : Int)).sameKey b) = del.any fun d => d == (k : Int)) := by
                          rw [Hid, intLits_any, List.take_length]; rfl
                        have HK := Lib.hid (keyOf_int_mk (a := (k : Int)) Tryz.underlying3 (wf_small (k : Int) (by omega) (by omega)))
                        have hkn : k < ns.length := by have := HLN.out; omega
                        obtain ⟨b2, o2, ha2, hb2, hm2, e2⟩ := int_at HIR7.out k hkn
                        injection ha2 with ha2
                        injection ha2 with q1 q2
                        subst q1; subst q2
                        rw [Nat.zero_add] at e2
                        generalize (reachR ns.length cs x).1.getD k 0 = z at *
                        generalize hrl : (out.getD k []).length = rl at *
                        generalize hda : (del.any fun d => d == (k : Int)) = da at *
                        have TG : Hid ((setM (intLits del del.length) (.int .i64 (k : Int))).getD (.bool false) = .bool da) := by rw [Hid, SG.out, NA.out]
                        subst hao
                        have ki : (k : Int) < (out.length : Int) := by omega
                        have kn : (k : Int) < (ns.length : Int) := by omega
                        have R : Hid (rowFine (reachR ns.length cs x).1 x k = true → RelFn (reachR ns.length cs x).1 x out.length w7 (.int .i64 ((k + 1 : Nat) : Int)) w7) := fun h => ⟨k + 1, by omega, rfl, by rw [AS.out, HA8.out, h]; rfl, rfl⟩
                        clear hmr hrr hm2 SG NA AS hrl hda
                        by_cases hz : z = -2
                        · subst hz
                          by_cases hr : 0 < rl
                          · have FIN := Lib.hid (AB.out (by rw [FE.out, decide_eq_true hr]; rfl))
                            have hr2 : (0 : Int) < (rl : Int) := by omega
                            clear R FE AB hr
                            go_wp2_with fail
                            go_ret2
                            exact WFalse.out _ FIN.out BW7.out
                          · obtain rfl : rl = 0 := by omega
                            have R2 := Lib.hid (R.out (by rw [FE.out]; rfl))
                            clear R FE AB hr
                            go_wp2_with fail
                            exact ⟨by simpa using R2.out, by simp [RowKit.intOf]; omega⟩
                        · have hz2 : (z == -2) = false := by simpa using hz
                          by_cases hz0 : 0 ≤ z
                          · by_cases hr : rl = 0
                            · subst hr
                              cases da with
                              | true =>
                                have R2 := Lib.hid (R.out (by rw [FE.out, hz2]; simp))
                                clear R FE AB hz
                                have r1 := OMD.look (t := 127) (int_keyed Tryz.underlying3) Tryz.underlying127 (zeroBool2 w7) HK.out
                                rw [TG.out] at r1
                                go_wp2_with fail
                                exact ⟨by simpa using R2.out, by simp [RowKit.intOf]; omega⟩
                              | false =>
                                have FIN := Lib.hid (AB.out (by rw [FE.out, hz2, decide_eq_true hz0]; rfl))
                                clear R FE AB hz
                                have r1 := OMD.look (t := 127) (int_keyed Tryz.underlying3) Tryz.underlying127 (zeroBool2 w7) HK.out
                                rw [TG.out] at r1
                                go_wp2_with fail
                                go_ret2
                                exact WFalse.out _ FIN.out BW7.out
                            · have hr2 : ((rl : Int) == 0) = false := by simp; omega
                              have R2 := Lib.hid (R.out (by rw [FE.out, hz2]; have : (rl == 0) = false := (by simpa using hr); rw [this]; simp))
                              clear R FE AB hz hr
                              go_wp2_with fail
                              exact ⟨by simpa using R2.out, by simp [RowKit.intOf]; omega⟩
                          · have R2 := Lib.hid (R.out (by rw [FE.out, hz2, decide_eq_false hz0]; rfl))
                            have hz3 : z < 0 := by omega
                            clear R FE AB hz
                            go_wp2_with fail
                            exact ⟨by simpa using R2.out, by simp [RowKit.intOf]; omega⟩
                      · obtain rfl : k = out.length := by omega
                        have WT : Hid (WPost ns cs x w (.returned (.tuple #[.slice (some ⟨g, 0, none⟩) ns.length ns.length, .bool true])) w7) :=
                          ⟨BW7.out, .inr ⟨wb0 HV.out (by rw [SR.out]; exact HS.out) (by rw [HOUT.out]; exact HLN.out) (by rw [HOUT.out]; exact RO.out) OK.out (by rw [HDEL.out]; exact ASC.out) (by rw [HDEL.out]; exact HA7.out) (by have h8 := HA8.out; rw [HLN.out] at h8; exact h8), g, rfl, hgw, HIR7.out⟩⟩
                        go_wp2_with fail
                        go_ret2
                        exact WT.out
      · have q1 : ((out.length : Int) != (ns.length : Int)) = true := by simp; omega
        have FIN : Hid (waysB ns cs x = false) := wb3 (by rw [HOUT.out]; exact hlen)
        clear hlen
        go_enter Tryz.func50, Tryz.ntmps50
        go_wp2_with fail
        rw [HW1.out]
        refine (gvalid_any ⟨ns, cs⟩ An Ac cn cc _ hl hl2 HW.out P1.out).mono ?_
        rintro e w2 ⟨rfl, bel2⟩
        rw [HV.out]
        have B2 := Lib.hid bel2
        obtain ⟨⟨u0, u1⟩, ⟨u2, u3, u4⟩, sz2, bw2⟩ := KC.out w2 bel2
        clear s0 s1 t0 t1 t2 bel2
        go_wp2_with fail
        refine (tisnode_any ns An Ac cn cs.length cc sr _ hl).mono ?_
        rintro e w3 ⟨rfl, e3⟩
        rw [HS.out]
        have B3 : Hid (Below w1.heap.size w1 w3) := by rw [Hid, ← e3]; exact B2.out.alloc B2.out.size _
        obtain ⟨⟨v0, v1⟩, ⟨v2, v3, v4⟩, sz3, bw3⟩ := KC.out w3 B3.out
        have BF3 := Lib.hid bw3
        clear e3 bw2 bw3 u0 u1 u2 u3 u4
        go_wp2_with fail
        go_ret2
        exact WFalse.out _ FIN.out BF3.out
  · have FIN := Lib.hid (wb1 (x := x) hv)
    have q1 : (validP ⟨ns, cs⟩ != 0) = true := by simpa using hv
    go_enter Tryz.func50, Tryz.ntmps50
    go_wp2_with fail
    rw [HW1.out]
    refine (gvalid_any ⟨ns, cs⟩ An Ac cn cc _ hl hl2 HW.out P1.out).mono ?_
    rintro e w2 ⟨rfl, bel2⟩
    obtain ⟨_, _, _, bw2⟩ := KC.out w2 bel2
    have BF2 := Lib.hid bw2
    generalize validP ⟨ns, cs⟩ = vv at *
    clear s0 s1 t0 t1 t2 bel2 bw2 hv
    go_wp2_with fail
    go_ret2
    exact WFalse.out _ FIN.out BF2.out
end Go.Proofs.YtljojgpjgjfddaaGreat

/- The contracts of tree.Valid and tree.Copies. -/
namespace Go.Proofs.YtljojgpjgjfddaaGreat
open Go.RowKit Go.Maps
set_option linter.unusedVariables false
set_option linter.unusedSimpArgs false

/-- What the contracts ask of a tree: small lists. -/
structure SmallT (x : Tr) : Prop where
  ol : x.out.length ≤ 1000000
  rl : ∀ r ∈ x.out, r.length ≤ 1000000
  dl : x.del.length ≤ 1000000
/-- The tree in memory. -/
structure IsTree (w : World) (aO aD : Option Addr) (x : Tr) : Prop where
  out : IsRows w aO x.out.length x.out
  del : IsRec 1 cI 0 w aD x.del.length x.del
theorem IsTree.below {w w' : World} {B : Nat} {aO aD : Option Addr} {x : Tr} (h : IsTree w aO aD x) (hB : w.heap.size ≤ B) (hb : Below B w w') : IsTree w' aO aD x := ⟨h.out.below hB hb, h.del.below hB hb⟩
def trV (x : Tr) (aO aD : Option Addr) (cO cD : Nat) : Value := .agg #[.int .i64 x.src, .slice aO x.out.length cO, .slice aD x.del.length cD]
theorem tvalid_any (ns : List Nd) (cs : List Cb) (x : Tr) (An Ac aO aD : Option Addr) (cn cc cO cD : Nat) (w : World) (hl : ns.length ≤ 1000000) (hl2 : cs.length ≤ 1000000) (hwf : WfP ⟨ns, cs⟩) (hx : SmallT x) (h : IsPlan w An Ac ⟨ns, cs⟩) (h2 : IsTree w aO aD x) :
    Calls Tryz.prog 19 #[.agg #[.slice An ns.length cn, .slice Ac cs.length cc], trV x aO aD cO cD] w fun e w' => e = .returned (.bool (waysB ns cs x)) ∧ Below w.heap.size w w' := by
  unfold trV
  obtain ⟨w1, hw1⟩ : ∃ w1 : World, (w.alloc (.cells #[.slice An ns.length cn, .slice Ac cs.length cc] 25)).alloc (.cells #[.int .i64 x.src, .slice aO x.out.length cO, .slice aD x.del.length cD] 56) = w1 := ⟨_, rfl⟩
  have BW0 : Hid (Below w.heap.size w w1) := by rw [Hid, ← hw1]; exact ((Below.refl _ _).alloc (Nat.le_refl _) _).alloc (by simp) _
  have WC := Lib.hid (ways_any ns cs x An Ac aO aD cn cc cO cD w1 hl hl2 hwf hx.ol hx.rl hx.dl (h.below (Nat.le_refl _) BW0.out) (h2.out.below (Nat.le_refl _) BW0.out) (h2.del.below (Nat.le_refl _) BW0.out))
  have HW1 := Lib.hid hw1
  clear h h2 hw1 hwf hx
  go_enter Tryz.func19, Tryz.ntmps19
  go_wp2_with fail
  rw [HW1.out]
  refine WC.out.mono ?_
  rintro e w2 ⟨bel, hr⟩
  have BW2 : Hid (Below w.heap.size w w2) := BW0.out.trans (bel.mono BW0.out.size)
  clear bel
  rcases hr with ⟨hb, rfl⟩ | ⟨hb, g, rfl, _, _⟩
  all_goals
    have HB := Lib.hid hb
    clear hb
    go_wp2_with fail
    go_ret
    exact ⟨by rw [HB.out]; rfl, BW2.out⟩
def sumL (rows : List (List Int)) : Nat := (rows.map List.length).sum
def copiesB (ns : List Nd) (cs : List Cb) (x : Tr) : Int := if waysB ns cs x = true then (sumL x.out : Int) else 0
theorem sumL_take (rows : List (List Int)) (k : Nat) (hk : k < rows.length) : sumL (rows.take (k + 1)) = sumL (rows.take k) + (rows.getD k []).length := by
  unfold sumL; rw [take_snocG [] rows k hk, List.map_append, List.sum_append]; simp
def RelCp (rows : List (List Int)) (w2 : World) (n i : Value) (wr : World) : Prop := ∃ k : Nat, k ≤ rows.length ∧ i = .int .i64 k ∧ n = .int .i64 (sumL (rows.take k) : Int) ∧ w2 = wr
theorem sumL_le (rows : List (List Int)) (m : Nat) (h : ∀ r ∈ rows, r.length ≤ m) : sumL rows ≤ rows.length * m := by
  unfold sumL
  induction rows with
  | nil => simp
  | cons r l ih =>
    rw [List.map_cons, List.sum_cons, List.length_cons, Nat.succ_mul]
    have := h r (List.mem_cons_self ..)
    have := ih (fun r hr => h r (List.mem_cons_of_mem _ hr))
    omega
set_option maxHeartbeats 1000000 in
theorem tcopies_any (ns : List Nd) (cs : List Cb) (x : Tr) (An Ac aO aD : Option Addr) (cn cc cO cD : Nat) (w : World) (hl : ns.length ≤ 1000000) (hl2 : cs.length ≤ 1000000) (hwf : WfP ⟨ns, cs⟩) (hx : SmallT x) (h : IsPlan w An Ac ⟨ns, cs⟩) (h2 : IsTree w aO aD x) :
    Calls Tryz.prog 20 #[.agg #[.slice An ns.length cn, .slice Ac cs.length cc], trV x aO aD cO cD] w fun e w' => e = .returned (.int .i64 (copiesB ns cs x)) ∧ Below w.heap.size w w' := by
  unfold trV
  obtain ⟨w1, hw1⟩ : ∃ w1 : World, (w.alloc (.cells #[.slice An ns.length cn, .slice Ac cs.length cc] 25)).alloc (.cells #[.int .i64 x.src, .slice aO x.out.length cO, .slice aD x.del.length cD] 56) = w1 := ⟨_, rfl⟩
  have BW0 : Hid (Below w.heap.size w w1) := by rw [Hid, ← hw1]; exact ((Below.refl _ _).alloc (Nat.le_refl _) _).alloc (by simp) _
  have t1 : w1.cell? ⟨w.heap.size + 1, 1, none⟩ = some (.slice aO x.out.length cO) := by rw [← hw1]; simp [go_sem]
  have sz1 : w.heap.size + 1 < w1.heap.size := by rw [← hw1]; simp
  have WC := tvalid_any ns cs x An Ac aO aD cn cc cO cD w1 hl hl2 hwf hx (h.below (Nat.le_refl _) BW0.out) (h2.below (Nat.le_refl _) BW0.out)
  unfold trV at WC
  have HC := Lib.hid WC
  have R1 := Lib.hid (h2.out.below (Nat.le_refl _) BW0.out)
  have HW1 := Lib.hid hw1
  have HX := Lib.hid hx
  clear h h2 hw1 hwf hx WC
  have E : Hid (copiesB ns cs x = if waysB ns cs x = true then (sumL x.out : Int) else 0) := rfl
  have SB : Hid (∀ k, sumL (x.out.take k) ≤ 1000000 * 1000000) := fun k => Nat.le_trans (sumL_le _ 1000000 (fun r hr => HX.out.rl r (List.mem_of_mem_take hr))) (Nat.mul_le_mul_right _ (Nat.le_trans (by rw [List.length_take]; omega) HX.out.ol))
  go_enter Tryz.func20, Tryz.ntmps20
  go_wp2_with fail
  rw [HW1.out]
  refine HC.out.mono ?_
  rintro e w2 ⟨rfl, bel⟩
  have BE := Lib.hid bel
  have BW2 : Hid (Below w.heap.size w w2) := BW0.out.trans (bel.mono BW0.out.size)
  have c1 : w2.cell? ⟨w.heap.size + 1, 1, none⟩ = some (.slice aO x.out.length cO) := (bel.cell (by exact sz1)).trans t1
  clear bel t1 HC
  cases hb : waysB ns cs x with
  | false =>
    have F : Hid (copiesB ns cs x = 0) := by rw [Hid, E.out, hb]; rfl
    clear hb E
    go_wp2_with fail
    go_ret
    exact ⟨by rw [F.out]; rfl, BW2.out⟩
  | true =>
    have F : Hid (copiesB ns cs x = (sumL x.out : Int)) := by rw [Hid, E.out, hb]; rfl
    have hol := HX.out.ol
    clear hb E
    go_wp2_with fail
    go_loopw [5, 15] (fun n i wr => RelCp x.out w2 n i wr) (fun _ i _ => x.out.length - (RowKit.intOf i).toNat)
    case atStart => exact ⟨0, Nat.zero_le _, rfl, rfl, rfl⟩
    case round =>
      obtain ⟨k, hk, rfl, rfl, rfl⟩ := hrel
      by_cases hkr : k < x.out.length
      · obtain ⟨bo, oo, ar, capr, hao, hbo, hmr, hrr, cr0⟩ := (R1.out.below (Nat.le_refl _) BE.out).at_ k hkr
        have ST := Lib.hid (sumL_take x.out k hkr)
        have SK := SB.out k
        have hrow := HX.out.rl _ hmr
        generalize hrl : (x.out.getD k []).length = rl at *
        have R : Hid (RelCp x.out w2 (.int .i64 (((sumL (x.out.take k)) : Int) + (rl : Int))) (.int .i64 ((k + 1 : Nat) : Int)) w2) := ⟨k + 1, by omega, rfl, by rw [ST.out]; rfl, rfl⟩
        generalize sumL (x.out.take k) = sk at *
        subst hao
        have ki : (k : Int) < (x.out.length : Int) := by omega
        clear hmr hrr ST hrl
        go_wp2_with fail
        exact ⟨by simpa using R.out, by simp [RowKit.intOf]; omega⟩
      · obtain rfl : k = x.out.length := by omega
        rw [List.take_length]
        generalize sumL x.out = sk at *
        go_wp2_with fail
        go_ret
        exact ⟨by rw [F.out]; rfl, BW2.out⟩
end Go.Proofs.YtljojgpjgjfddaaGreat
