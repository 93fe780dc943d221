/- The contracts of cmp.Compare, cmp.Or at ints and of channel.compare. -/
import Derived.Test.YtljojgpjgjfddaaGreatCBase
import Derived.Sort.Grow
namespace Go.Proofs.YtljojgpjgjfddaaGreat
open Go.RowKit Go.Maps
set_option linter.unusedVariables false

def cmpZ (x y : Int) : Int := if x < y then -1 else if y < x then 1 else 0
def orL : List Int → Int
  | [] => 0
  | x :: l => if x ≠ 0 then x else orL l
def cmp3 (a b : Dp) : Int := orL [cmpZ a.1 b.1, cmpZ a.2.1 b.2.1, cmpZ a.2.2 b.2.2]
set_option maxHeartbeats 1000000 in
theorem cmpI_any (x y : Int) (w : World) : Calls Tryz.prog 56 #[.int .i64 x, .int .i64 y] w fun e w' => e = .returned (.int .i64 (cmpZ x y)) ∧ w = w' := by
  have q1 : (x != x) = false := by simp
  have q2 : (y != y) = false := by simp
  by_cases h1 : x < y
  · have F : Hid (cmpZ x y = -1) := by rw [Hid]; unfold cmpZ; rw [if_pos h1]
    go_enter Tryz.func56, Tryz.ntmps56
    go_wp2
    go_ret
    exact ⟨by rw [F.out]; rfl, rfl⟩
  · by_cases h2 : y < x
    · have F : Hid (cmpZ x y = 1) := by rw [Hid]; unfold cmpZ; rw [if_neg h1, if_pos h2]
      go_enter Tryz.func56, Tryz.ntmps56
      go_wp2
      go_ret
      exact ⟨by rw [F.out]; rfl, rfl⟩
    · have F : Hid (cmpZ x y = 0) := by rw [Hid]; unfold cmpZ; rw [if_neg h1, if_neg h2]
      go_enter Tryz.func56, Tryz.ntmps56
      go_wp2
      go_ret
      exact ⟨by rw [F.out]; rfl, rfl⟩
theorem orL_zero {l : List Int} {k : Nat} (h : ∀ x ∈ l.take k, x = 0) : orL l = orL (l.drop k) := by
  induction k generalizing l with
  | zero => rfl
  | succ k ih =>
    cases l with
    | nil => rfl
    | cons x r =>
      have hx : x = 0 := h x (by simp)
      have e : orL (x :: r) = orL r := by rw [orL, if_neg (by simp [hx])]
      rw [e, ih (fun y hy => h y (by simp [hy]))]
      rfl
def RelOr (l : List Int) (i : Value) : Prop := ∃ k : Nat, k ≤ l.length ∧ i = .int .i64 k ∧ ∀ x ∈ l.take k, x = 0
set_option maxHeartbeats 1000000 in
theorem cmpOr_any (l : List Int) (a : Option Addr) (c : Nat) (w : World) (hl : l.length ≤ 1000000) (h : IsRec 1 cI 0 w a l.length l) :
    Calls Tryz.prog 55 #[.slice a l.length c] w fun e w' => e = .returned (.int .i64 (orL l)) ∧ w = w' := by
  have H := Lib.hid h
  clear h
  go_enter Tryz.func55, Tryz.ntmps55
  go_wp2_with fail
  go_loop [8] (fun i => RelOr l i) (fun i => l.length - (RowKit.intOf i).toNat)
  case atStart => exact ⟨0, Nat.zero_le _, rfl, by simp⟩
  case round =>
    obtain ⟨k, hk, rfl, hall⟩ := hrel
    have HA := Lib.hid hall
    clear hall
    by_cases hkr : k < l.length
    · obtain ⟨b1, o1, ha1, hb1, hm1, e1⟩ := int_at H.out k hkr
      have HS : Hid (l.getD k 0 = 0 → RelOr l (.int .i64 ((k + 1 : Nat) : Int))) := fun hx => ⟨k + 1, by omega, rfl, mem_take_snoc (d := 0) (P := fun x => x = 0) hkr HA.out hx⟩
      have HY : Hid (l.getD k 0 ≠ 0 → orL l = l.getD k 0) := fun hx => by
        rw [orL_zero HA.out, List.drop_eq_getElem_cons hkr]
        have e : l.getD k 0 = l[k] := by simp [List.getD, hkr]
        rw [e] at hx ⊢
        unfold orL
        rw [if_pos hx]
      subst ha1
      generalize l.getD k 0 = x at *
      clear hm1
      cases hq : x != 0 with
      | false =>
        have R := Lib.hid (HS.out (by simpa using hq))
        clear HS HY
        go_wp2_with fail
        exact ⟨by simpa using R.out, by simp [RowKit.intOf]; omega⟩
      | true =>
        have F := Lib.hid (HY.out (by simpa using hq))
        clear HS HY
        go_wp2_with fail
        go_ret
        exact ⟨by rw [F.out]; rfl, rfl⟩
    · obtain rfl : k = l.length := by omega
      have F : Hid (orL l = 0) := by rw [Hid, orL_zero HA.out]; simp [orL]
      go_wp2_with fail
      go_ret
      exact ⟨by rw [F.out]; rfl, rfl⟩

/-- The world has drawn and grown, no more. -/
def Grown (W w' : World) : Prop := ∃ q os', w' = Sort.grow (W.drewN q) os'
theorem Grown.refl (W : World) : Grown W W := ⟨0, #[], by simp [Sort.grow_empty, World.drewN]⟩
theorem Grown.drew {W w' : World} (h : Grown W w') : Grown W w'.drew := by
  obtain ⟨q, os, rfl⟩ := h
  exact ⟨q + 1, os, rfl⟩
theorem Grown.alloc {W w' : World} (h : Grown W w') (o : Obj) : Grown W (w'.alloc o) := by
  obtain ⟨q, os, rfl⟩ := h
  exact ⟨q, os ++ #[o], by rw [Sort.alloc_eq_grow, Sort.grow_grow]⟩
theorem Grown.cell {W w' : World} (h : Grown W w') {b o : Nat} (hb : b < W.heap.size) : w'.cell? ⟨b, o, none⟩ = W.cell? ⟨b, o, none⟩ := by
  obtain ⟨q, os, rfl⟩ := h
  rw [Sort.cell?_grow _ _ _ (by exact hb)]; rfl
theorem Grown.trans {A B C : World} (h : Grown A B) (k : Grown B C) : Grown A C := by
  obtain ⟨q, os, rfl⟩ := h
  obtain ⟨q', os', rfl⟩ := k
  exact ⟨q + q', os ++ os', by unfold Sort.grow World.drewN; simp [Array.append_assoc, Nat.add_assoc]⟩
theorem Grown.below {W w' : World} (h : Grown W w') : Below W.heap.size W w' := by
  obtain ⟨q, os, rfl⟩ := h
  exact ⟨rfl, rfl, rfl, by simp [Sort.grow], fun i hi => by rw [Sort.heap_grow_old _ _ (by exact hi)]; rfl⟩
set_option maxRecDepth 100000 in
set_option maxHeartbeats 2000000 in
theorem compare_any (x y : Dp) (w : World) : Calls Tryz.prog 42 #[.agg #[.int .i64 x.1, .int .i64 x.2.1, .int .i64 x.2.2], .agg #[.int .i64 y.1, .int .i64 y.2.1, .int .i64 y.2.2]] w fun e w' => e = .returned (.int .i64 (cmp3 x y)) ∧ Grown w w' := by
  obtain ⟨x0, x1, x2⟩ := x
  obtain ⟨y0, y1, y2⟩ := y
  simp only
  obtain ⟨w1, hw1⟩ : ∃ w1 : World, (w.alloc (.cells #[.int .i64 x0, .int .i64 x1, .int .i64 x2] 69)).alloc (.cells #[.int .i64 y0, .int .i64 y1, .int .i64 y2] 69) = w1 := ⟨_, rfl⟩
  have s0 : w1.cell? ⟨w.heap.size, 0, none⟩ = some (.int .i64 x0) := by rw [← hw1]; simp [go_sem]
  have s1 : w1.cell? ⟨w.heap.size, 1, none⟩ = some (.int .i64 x1) := by rw [← hw1]; simp [go_sem]
  have s2 : w1.cell? ⟨w.heap.size, 2, none⟩ = some (.int .i64 x2) := by rw [← hw1]; simp [go_sem]
  have t0 : w1.cell? ⟨w.heap.size + 1, 0, none⟩ = some (.int .i64 y0) := by rw [← hw1]; simp [go_sem]
  have t1 : w1.cell? ⟨w.heap.size + 1, 1, none⟩ = some (.int .i64 y1) := by rw [← hw1]; simp [go_sem]
  have t2 : w1.cell? ⟨w.heap.size + 1, 2, none⟩ = some (.int .i64 y2) := by rw [← hw1]; simp [go_sem]
  have sz1 : w.heap.size + 1 < w1.heap.size := by rw [← hw1]; simp
  have GW : Hid (Grown w w1) := by rw [Hid, ← hw1]; exact ((Grown.refl w).alloc _).alloc _
  have HW1 := Lib.hid hw1
  clear hw1
  have KP : Hid (∀ w', Grown w1 w' → w'.cell? ⟨w.heap.size, 0, none⟩ = some (.int .i64 x0) ∧ w'.cell? ⟨w.heap.size, 1, none⟩ = some (.int .i64 x1) ∧ w'.cell? ⟨w.heap.size, 2, none⟩ = some (.int .i64 x2) ∧ w'.cell? ⟨w.heap.size + 1, 0, none⟩ = some (.int .i64 y0) ∧ w'.cell? ⟨w.heap.size + 1, 1, none⟩ = some (.int .i64 y1) ∧ w'.cell? ⟨w.heap.size + 1, 2, none⟩ = some (.int .i64 y2) ∧ Grown w1 w') :=
    fun w' h => ⟨(h.cell (by omega)).trans s0, (h.cell (by omega)).trans s1, (h.cell (by omega)).trans s2, (h.cell (by omega)).trans t0, (h.cell (by omega)).trans t1, (h.cell (by omega)).trans t2, h⟩
  clear s0 s1 s2 t0 t1 t2
  have RC : Hid (IsRec 1 cI 0 (w1.alloc (.cells #[.int .i64 (cmpZ x0 y0), .int .i64 (cmpZ x1 y1), .int .i64 (cmpZ x2 y2)] 3)).drew (some ⟨w1.heap.size, 0, none⟩) 3 [cmpZ x0 y0, cmpZ x1 y1, cmpZ x2 y2]) := by
    refine ⟨rfl, fun _ => ⟨_, 0, rfl, by simp, fun i j hi hj => ?_⟩⟩
    rw [((Blk.new w1 3 _).drew).cell]
    obtain rfl : j = 0 := by omega
    match i, hi with
    | 0, _ => rfl
    | 1, _ => rfl
    | 2, _ => rfl
  go_enter Tryz.func42, Tryz.ntmps42
  go_wp2_with fail
  rw [HW1.out]
  go_region_held3 (fun w' => w'.cell? ⟨w.heap.size, 0, none⟩ = some (.int .i64 x0) ∧ w'.cell? ⟨w.heap.size, 1, none⟩ = some (.int .i64 x1) ∧ w'.cell? ⟨w.heap.size, 2, none⟩ = some (.int .i64 x2) ∧ w'.cell? ⟨w.heap.size + 1, 0, none⟩ = some (.int .i64 y0) ∧ w'.cell? ⟨w.heap.size + 1, 1, none⟩ = some (.int .i64 y1) ∧ w'.cell? ⟨w.heap.size + 1, 2, none⟩ = some (.int .i64 y2) ∧ Grown w1 w')
    (first | exact KP.out _ ((Grown.refl _).drew) | exact KP.out _ (((Grown.refl _).alloc _).drew))
    (first
      | (go_at_call 56; refine (cmpI_any _ _ _).mono ?_; rintro e w' ⟨rfl, rfl⟩)
      | (go_at_call 55; refine (cmpOr_any [cmpZ x0 y0, cmpZ x1 y1, cmpZ x2 y2] _ _ _ (by simp) RC.out).mono ?_; rintro e w' ⟨rfl, rfl⟩))
  all_goals
    go_wp2_with fail
    go_ret
    exact ⟨rfl, GW.out.trans (((Grown.refl _).alloc _).drew)⟩
end Go.Proofs.YtljojgpjgjfddaaGreat
