/- The contracts of tree.Valid and tree.Copies. -/
import Derived.Test.YtljojgpjgjfddaaTWays
namespace Go.Proofs.Ytljojgpjgjfddaa
open Go.RowKit Go.Maps
set_option linter.unusedVariables false
set_option linter.unusedSimpArgs false

/-- What the contracts ask of a tree: small lists. -/
structure SmallT (x : Tr) : Prop where
  ol : x.out.length ≤ 1000000
  rl : ∀ r ∈ x.out, r.length ≤ 1000000
  dl : x.del.length ≤ 1000000
/-- The tree in memory. -/
structure IsTree (w : World) (aO aD : Option Addr) (x : Tr) : Prop where
  out : IsRows w aO x.out.length x.out
  del : IsRec 1 cI 0 w aD x.del.length x.del
theorem IsTree.below {w w' : World} {B : Nat} {aO aD : Option Addr} {x : Tr} (h : IsTree w aO aD x) (hB : w.heap.size ≤ B) (hb : Below B w w') : IsTree w' aO aD x := ⟨h.out.below hB hb, h.del.below hB hb⟩
def trV (x : Tr) (aO aD : Option Addr) (cO cD : Nat) : Value := .agg #[.int .i64 x.src, .slice aO x.out.length cO, .slice aD x.del.length cD]
theorem tvalid_any (ns : List Nd) (cs : List Cb) (x : Tr) (An Ac aO aD : Option Addr) (cn cc cO cD : Nat) (w : World) (hl : ns.length ≤ 1000000) (hl2 : cs.length ≤ 1000000) (hwf : WfP ⟨ns, cs⟩) (hx : SmallT x) (h : IsPlan w An Ac ⟨ns, cs⟩) (h2 : IsTree w aO aD x) :
    Calls Try.prog 33 #[.agg #[.slice An ns.length cn, .slice Ac cs.length cc], trV x aO aD cO cD] w fun e w' => e = .returned (.bool (waysB ns cs x)) ∧ Below w.heap.size w w' := by
  unfold trV
  obtain ⟨w1, hw1⟩ : ∃ w1 : World, (w.alloc (.cells #[.slice An ns.length cn, .slice Ac cs.length cc] 25)).alloc (.cells #[.int .i64 x.src, .slice aO x.out.length cO, .slice aD x.del.length cD] 61) = w1 := ⟨_, rfl⟩
  have BW0 : Hid (Below w.heap.size w w1) := by rw [Hid, ← hw1]; exact ((Below.refl _ _).alloc (Nat.le_refl _) _).alloc (by simp) _
  have WC := Lib.hid (ways_any ns cs x An Ac aO aD cn cc cO cD w1 hl hl2 hwf hx.ol hx.rl hx.dl (h.below (Nat.le_refl _) BW0.out) (h2.out.below (Nat.le_refl _) BW0.out) (h2.del.below (Nat.le_refl _) BW0.out))
  have HW1 := Lib.hid hw1
  clear h h2 hw1 hwf hx
  go_enter Try.func33, Try.ntmps33
  go_wp2_with fail
  rw [HW1.out]
  refine WC.out.mono ?_
  rintro e w2 ⟨bel, hr⟩
  have BW2 : Hid (Below w.heap.size w w2) := BW0.out.trans (bel.mono BW0.out.size)
  clear bel
  rcases hr with ⟨hb, rfl⟩ | ⟨hb, g, rfl, _, _⟩
  all_goals
    have HB := Lib.hid hb
    clear hb
    go_wp2_with fail
    go_ret
    exact ⟨by rw [HB.out]; rfl, BW2.out⟩
def sumL (rows : List (List Int)) : Nat := (rows.map List.length).sum
def copiesB (ns : List Nd) (cs : List Cb) (x : Tr) : Int := if waysB ns cs x = true then (sumL x.out : Int) else 0
theorem sumL_take (rows : List (List Int)) (k : Nat) (hk : k < rows.length) : sumL (rows.take (k + 1)) = sumL (rows.take k) + (rows.getD k []).length := by
  unfold sumL; rw [take_snocG [] rows k hk, List.map_append, List.sum_append]; simp
def RelCp (rows : List (List Int)) (w2 : World) (n i : Value) (wr : World) : Prop := ∃ k : Nat, k ≤ rows.length ∧ i = .int .i64 k ∧ n = .int .i64 (sumL (rows.take k) : Int) ∧ w2 = wr
theorem sumL_le (rows : List (List Int)) (m : Nat) (h : ∀ r ∈ rows, r.length ≤ m) : sumL rows ≤ rows.length * m := by
  unfold sumL
  induction rows with
  | nil => simp
  | cons r l ih =>
    rw [List.map_cons, List.sum_cons, List.length_cons, Nat.succ_mul]
    have := h r (List.mem_cons_self ..)
    have := ih (fun r hr => h r (List.mem_cons_of_mem _ hr))
    omega
set_option maxHeartbeats 1000000 in
theorem tcopies_any (ns : List Nd) (cs : List Cb) (x : Tr) (An Ac aO aD : Option Addr) (cn cc cO cD : Nat) (w : World) (hl : ns.length ≤ 1000000) (hl2 : cs.length ≤ 1000000) (hwf : WfP ⟨ns, cs⟩) (hx : SmallT x) (h : IsPlan w An Ac ⟨ns, cs⟩) (h2 : IsTree w aO aD x) :
    Calls Try.prog 32 #[.agg #[.slice An ns.length cn, .slice Ac cs.length cc], trV x aO aD cO cD] w fun e w' => e = .returned (.int .i64 (copiesB ns cs x)) ∧ Below w.heap.size w w' := by
  unfold trV
  obtain ⟨w1, hw1⟩ : ∃ w1 : World, (w.alloc (.cells #[.slice An ns.length cn, .slice Ac cs.length cc] 25)).alloc (.cells #[.int .i64 x.src, .slice aO x.out.length cO, .slice aD x.del.length cD] 61) = w1 := ⟨_, rfl⟩
  have BW0 : Hid (Below w.heap.size w w1) := by rw [Hid, ← hw1]; exact ((Below.refl _ _).alloc (Nat.le_refl _) _).alloc (by simp) _
  have t1 : w1.cell? ⟨w.heap.size + 1, 1, none⟩ = some (.slice aO x.out.length cO) := by rw [← hw1]; simp [go_sem]
  have sz1 : w.heap.size + 1 < w1.heap.size := by rw [← hw1]; simp
  have WC := tvalid_any ns cs x An Ac aO aD cn cc cO cD w1 hl hl2 hwf hx (h.below (Nat.le_refl _) BW0.out) (h2.below (Nat.le_refl _) BW0.out)
  unfold trV at WC
  have HC := Lib.hid WC
  have R1 := Lib.hid (h2.out.below (Nat.le_refl _) BW0.out)
  have HW1 := Lib.hid hw1
  have HX := Lib.hid hx
  clear h h2 hw1 hwf hx WC
  have E : Hid (copiesB ns cs x = if waysB ns cs x = true then (sumL x.out : Int) else 0) := rfl
  have SB : Hid (∀ k, sumL (x.out.take k) ≤ 1000000 * 1000000) := fun k => Nat.le_trans (sumL_le _ 1000000 (fun r hr => HX.out.rl r (List.mem_of_mem_take hr))) (Nat.mul_le_mul_right _ (Nat.le_trans (by rw [List.length_take]; omega) HX.out.ol))
  go_enter Try.func32, Try.ntmps32
  go_wp2_with fail
  rw [HW1.out]
  refine HC.out.mono ?_
  rintro e w2 ⟨rfl, bel⟩
  have BE := Lib.hid bel
  have BW2 : Hid (Below w.heap.size w w2) := BW0.out.trans (bel.mono BW0.out.size)
  have c1 : w2.cell? ⟨w.heap.size + 1, 1, none⟩ = some (.slice aO x.out.length cO) := (bel.cell (by exact sz1)).trans t1
  clear bel t1 HC
  cases hb : waysB ns cs x with
  | false =>
    have F : Hid (copiesB ns cs x = 0) := by rw [Hid, E.out, hb]; rfl
    clear hb E
    go_wp2_with fail
    go_ret
    exact ⟨by rw [F.out]; rfl, BW2.out⟩
  | true =>
    have F : Hid (copiesB ns cs x = (sumL x.out : Int)) := by rw [Hid, E.out, hb]; rfl
    have hol := HX.out.ol
    clear hb E
    go_wp2_with fail
    go_loopw [5, 15] (fun n i wr => RelCp x.out w2 n i wr) (fun _ i _ => x.out.length - (RowKit.intOf i).toNat)
    case atStart => exact ⟨0, Nat.zero_le _, rfl, rfl, rfl⟩
    case round =>
      obtain ⟨k, hk, rfl, rfl, rfl⟩ := hrel
      by_cases hkr : k < x.out.length
      · obtain ⟨bo, oo, ar, capr, hao, hbo, hmr, hrr, cr0⟩ := (R1.out.below (Nat.le_refl _) BE.out).at_ k hkr
        have ST := Lib.hid (sumL_take x.out k hkr)
        have SK := SB.out k
        have hrow := HX.out.rl _ hmr
        generalize hrl : (x.out.getD k []).length = rl at *
        have R : Hid (RelCp x.out w2 (.int .i64 (((sumL (x.out.take k)) : Int) + (rl : Int))) (.int .i64 ((k + 1 : Nat) : Int)) w2) := ⟨k + 1, by omega, rfl, by rw [ST.out]; rfl, rfl⟩
        generalize sumL (x.out.take k) = sk at *
        subst hao
        have ki : (k : Int) < (x.out.length : Int) := by omega
        clear hmr hrr ST hrl
        go_wp2_with fail
        exact ⟨by simpa using R.out, by simp [RowKit.intOf]; omega⟩
      · obtain rfl : k = x.out.length := by omega
        rw [List.take_length]
        generalize sumL x.out = sk at *
        go_wp2_with fail
        go_ret
        exact ⟨by rw [F.out]; rfl, BW2.out⟩
end Go.Proofs.Ytljojgpjgjfddaa
